import Derived.Test.YtambgnjkakdoeaaGreatDoorPieces12
/- PART OF A PROOF (texts joined by a program): F46 F47 B4 F36 F37 F48 Q5 F49 F50 F51. -/
set_option linter.unusedVariables false
set_option linter.unusedSimpArgs false
set_option linter.unusedSectionVars false
/- ARCHIVES, WRITTEN PIECE BY PIECE: Add, when there are entries. -/
namespace Go.Abs
open Am
set_option maxRecDepth 10000
set_option linter.unusedSimpArgs false
theorem s64c (es : List AVal) (n : Nat) (cl : Bool) : callT AA 64 [.own 0 8 0 n cl] [(0, .row es 8)] = some (.own 0 8 0 n true, [(0, .row es 8)]) := by
  refine enter fn64 np64 rfl ?_
  (simp (maxSteps := 2000000) (disch := omega) only [b64, go_sem]) <;> repeat' (first | ((first | refine gd_dec ?_ ?_ | refine gd_ndec ?_ ?_ | refine cd_dec ?_ ?_ | refine cd_ndec ?_ ?_ | refine gdd_dec ?_ ?_ | refine gdd_ndec ?_ ?_ | refine gd_of ?_ ?_ | refine cd_of ?_ ?_ | refine gdd_of ?_ ?_) <;> intro hg <;> first | (exfalso; omega) | (simp (maxSteps := 2000000) (disch := omega) only [hg, b64, go_sem])) | (refine And.intro ?_ ?_; focus omega) | omega)
theorem s32c (es : List AVal) (n : Nat) (cl : Bool) : callT AA 32 [.ptr 0 0] [(0, .var [.own 1 8 0 n cl]), (1, .row es 8)] = some (.own 2 1 0 1024 false, [(0, .var [.lit (.slice none 0 0)]), (1, .row es 8), (2, .row (zeros1024.map .byte) 1)]) := by
  refine enter fn32 np32 rfl ?_
  (simp (maxSteps := 2000000) (disch := omega) only [b32, zeros1024_eq, go_sem]) <;> repeat' (first | ((first | refine gd_dec ?_ ?_ | refine gd_ndec ?_ ?_ | refine cd_dec ?_ ?_ | refine cd_ndec ?_ ?_ | refine gdd_dec ?_ ?_ | refine gdd_ndec ?_ ?_ | refine gd_of ?_ ?_ | refine cd_of ?_ ?_ | refine gdd_of ?_ ?_) <;> intro hg <;> first | (exfalso; omega) | (simp (maxSteps := 2000000) (disch := omega) only [hg, b32, zeros1024_eq, go_sem])) | (refine And.intro ?_ ?_; focus omega) | omega)
theorem s30c (es : List AVal) (n : Nat) (cl : Bool) : callT AA 30 [.ptr 0 0] [(0, .var [.own 1 8 0 n cl]), (1, .row es 8)] = some (.int .i64 n, [(0, .var [.own 1 8 0 n cl]), (1, .row es 8)]) := by
  refine enter fn30 np30 rfl ?_
  (simp (maxSteps := 2000000) (disch := omega) only [b30, go_sem]) <;> repeat' (first | ((first | refine gd_dec ?_ ?_ | refine gd_ndec ?_ ?_ | refine cd_dec ?_ ?_ | refine cd_ndec ?_ ?_ | refine gdd_dec ?_ ?_ | refine gdd_ndec ?_ ?_ | refine gd_of ?_ ?_ | refine cd_of ?_ ?_ | refine gdd_of ?_ ?_) <;> intro hg <;> first | (exfalso; omega) | (simp (maxSteps := 2000000) (disch := omega) only [hg, b30, go_sem])) | (refine And.intro ?_ ?_; focus omega) | omega)
theorem s30e : callT AA 30 [.ptr 0 0] [(0, .var [.lit (.slice none 0 0)])] = some (.int .i64 0, [(0, .var [.lit (.slice none 0 0)])]) := by
  refine enter fn30 np30 rfl ?_
  (simp (maxSteps := 2000000) (disch := omega) only [b30, go_sem]) <;> repeat' (first | ((first | refine gd_dec ?_ ?_ | refine gd_ndec ?_ ?_ | refine cd_dec ?_ ?_ | refine cd_ndec ?_ ?_ | refine gdd_dec ?_ ?_ | refine gdd_ndec ?_ ?_ | refine gd_of ?_ ?_ | refine cd_of ?_ ?_ | refine gdd_of ?_ ?_) <;> intro hg <;> first | (exfalso; omega) | (simp (maxSteps := 2000000) (disch := omega) only [hg, b30, go_sem])) | (refine And.intro ?_ ?_; focus omega) | omega)
theorem entOkB_cp {e : Ent} (h : EntOkB e) : EntOkB e.cp := ⟨h.1, h.2.1, by show e.data.cp.l.length ≤ _; rw [cp_l]; exact h.2.2.1, cp_isTmp⟩
/-- nothing is added to entries -/
theorem s29ce (c tmp : Bool) (T : List Ent) (n : Nat) (cl : Bool) (hn : n = T.length) (hq : ∀ e ∈ T, EntOkB e) (hl : T.length ≤ 200) (hc : (checkT T).2 = 0) :
    callT AA 29 [.ptr 0 0, .view 8 [] c tmp] [(0, .var [.own 1 8 0 n cl]), (1, .row (T.map Ent.av) 8)] = some (.tuple [.lit (.slice none 0 0), .lit .nilIface], [(0, .var [.own 1 8 0 n true]), (1, .row (T.map Ent.av) 8)]) := by
  have et : (T.map Ent.av).take n = T.map Ent.av := List.take_of_length_le (by simp; omega)
  have h31 := fun c t => s31b c t T hq (by omega)
  have hv : errV (checkT T).2 = .lit .nilIface := by unfold errV; rw [if_pos hc]
  rw [hv] at h31
  have h64 := s64c (T.map Ent.av) n cl
  generalize (checkT T).1 = cp at *
  refine enter fn29 np29 rfl ?_
  (simp (maxSteps := 2000000) (disch := omega) only [b29, h64, s65e, h31, et, lp_head, go_sem]) <;> repeat' (first | ((first | refine gd_dec ?_ ?_ | refine gd_ndec ?_ ?_ | refine cd_dec ?_ ?_ | refine cd_ndec ?_ ?_ | refine gdd_dec ?_ ?_ | refine gdd_ndec ?_ ?_ | refine gd_of ?_ ?_ | refine cd_of ?_ ?_ | refine gdd_of ?_ ?_) <;> intro hg <;> first | (exfalso; omega) | (simp (maxSteps := 2000000) (disch := omega) only [hg, b29, h64, s65e, h31, et, lp_head, go_sem])) | (refine And.intro ?_ ?_; focus omega) | omega)
  refine hd_of (by unfold l29_0; rfl) ?_
  (simp (maxSteps := 2000000) (disch := omega) only [r29_0, go_sem]) <;> repeat' (first | ((first | refine gd_dec ?_ ?_ | refine gd_ndec ?_ ?_ | refine cd_dec ?_ ?_ | refine cd_ndec ?_ ?_ | refine gdd_dec ?_ ?_ | refine gdd_ndec ?_ ?_ | refine gd_of ?_ ?_ | refine cd_of ?_ ?_ | refine gdd_of ?_ ?_) <;> intro hg <;> first | (exfalso; omega) | (simp (maxSteps := 2000000) (disch := omega) only [hg, r29_0, go_sem])) | (refine And.intro ?_ ?_; focus omega) | omega)
set_option maxHeartbeats 2000000 in
theorem h29c (c tmp : Bool) (t T : List Ent) (es : List AVal) (m n0 : Nat) (cl : Bool) (ht : n0 + t.length ≤ 200) (hn0 : n0 = T.length) (r0 : List UInt8) : ∀ (rest done : List Ent) (out : List UInt8) (n i : Int) (q : Nat), t = done ++ rest → i = done.length → n = t.length → q = out.length → out.length ≤ 3000000 * done.length → PiecesOk (n0 + done.length) rest → r0 = out ++ outL (n0 + done.length) rest →
    HD AA 2 [0, 4, 5, 6, 9, 33, 34, 35] l29_0 ⟨[.ptr 0 0, .junk, .junk, .junk, .lit (.slice none 0 0), .lit .nilIface, .own 2 8 0 m false, .junk, .junk, .own 3 1 0 q false, .junk, .junk, .junk, .junk, .junk, .junk, .junk, .junk, .junk, .junk, .junk, .junk, .junk, .junk, .junk, .junk, .junk, .junk, .junk, .junk, .junk, .junk, .junk, .view 8 (t.map Ent.av) c tmp, .int .i64 n, .int .i64 i, .junk, .junk, .junk, .junk, .junk, .junk, .junk, .junk, .junk, .junk, .junk, .junk, .junk, .junk, .junk, .junk, .junk, .junk, .junk, .junk, .junk, .junk, .junk, .junk, .junk, .junk, .junk, .junk], [(0, .var [.own 1 8 0 n0 cl]), (1, .row (T.map Ent.av) 8), (2, .row es 8), (3, .row (out.map .byte) 1)], 6⟩ [.blk 0, .code r29_0] (Fin [(4, none), (5, none)] 2 (.tuple [.own 3 1 0 r0.length false, .lit .nilIface]) [(0, .var [.own 2 8 0 m false]), (1, .row (T.map Ent.av) 8), (2, .row es 8), (3, .row (r0.map .byte) 1)])
  | [], done, out, n, i, q, h1, h2, h3, h4, h5, h6, h7 => by
    subst h1
    simp at h3
    refine hd_of (by unfold l29_0; rfl) ?_
    simp only [outL, List.append_nil] at h7
    rw [h7]
    (simp (maxSteps := 2000000) (disch := omega) only [r29_0, go_sem]) <;> repeat' (first | ((first | refine gd_dec ?_ ?_ | refine gd_ndec ?_ ?_ | refine cd_dec ?_ ?_ | refine cd_ndec ?_ ?_ | refine gdd_dec ?_ ?_ | refine gdd_ndec ?_ ?_ | refine gd_of ?_ ?_ | refine cd_of ?_ ?_ | refine gdd_of ?_ ?_) <;> intro hg <;> first | (exfalso; omega) | (simp (maxSteps := 2000000) (disch := omega) only [hg, r29_0, go_sem])) | (refine And.intro ?_ ?_; focus omega) | omega)
    simp [h4]
  | e :: rest, done, out, n, i, q, h1, h2, h3, h4, h5, h6, h7 => by
    have hg0 : t[i.toNat]? = some e := by
      rw [h1]
      simp [h2]
    have hl : i.toNat < t.length := by rw [h1]; simp; omega
    obtain ⟨hb, hd, hok, hrest⟩ := h6
    have hp := s66 ((n0 : Int) + i) (by omega) (by rw [h1] at ht; simp at ht; omega) e hb (by omega) (by rw [h2]; exact_mod_cast hok)
    have et : (out.map AVal.byte).take q = out.map .byte := List.take_of_length_le (by simp; omega)
    have hpl := pieceL_le hd hok
    simp only [outL] at h7
    have hnn : ((n0 : Int) + i) = ((n0 + done.length : Nat) : Int) := by omega
    rw [hnn] at hp
    have h7' : r0 = (out ++ pieceL ((n0 + done.length : Nat) : Int) e) ++ outL (n0 + done.length + 1) rest := by rw [h7]; simp
    generalize hP : pieceL ((n0 + done.length : Nat) : Int) e = P at *
    have ih := h29c c tmp t T es m n0 cl ht hn0 r0 rest (done ++ [e]) (out ++ P) n (i + 1) (q + P.length) (by simp [h1]) (by simp; omega) h3 (by simp; omega) (by simp; omega) (by simpa [Nat.add_assoc] using hrest) (by simpa [Nat.add_assoc] using h7')
    simp only [Ent.av] at hp
    rw [← hnn] at hp
    have hdl : done.length ≤ 200 := by rw [h1] at ht; simp at ht; omega
    refine hd_of (by unfold l29_0; rfl) ?_
    (simp (maxSteps := 2000000) (disch := omega) only [hp, hg0, et, lp_head, ← List.map_append, go_sem]) <;> repeat' (first | ((first | refine gd_dec ?_ ?_ | refine gd_ndec ?_ ?_ | refine cd_dec ?_ ?_ | refine cd_ndec ?_ ?_ | refine gdd_dec ?_ ?_ | refine gdd_ndec ?_ ?_ | refine gd_of ?_ ?_ | refine cd_of ?_ ?_ | refine gdd_of ?_ ?_) <;> intro hg <;> first | (exfalso; omega) | (simp (maxSteps := 2000000) (disch := omega) only [hg, hp, hg0, et, lp_head, ← List.map_append, go_sem])) | (refine And.intro ?_ ?_; focus omega) | omega)
end Go.Abs
/- ARCHIVES, WRITTEN PIECE BY PIECE: Add, when there are entries. -/
namespace Go.Abs
open Am
set_option maxRecDepth 10000
set_option linter.unusedSimpArgs false
theorem pieces_small {l : List Ent} {i : Nat} (h : PiecesOk i l) : ∀ x ∈ l, x.data.l.length ≤ 281474976710656 / 4 := by
  induction l generalizing i with
  | nil => intro x hx; cases hx
  | cons a b ih =>
    intro x hx
    rcases List.mem_cons.1 hx with rfl | hx
    · exact Nat.le_trans h.2.1 (by decide)
    · exact ih h.2.2.2 x hx
theorem cons_ne {e : Ent} {r : List Ent} : ((e :: r).map Ent.cav).isEmpty = false := rfl
set_option maxHeartbeats 2000000 in
theorem s29c (c tmp : Bool) (T : List Ent) (n0 : Nat) (cl : Bool) (e : Ent) (r : List Ent) (hn : n0 = T.length) (ht : n0 + (e :: r).length ≤ 200) (hq : ∀ x ∈ T ++ (e :: r).map Ent.cp, EntOkB x) (hc : (checkT (T ++ (e :: r).map Ent.cp)).2 = 0) (hok : PiecesOk n0 (e :: r)) :
    callT AA 29 [.ptr 0 0, .view 8 ((e :: r).map Ent.av) c tmp] [(0, .var [.own 1 8 0 n0 cl]), (1, .row (T.map Ent.av) 8)] = some (.tuple [.own 3 1 0 (outL n0 (e :: r)).length false, .lit .nilIface], [(0, .var [.own 2 8 0 (n0 + (e :: r).length) false]), (1, .row (T.map Ent.av) 8), (2, .row ((T ++ (e :: r).map Ent.cp).map Ent.av) 8), (3, .row ((outL n0 (e :: r)).map .byte) 1)]) := by
  have h65 := s65 c tmp e r (by omega) (pieces_small hok)
  have h31 := fun cl tm => s31b cl tm (T ++ (e :: r).map Ent.cp) hq (by simp at ht ⊢; omega)
  have hv : errV (checkT (T ++ (e :: r).map Ent.cp)).2 = .lit .nilIface := by unfold errV; rw [if_pos hc]
  rw [hv] at h31
  have hT : (T ++ (e :: r).map Ent.cp).map Ent.av = T.map Ent.av ++ (e :: r).map Ent.cav := by rw [List.map_append, ← cav_eq]
  rw [hT] at h31 ⊢
  obtain ⟨hb, hde, hoke, hrest⟩ := hok
  have hp := s66 (n0 : Int) (by omega) (by simp at ht; omega) e hb (by omega) hoke
  have hpl := pieceL_le (n := (n0 : Int)) hde hoke
  have hh := h29c c tmp (e :: r) T (T.map Ent.av ++ (e :: r).map Ent.cav) (n0 + (e :: r).length) n0 cl ht hn (outL n0 (e :: r)) r [e] (pieceL n0 e) (e :: r).length 1 (pieceL n0 e).length rfl rfl rfl rfl (by simp only [List.length_singleton]; omega) hrest (by simp [outL])
  have hPn : ((pieceL n0 e).map AVal.byte).isEmpty = false := by
    cases hz : pieceL n0 e with
    | nil => rw [hz] at hpl; simp at hpl
    | cons x y => rfl
  have hg0 : (e :: r)[0]? = some e := rfl
  have hl : 0 < (e :: r).length := by simp
  have h64 := s64c (T.map Ent.av) n0 cl
  have et : (T.map Ent.av).take n0 = T.map Ent.av := List.take_of_length_le (by simp; omega)
  have hne := cons_ne (e := e) (r := r)
  have hlc : ((e :: r).map Ent.cav).length = (e :: r).length := List.length_map ..
  have hlt : (T.map Ent.av).length = n0 := by rw [List.length_map, hn]
  have hz0 : (n0 : Int) + 0 = n0 := by omega
  simp only [Ent.av] at hp
  have ea : (T.map Ent.av ++ (e :: r).map Ent.cav).take (n0 + (e :: r).length) = T.map Ent.av ++ (e :: r).map Ent.cav := List.take_of_length_le (by simp; omega)
  generalize outL n0 (e :: r) = O at *
  generalize (pieceL n0 e) = P at *
  generalize (checkT (T ++ (e :: r).map Ent.cp)).1 = cp at *
  clear hc hv hrest hoke hb hT
  generalize e :: r = t at *
  refine enter fn29 np29 rfl ?_
  (simp (maxSteps := 2000000) (disch := omega) only [b29, h64, h65, h31, hne, et, ea, hlc, hlt, lp_head, go_sem]) <;> repeat' (first | ((first | refine gd_dec ?_ ?_ | refine gd_ndec ?_ ?_ | refine cd_dec ?_ ?_ | refine cd_ndec ?_ ?_ | refine gdd_dec ?_ ?_ | refine gdd_ndec ?_ ?_ | refine gd_of ?_ ?_ | refine cd_of ?_ ?_ | refine gdd_of ?_ ?_) <;> intro hg <;> first | (exfalso; omega) | (simp (maxSteps := 2000000) (disch := omega) only [hg, b29, h64, h65, h31, hne, et, ea, hlc, hlt, lp_head, go_sem])) | (refine And.intro ?_ ?_; focus omega) | omega)
  refine hd_of (by unfold l29_0; rfl) ?_
  (simp (maxSteps := 2000000) (disch := omega) only [hp, hg0, hPn, hz0, lp_head, go_sem]) <;> repeat' (first | ((first | refine gd_dec ?_ ?_ | refine gd_ndec ?_ ?_ | refine cd_dec ?_ ?_ | refine cd_ndec ?_ ?_ | refine gdd_dec ?_ ?_ | refine gdd_ndec ?_ ?_ | refine gd_of ?_ ?_ | refine cd_of ?_ ?_ | refine gdd_of ?_ ?_) <;> intro hg <;> first | (exfalso; omega) | (simp (maxSteps := 2000000) (disch := omega) only [hg, hp, hg0, hPn, hz0, lp_head, go_sem])) | (refine And.intro ?_ ?_; focus omega) | omega)
theorem s29cno (c tmp : Bool) (T : List Ent) (n0 : Nat) (cl : Bool) (e : Ent) (r : List Ent) (hn : n0 = T.length) (ht : n0 + (e :: r).length ≤ 1000000) (hq : ∀ x ∈ T ++ (e :: r).map Ent.cp, EntOkB x) (hc : (checkT (T ++ (e :: r).map Ent.cp)).2 ≠ 0) (hd : ∀ x ∈ e :: r, x.data.l.length ≤ 281474976710656 / 4) :
    callT AA 29 [.ptr 0 0, .view 8 ((e :: r).map Ent.av) c tmp] [(0, .var [.own 1 8 0 n0 cl]), (1, .row (T.map Ent.av) 8)] = some (.tuple [.lit (.slice none 0 0), .iface 58 (.int .i64 (checkT (T ++ (e :: r).map Ent.cp)).2)], [(0, .var [.own 1 8 0 n0 cl]), (1, .row (T.map Ent.av) 8)]) := by
  have h65 := s65 c tmp e r (by omega) hd
  have h31 := fun cl tm => s31b cl tm (T ++ (e :: r).map Ent.cp) hq (by simp at ht ⊢; omega)
  have hT : (T ++ (e :: r).map Ent.cp).map Ent.av = T.map Ent.av ++ (e :: r).map Ent.cav := by rw [List.map_append, ← cav_eq]
  rw [hT] at h31
  generalize checkT (T ++ (e :: r).map Ent.cp) = C at *
  have hv : errV C.2 = .iface 58 (.int .i64 C.2) := by unfold errV; rw [if_neg hc]
  rw [hv] at h31
  have h64 := s64c (T.map Ent.av) n0 cl
  have et : (T.map Ent.av).take n0 = T.map Ent.av := List.take_of_length_le (by simp; omega)
  have hne := cons_ne (e := e) (r := r)
  have hlc : ((e :: r).map Ent.cav).length = (e :: r).length := List.length_map ..
  have hlt : (T.map Ent.av).length = n0 := by rw [List.length_map, hn]
  have ea : (T.map Ent.av ++ (e :: r).map Ent.cav).take (n0 + (e :: r).length) = T.map Ent.av ++ (e :: r).map Ent.cav := List.take_of_length_le (by simp; omega)
  clear hT hv
  generalize e :: r = t at *
  refine enter fn29 np29 rfl ?_
  (simp (maxSteps := 2000000) (disch := omega) only [b29, h64, h65, h31, hne, et, ea, hlc, hlt, go_sem]) <;> repeat' (first | ((first | refine gd_dec ?_ ?_ | refine gd_ndec ?_ ?_ | refine cd_dec ?_ ?_ | refine cd_ndec ?_ ?_ | refine gdd_dec ?_ ?_ | refine gdd_ndec ?_ ?_ | refine gd_of ?_ ?_ | refine cd_of ?_ ?_ | refine gdd_of ?_ ?_) <;> intro hg <;> first | (exfalso; omega) | (simp (maxSteps := 2000000) (disch := omega) only [hg, b29, h64, h65, h31, hne, et, ea, hlc, hlt, go_sem])) | (refine And.intro ?_ ?_; focus omega) | omega)
theorem s29nob (c tmp : Bool) (e : Ent) (r : List Ent) (ht : (e :: r).length ≤ 1000000) (hq : ∀ x ∈ e :: r, EntOkB x) (he : (checkT ((e :: r).map Ent.cp)).2 ≠ 0) (hd : ∀ x ∈ e :: r, x.data.l.length ≤ 281474976710656 / 4) :
    callT AA 29 [.ptr 0 0, .view 8 ((e :: r).map Ent.av) c tmp] [(0, .var [.lit (.slice none 0 0)])] = some (.tuple [.lit (.slice none 0 0), .iface 58 (.int .i64 (checkT ((e :: r).map Ent.cp)).2)], [(0, .var [.lit (.slice none 0 0)])]) := by
  have h65 := s65 c tmp e r ht hd
  have h31 := fun cl tm => s31b cl tm ((e :: r).map Ent.cp) (by
    intro x hx
    obtain ⟨y, hy, rfl⟩ := List.mem_map.1 hx
    exact entOkB_cp (hq y hy)) (by rw [List.length_map]; omega)
  rw [← cav_eq] at h31
  generalize hC : checkT ((e :: r).map Ent.cp) = C at *
  have hv : errV C.2 = .iface 58 (.int .i64 C.2) := by unfold errV; rw [if_neg he]
  rw [hv] at h31
  have hne := cons_ne (e := e) (r := r)
  generalize e :: r = t at *
  refine enter fn29 np29 rfl ?_
  (simp (maxSteps := 2000000) (disch := omega) only [b29, s64n, h65, h31, hne, go_sem]) <;> repeat' (first | ((first | refine gd_dec ?_ ?_ | refine gd_ndec ?_ ?_ | refine cd_dec ?_ ?_ | refine cd_ndec ?_ ?_ | refine gdd_dec ?_ ?_ | refine gdd_ndec ?_ ?_ | refine gd_of ?_ ?_ | refine cd_of ?_ ?_ | refine gdd_of ?_ ?_) <;> intro hg <;> first | (exfalso; omega) | (simp (maxSteps := 2000000) (disch := omega) only [hg, b29, s64n, h65, h31, hne, go_sem])) | (refine And.intro ?_ ?_; focus omega) | omega)
end Go.Abs
/- BODIES OF FUNCTIONS, as the small code has them (printed by a program). -/
namespace Go.Abs
/- amphora/amphoranum.Num -/
def b19 : AFn := ⟨1, 19, [(2, none)], (.seq (.reg false [] [⟨(some 2), (.mov (.c (.int .i64 0))), none⟩]) (.seq (.seq (.reg false [] [⟨(some 5), (.mov (.t 0)), none⟩, ⟨(some 6), (.bin .eql (.iface [58]) true (.t 5) (.c (.lit .nilIface))), none⟩]) (.cond (.t 6) (.seq (.reg false [] [⟨(some 2), (.mov (.c (.int .i64 0))), none⟩]) .ret) .skip)) (.seq (.reg false [] [⟨(some 8), (.mov (.t 0)), none⟩, ⟨(some 9), (.tass 58 true (.int .i64 0) (.t 8)), none⟩, ⟨(some 7), (.mov (.t 9)), none⟩, ⟨(some 10), (.ext (.t 7) 0), none⟩, ⟨(some 11), (.ext (.t 7) 1), none⟩, ⟨(some 3), (.mov (.t 10)), none⟩, ⟨(some 4), (.mov (.t 11)), none⟩]) (.seq (.seq (.reg false [] [⟨(some 12), (.mov (.t 4)), none⟩, ⟨(some 13), (.un .not (.t 12)), none⟩, ⟨(some 14), (.mov (.t 13)), none⟩, ⟨(some 15), (.mov (.t 3)), (some (14, false))⟩, ⟨(some 16), (.bin .eql .other true (.t 15) (.c (.int .i64 0))), (some (14, false))⟩, ⟨(some 17), (.pick (.t 14) (.c (.bool true)) (.t 16)), none⟩]) (.cond (.t 17) (.seq (.reg false [] [⟨(some 2), (.mov (.c (.int .i64 (-1)))), none⟩]) .ret) .skip)) (.seq (.reg false [] [⟨(some 18), (.mov (.t 3)), none⟩, ⟨(some 2), (.mov (.t 18)), none⟩]) .ret)))))⟩
theorem fn19 : AA.fn 19 = some b19 := by kernel_rfl
theorem np19 : AA.prim 19 = none := rfl
/- amphora/amphoralaw12.TarPieces -/
def l5_0 : ACode := (.seq (.reg false [] [⟨(some 59), (.bin .lss .other false (.t 58) (.t 57)), none⟩]) (.seq (.cond (.t 59) .skip (.exit 0)) (.seq (.block 1 (.seq (.reg false [] [⟨(some 60), (.ixa 1 (.t 56) (.t 58)), none⟩, ⟨(some 61), (.ld 1 false (.t 60)), none⟩, ⟨(some 13), (.mov (.t 61)), none⟩]) (.seq (.reg false [] [⟨(some 62), (.mov (.t 13)), none⟩, ⟨(some 63), (.mov (.t 11)), none⟩, ⟨(some 64), (.minmax true (.t 62) (.t 63)), none⟩, ⟨(some 65), (.mov (.t 0)), none⟩, ⟨(some 66), (.len 1 (.t 65)), none⟩, ⟨(some 67), (.minmax false (.t 64) (.t 66)), none⟩, ⟨(some 14), (.mov (.t 67)), none⟩]) (.seq (.reg false [] [⟨(some 69), (.mov (.t 9)), none⟩, ⟨(some 70), (.mov (.t 0)), none⟩, ⟨(some 71), (.mov (.t 11)), none⟩, ⟨(some 72), (.mov (.t 14)), none⟩, ⟨(some 73), (.slc 8 (.t 70) (some (.t 71)) (some (.t 72)) none), none⟩, ⟨(some 74), (.call (.c (.func (.func 29) [])) [(.t 69), (.t 73)]), none⟩, ⟨(some 68), (.mov (.t 74)), none⟩, ⟨(some 75), (.ext (.t 68) 0), none⟩, ⟨(some 76), (.ext (.t 68) 1), none⟩, ⟨(some 15), (.mov (.t 75)), none⟩, ⟨(some 16), (.mov (.t 76)), none⟩]) (.seq (.seq (.reg false [] [⟨(some 77), (.mov (.t 16)), none⟩, ⟨(some 78), (.bin .neq (.iface [58]) true (.t 77) (.c (.lit .nilIface))), none⟩, ⟨(some 79), (.mov (.t 78)), none⟩, ⟨(some 80), (.mov (.t 9)), (some (79, false))⟩, ⟨(some 81), (.call (.c (.func (.func 30) [])) [(.t 80)]), (some (79, false))⟩, ⟨(some 82), (.mov (.t 14)), (some (79, false))⟩, ⟨(some 83), (.bin .neq .other false (.t 81) (.t 82)), (some (79, false))⟩, ⟨(some 84), (.pick (.t 79) (.c (.bool true)) (.t 83)), none⟩]) (.cond (.t 84) (.seq (.reg false [] [⟨(some 6), (.mov (.c (.bool false))), none⟩]) .ret) .skip)) (.seq (.reg false [] [⟨(some 85), (.mov (.t 10)), none⟩, ⟨(some 86), (.mov (.t 15)), none⟩, ⟨(some 87), (.app 1 1 (.t 85) (.t 86)), none⟩, ⟨(some 10), (.mov (.t 87)), none⟩]) (.seq (.reg false [] [⟨(some 88), (.mov (.t 14)), none⟩, ⟨(some 11), (.mov (.t 88)), none⟩]) (.seq (.reg true [(0, 1), (0, 2), (0, 3), (0, 5), (1, 5), (2, 5), (3, 5), (4, 5), (0, 6), (1, 6), (2, 6), (3, 6), (4, 6), (5, 6), (0, 7), (1, 7), (2, 7), (3, 7), (4, 7)] [⟨(some 90), (.bslice 8 0 [(.str []), (.int .i64 0), (.int .i64 0), (.int .i64 0), (.int .i64 0), (.int .i64 0), (.str []), (.lit (.slice none 0 0))] []), none⟩, ⟨(some 91), (.mov (.t 0)), none⟩, ⟨(some 92), (.mov (.t 11)), none⟩, ⟨(some 93), (.slc 8 (.t 91) none (some (.t 92)) none), none⟩, ⟨(some 94), (.app 96 8 (.t 90) (.t 93)), none⟩, ⟨(some 95), (.ld 8 true (.t 5)), none⟩, ⟨(some 96), (.ld 8 true (.t 5)), none⟩, ⟨(some 97), (.bslice 8 2 [(.str []), (.int .i64 0), (.int .i64 0), (.int .i64 0), (.int .i64 0), (.int .i64 0), (.str []), (.lit (.slice none 0 0))] [(.t 95), (.t 96)]), none⟩, ⟨(some 98), (.app 96 8 (.t 94) (.t 97)), none⟩, ⟨(some 99), (.call (.c (.func (.func 31) [])) [(.t 98)]), none⟩, ⟨(some 89), (.mov (.t 99)), none⟩, ⟨(some 100), (.ext (.t 89) 0), none⟩, ⟨(some 101), (.ext (.t 89) 1), none⟩, ⟨(some 17), (.mov (.t 100)), none⟩, ⟨(some 18), (.mov (.t 101)), none⟩]) (.seq (.reg false [] [⟨(some 103), (.mov (.t 9)), none⟩, ⟨(some 104), (.ld 8 true (.t 5)), none⟩, ⟨(some 105), (.ld 8 true (.t 5)), none⟩, ⟨(some 106), (.bslice 8 2 [(.str []), (.int .i64 0), (.int .i64 0), (.int .i64 0), (.int .i64 0), (.int .i64 0), (.str []), (.lit (.slice none 0 0))] [(.t 104), (.t 105)]), none⟩, ⟨(some 107), (.call (.c (.func (.func 29) [])) [(.t 103), (.t 106)]), none⟩, ⟨(some 102), (.mov (.t 107)), none⟩, ⟨(some 108), (.ext (.t 102) 0), none⟩, ⟨(some 109), (.ext (.t 102) 1), none⟩, ⟨(some 15), (.mov (.t 108)), none⟩, ⟨(some 16), (.mov (.t 109)), none⟩]) (.seq (.reg false [] [⟨(some 110), (.mov (.t 18)), none⟩, ⟨(some 111), (.bin .eql (.iface [58]) true (.t 110) (.c (.lit .nilIface))), none⟩, ⟨(some 112), (.mov (.t 111)), none⟩, ⟨(some 113), (.mov (.t 16)), (some (112, false))⟩, ⟨(some 114), (.call (.c (.func (.func 19) [])) [(.t 113)]), (some (112, false))⟩, ⟨(some 115), (.mov (.t 18)), (some (112, false))⟩, ⟨(some 116), (.call (.c (.func (.func 19) [])) [(.t 115)]), (some (112, false))⟩, ⟨(some 117), (.bin .neq .other false (.t 114) (.t 116)), (some (112, false))⟩, ⟨(some 118), (.pick (.t 112) (.c (.bool true)) (.t 117)), none⟩, ⟨(some 119), (.mov (.t 118)), none⟩, ⟨(some 120), (.mov (.t 15)), (some (119, false))⟩, ⟨(some 121), (.len 1 (.t 120)), (some (119, false))⟩, ⟨(some 122), (.bin .neq .other true (.t 121) (.c (.int .i64 0))), (some (119, false))⟩, ⟨(some 123), (.pick (.t 119) (.c (.bool true)) (.t 122)), none⟩, ⟨(some 124), (.mov (.t 123)), none⟩, ⟨(some 125), (.mov (.t 9)), (some (124, false))⟩, ⟨(some 126), (.call (.c (.func (.func 30) [])) [(.t 125)]), (some (124, false))⟩, ⟨(some 127), (.mov (.t 11)), (some (124, false))⟩, ⟨(some 128), (.bin .neq .other false (.t 126) (.t 127)), (some (124, false))⟩, ⟨(some 129), (.pick (.t 124) (.c (.bool true)) (.t 128)), none⟩]) (.cond (.t 129) (.seq (.reg false [] [⟨(some 6), (.mov (.c (.bool false))), none⟩]) .ret) .skip))))))))))) (.reg false [] [⟨(some 130), (.bin .add .other true (.t 58) (.c (.int .i64 1))), none⟩, ⟨(some 58), (.mov (.t 130)), none⟩]))))
def r5_0 : ACode := (.seq (.reg false [] [⟨(some 131), (.mov (.t 10)), none⟩, ⟨(some 132), (.mov (.t 9)), none⟩, ⟨(some 133), (.call (.c (.func (.func 32) [])) [(.t 132)]), none⟩, ⟨(some 134), (.app 1 1 (.t 131) (.t 133)), none⟩, ⟨(some 10), (.mov (.t 134)), none⟩]) (.seq (.reg false [] [⟨(some 135), (.mov (.t 10)), none⟩, ⟨(some 136), (.cvbs (.t 135)), none⟩, ⟨(some 137), (.mov (.t 7)), none⟩, ⟨(some 138), (.cvbs (.t 137)), none⟩, ⟨(some 139), (.bin .eql .other false (.t 136) (.t 138)), none⟩, ⟨(some 140), (.mov (.t 139)), none⟩, ⟨(some 141), (.mov (.t 9)), (some (140, true))⟩, ⟨(some 142), (.call (.c (.func (.func 30) [])) [(.t 141)]), (some (140, true))⟩, ⟨(some 143), (.bin .eql .other true (.t 142) (.c (.int .i64 0))), (some (140, true))⟩, ⟨(some 144), (.pick (.t 140) (.t 143) (.c (.bool false))), none⟩, ⟨(some 6), (.mov (.t 144)), none⟩]) .ret))
def b5 : AFn := ⟨3, 145, [(6, none)], (.seq (.reg false [] [⟨(some 5), (.box (.t 2)), none⟩, ⟨(some 6), (.mov (.c (.bool false))), none⟩]) (.seq (.seq (.reg false [] [⟨(some 19), (.call (.c (.func (.func 14) [])) []), none⟩, ⟨(some 20), (.un .not (.t 19)), none⟩]) (.cond (.t 20) (.seq (.reg false [] [⟨(some 6), (.mov (.c (.bool false))), none⟩]) .ret) .skip)) (.seq (.seq (.reg false [] [⟨(some 21), (.mov (.t 0)), none⟩, ⟨(some 22), (.call (.c (.func (.func 15) [])) [(.t 21)]), none⟩, ⟨(some 23), (.mov (.t 22)), none⟩, ⟨(some 24), (.fa 7 (.t 5)), (some (23, false))⟩, ⟨(some 25), (.ld 1 false (.t 24)), (some (23, false))⟩, ⟨(some 26), (.len 1 (.t 25)), (some (23, false))⟩, ⟨(some 27), (.bin .gtr .other true (.t 26) (.c (.int .i64 4096))), (some (23, false))⟩, ⟨(some 28), (.pick (.t 23) (.c (.bool true)) (.t 27)), none⟩, ⟨(some 29), (.mov (.t 28)), none⟩, ⟨(some 30), (.fa 0 (.t 5)), (some (29, false))⟩, ⟨(some 31), (.ld 1 false (.t 30)), (some (29, false))⟩, ⟨(some 32), (.len 0 (.t 31)), (some (29, false))⟩, ⟨(some 33), (.bin .gtr .other true (.t 32) (.c (.int .i64 4096))), (some (29, false))⟩, ⟨(some 34), (.pick (.t 29) (.c (.bool true)) (.t 33)), none⟩]) (.cond (.t 34) (.seq (.reg false [] [⟨(some 6), (.mov (.c (.bool true))), none⟩]) .ret) .skip)) (.seq (.reg false [] [⟨(some 36), (.mov (.t 0)), none⟩, ⟨(some 37), (.call (.c (.func (.func 17) [])) [(.t 36)]), none⟩, ⟨(some 35), (.mov (.t 37)), none⟩, ⟨(some 38), (.ext (.t 35) 0), none⟩, ⟨(some 39), (.ext (.t 35) 1), none⟩, ⟨(some 7), (.mov (.t 38)), none⟩, ⟨(some 8), (.mov (.t 39)), none⟩]) (.seq (.reg false [] [⟨(some 40), (.call (.c (.func (.func 28) [])) []), none⟩, ⟨(some 9), (.mov (.t 40)), none⟩]) (.seq (.seq (.reg false [] [⟨(some 41), (.mov (.t 8)), none⟩, ⟨(some 42), (.bin .neq (.iface [58]) true (.t 41) (.c (.lit .nilIface))), none⟩, ⟨(some 43), (.mov (.t 42)), none⟩, ⟨(some 44), (.mov (.t 9)), (some (43, false))⟩, ⟨(some 45), (.bin .eql .ptr true (.t 44) (.c (.lit (.pointer none)))), (some (43, false))⟩, ⟨(some 46), (.pick (.t 43) (.c (.bool true)) (.t 45)), none⟩]) (.cond (.t 46) (.seq (.reg false [] [⟨(some 47), (.mov (.t 8)), none⟩, ⟨(some 48), (.bin .neq (.iface [58]) true (.t 47) (.c (.lit .nilIface))), none⟩, ⟨(some 6), (.mov (.t 48)), none⟩]) .ret) .skip)) (.seq (.reg false [] [⟨(some 49), (.bslice 1 0 [(.int .u8 0)] []), none⟩, ⟨(some 10), (.mov (.t 49)), none⟩]) (.seq (.reg false [] [⟨(some 11), (.mov (.c (.int .i64 0))), none⟩]) (.seq (.seq (.reg false [] [⟨(some 50), (.bslice 1 0 [(.int .i64 0)] []), none⟩, ⟨(some 51), (.mov (.t 1)), none⟩, ⟨(some 52), (.app 8 1 (.t 50) (.t 51)), none⟩, ⟨(some 53), (.mov (.t 0)), none⟩, ⟨(some 54), (.len 1 (.t 53)), none⟩, ⟨(some 55), (.bslice 1 1 [(.int .i64 0)] [(.t 54)]), none⟩, ⟨(some 56), (.app 8 1 (.t 52) (.t 55)), none⟩, ⟨(some 57), (.len 1 (.t 56)), none⟩, ⟨(some 58), (.mov (.c (.int .i64 0))), none⟩]) (.block 0 (.loop [0, 5, 6, 7, 9, 10, 11, 56, 57, 58] l5_0))) r5_0)))))))))⟩
theorem fn5 : AA.fn 5 = some b5 := by kernel_rfl
theorem np5 : AA.prim 5 = none := rfl
end Go.Abs
/- THE LAWS' OWN FUNCTIONS: Len, zeros. -/
namespace Go.Abs
open Am
set_option maxRecDepth 10000
set_option linter.unusedSimpArgs false
theorem sl_own_both {sz id z off len : Nat} {k k' : IntKind} {i j : Int} : aSlice sz (.own id z off len false) (some (.int k i)) (some (.int k' j)) none = if 0 ≤ i ∧ i ≤ j ∧ j ≤ len ∧ z = sz then some (.own id z (off + i.toNat) (j.toNat - i.toNat) false) else none := by
  by_cases h0 : 0 ≤ i
  · by_cases h1 : 0 ≤ j
    · rw [sl_own (a := i.toNat) (c := j.toNat) (by simp [natOr, toNat?, h0]) (by simp [natOr, toNat?, h1])]
      simp only [true_or, and_true]
      have : (i.toNat ≤ j.toNat ∧ j.toNat ≤ len ∧ z = sz) = (0 ≤ i ∧ i ≤ j ∧ j ≤ len ∧ z = sz) := by
        apply propext
        constructor
        · rintro ⟨a, b, c⟩; exact ⟨h0, by omega, by omega, c⟩
        · rintro ⟨a, b, c, d⟩; exact ⟨by omega, by omega, d⟩
      exact (ite_congr this (fun _ => rfl) (fun _ => rfl))
    · have hf : ¬ (0 ≤ i ∧ i ≤ j ∧ j ≤ len ∧ z = sz) := by omega
      rw [if_neg hf]
      simp [aSlice, bounds, natOr, toNat?, h1, h0]
  · simp [aSlice, bounds, natOr, toNat?, h0]
theorem ldE_head {e : AVal} {r : List AVal} {o sz : Nat} {agg : Bool} {h : Heap} : ldE (e :: r) 0 o sz agg h = (part e.cells o sz agg).map (·, h) := rfl
theorem s30n : callT AA 30 [.lit (.pointer none)] [] = some (.int .i64 0, []) := by
  refine enter fn30 np30 rfl ?_
  (simp (maxSteps := 2000000) (disch := omega) only [b30, go_sem]) <;> repeat' (first | ((first | refine gd_dec ?_ ?_ | refine gd_ndec ?_ ?_ | refine cd_dec ?_ ?_ | refine cd_ndec ?_ ?_ | refine gdd_dec ?_ ?_ | refine gdd_ndec ?_ ?_ | refine gd_of ?_ ?_ | refine cd_of ?_ ?_ | refine gdd_of ?_ ?_) <;> intro hg <;> first | (exfalso; omega) | (simp (maxSteps := 2000000) (disch := omega) only [hg, b30, go_sem])) | (refine And.intro ?_ ?_; focus omega) | omega)
def zerosB (l : List UInt8) : Bool := l.all fun b => decide (b = 0)
theorem zero_eq (x : UInt8) : decide ((x.toNat : Int) = 0) = decide (x = 0) := by
  rw [Bool.eq_iff_iff]
  simp only [decide_eq_true_eq]
  constructor
  · intro h
    have : x.toNat = 0 := by omega
    rw [← UInt8.toNat_inj, this]
    rfl
  · rintro rfl
    rfl
theorem h33 (b : BS) (hb : b.l.length ≤ 1000000000) (r0 : Bool) : ∀ (rest done : List UInt8) (n i : Int), b.l = done ++ rest → i = done.length → n = b.l.length → r0 = zerosB rest →
    HD AA 0 [2, 5, 6, 7] l33_0 ⟨[.junk, .junk, .bool false, .junk, .junk, b.av, .int .i64 n, .int .i64 i, .junk, .junk, .junk, .junk, .junk, .junk], [], 0⟩ [.blk 0, .code r33_0] (Fin [(2, none)] 0 (.bool r0) [])
  | [], done, n, i, h1, h2, h3, h4 => by
    have hl : b.l.length = done.length := by rw [h1]; simp
    refine hd_of (by unfold l33_0; rfl) ?_
    rw [h4]
    (simp (maxSteps := 2000000) (disch := omega) only [r33_0, go_sem]) <;> repeat' (first | ((first | refine gd_dec ?_ ?_ | refine gd_ndec ?_ ?_ | refine cd_dec ?_ ?_ | refine cd_ndec ?_ ?_ | refine gdd_dec ?_ ?_ | refine gdd_ndec ?_ ?_ | refine gd_of ?_ ?_ | refine cd_of ?_ ?_ | refine gdd_of ?_ ?_) <;> intro hg <;> first | (exfalso; omega) | (simp (maxSteps := 2000000) (disch := omega) only [hg, r33_0, go_sem])) | (refine And.intro ?_ ?_; focus omega) | omega)
    all_goals simp [zerosB]
  | x :: rest, done, n, i, h1, h2, h3, h4 => by
    have hl : b.l.length = done.length + (rest.length + 1) := by rw [h1]; simp
    have hg0 : b.l[i.toNat]? = some x := by
      rw [h1]
      simp [h2]
    have ih := h33 b hb r0 rest (done ++ [x]) n (i + 1) (by simp [h1]) (by first | omega | (simp; omega) | (simp; done)) h3
    refine hd_of (by unfold l33_0; rfl) ?_
    by_cases hx : x = 0
    · have ih := ih (by rw [h4]; simp [zerosB, hx])
      have hx' : (x.toNat : Int) = 0 := by rw [hx]; rfl
      (simp (maxSteps := 2000000) (disch := omega) only [hg0, hx', lp_head, go_sem]) <;> repeat' (first | ((first | refine gd_dec ?_ ?_ | refine gd_ndec ?_ ?_ | refine cd_dec ?_ ?_ | refine cd_ndec ?_ ?_ | refine gdd_dec ?_ ?_ | refine gdd_ndec ?_ ?_ | refine gd_of ?_ ?_ | refine cd_of ?_ ?_ | refine gdd_of ?_ ?_) <;> intro hg <;> first | (exfalso; omega) | (simp (maxSteps := 2000000) (disch := omega) only [hg, hg0, hx', lp_head, go_sem])) | (refine And.intro ?_ ?_; focus omega) | omega)
    · have hr : r0 = false := by rw [h4]; simp [zerosB, hx]
      have hx' : ¬ (x.toNat : Int) = 0 := by
        intro h
        have := zero_eq x
        simp [h, hx] at this
      rw [hr]
      (simp (maxSteps := 2000000) (disch := omega) only [hg0, hx', lp_head, go_sem]) <;> repeat' (first | ((first | refine gd_dec ?_ ?_ | refine gd_ndec ?_ ?_ | refine cd_dec ?_ ?_ | refine cd_ndec ?_ ?_ | refine gdd_dec ?_ ?_ | refine gdd_ndec ?_ ?_ | refine gd_of ?_ ?_ | refine cd_of ?_ ?_ | refine gdd_of ?_ ?_) <;> intro hg <;> first | (exfalso; omega) | (simp (maxSteps := 2000000) (disch := omega) only [hg, hg0, hx', lp_head, go_sem])) | (refine And.intro ?_ ?_; focus omega) | omega)
theorem s33 (b : BS) (hb : b.l.length ≤ 1000000000) : callT AA 33 [b.av] [] = some (.bool (zerosB b.l), []) := by
  refine enter fn33 np33 rfl ?_
  have hh := h33 b hb (zerosB b.l) b.l [] b.l.length 0 rfl rfl rfl rfl
  (simp (maxSteps := 2000000) (disch := omega) only [b33, lp_head, go_sem]) <;> repeat' (first | ((first | refine gd_dec ?_ ?_ | refine gd_ndec ?_ ?_ | refine cd_dec ?_ ?_ | refine cd_ndec ?_ ?_ | refine gdd_dec ?_ ?_ | refine gdd_ndec ?_ ?_ | refine gd_of ?_ ?_ | refine cd_of ?_ ?_ | refine gdd_of ?_ ?_) <;> intro hg <;> first | (exfalso; omega) | (simp (maxSteps := 2000000) (disch := omega) only [hg, b33, lp_head, go_sem])) | (refine And.intro ?_ ?_; focus omega) | omega)
end Go.Abs
/- THE FIXED FACT: alive. TarNone. -/
namespace Go.Abs
open Am
set_option maxRecDepth 100000
set_option linter.unusedSimpArgs false
def helloL : List UInt8 := [104, 101, 108, 108, 111]
def eA : Ent := ⟨[97], 2, 0, 0, 0, 0, [], .mk false false helloL⟩
def wA : List UInt8 := writeL [eA]
theorem checkA : (checkT [eA]).2 = 0 := by decide +kernel
theorem recsA : recsE eA = [] := by
  unfold recsE rst3 rst4 rst5 rst6 rst7
  have h1 : idB eA.gid = true := idB_iff.2 ⟨by decide, by decide⟩
  have h2 : linkE eA.link = true := rfl
  have h3 : timeB eA.time = true := timeB_iff.2 ⟨by decide, by decide⟩
  have h4 : (splitN eA.path).2.2 = true := by decide
  have h5 : idB eA.uid = true := idB_iff.2 ⟨by decide, by decide⟩
  rw [h1, h2, h3, h4, h5]
  rfl
theorem wA_eq : wA = encB (hdrE eA []) ++ (helloL ++ (List.replicate 507 0 ++ zeros1024)) := by
  unfold wA writeL outL pieceL preE
  rw [recsA, if_pos rfl]
  simp only [outL, List.nil_append, List.append_nil, List.append_assoc]
  rfl
theorem lenA : wA.length = 2048 := by
  rw [wA_eq]
  simp only [List.length_append, encB_length, zeros1024_length, List.length_replicate]
  rfl
theorem helloA : (wA.drop 512).take 5 = helloL := by
  rw [wA_eq, List.drop_left' (encB_length _), List.take_left' (show helloL.length = 5 from rfl)]
theorem readA (c t : Bool) : readE (.mk c t wA) = some [rdEnt eA] := readE_writeL c t checkA
set_option maxHeartbeats 4000000 in
theorem s14 : callT AA 14 [] [] = some (.bool true, []) := by
  have h17 : ∀ c t, callT AA 17 [.view 8 [.agg [.str [97], .int .i64 2, .int .i64 0, .int .i64 0, .int .i64 0, .int .i64 0, .str [], .view 1 [.int .u8 104, .int .u8 101, .int .u8 108, .int .u8 108, .int .u8 111] false false]] c t] [] = some (.tuple [.own 0 1 0 2048 false, .lit .nilIface], [(0, .row (wA.map .byte) 1)]) := by
    intro c t
    have h := w17 c t [eA] (by simp) (by simp) (by
      intro e he
      rw [List.mem_singleton.1 he]
      exact ⟨by decide, by decide, helloL, rfl, by decide⟩) (by rw [checkT_map Ent.cp same_cp]; exact checkA)
    rw [show writeL [eA] = wA from rfl, lenA] at h
    exact h
  have h24 : ∀ c t, callT AA 24 [.view 1 (wA.map .byte) c t] [] = some (.tuple [.own 0 8 0 1 false, .lit .nilIface], [(0, .row [.agg [.str [97], .int .i64 2, .int .i64 0, .int .i64 0, .int .i64 0, .int .i64 0, .str [], .view 1 (helloL.map .byte) false false]] 8)]) := by
    intro c t
    have h := s24 (.mk c t wA) (by simp only [BS.l]; rw [lenA]; omega)
    rw [readA] at h
    exact h
  have et : (wA.map AVal.byte).take 2048 = wA.map .byte := List.take_of_length_le (by rw [List.length_map, lenA]; omega)
  have hd : List.take 5 (List.drop 512 (wA.map AVal.byte)) = helloL.map .byte := by
    rw [← List.map_drop, ← List.map_take, helloA]
  have hh : decide (helloL = [104, 101, 108, 108, 111]) = true := rfl
  have h97 : decide (([97] : List UInt8) = [97]) = true := rfl
  have hl : (wA.map AVal.byte).length = 2048 := by rw [List.length_map, lenA]
  generalize wA = W at *
  refine enter fn14 np14 rfl ?_
  (simp (maxSteps := 2000000) (disch := omega) only [b14, h17, h24, et, hd, hh, h97, hl, sl_own_both, ldE_head, go_sem]) <;> repeat' (first | ((first | refine gd_dec ?_ ?_ | refine gd_ndec ?_ ?_ | refine cd_dec ?_ ?_ | refine cd_ndec ?_ ?_ | refine gdd_dec ?_ ?_ | refine gdd_ndec ?_ ?_ | refine gd_of ?_ ?_ | refine cd_of ?_ ?_ | refine gdd_of ?_ ?_) <;> intro hg <;> first | (exfalso; omega) | (simp (maxSteps := 2000000) (disch := omega) only [hg, b14, h17, h24, et, hd, hh, h97, hl, sl_own_both, ldE_head, go_sem])) | (refine And.intro ?_ ?_; focus omega) | omega)
end Go.Abs
/- TarPieces: its loop, round by round. -/
namespace Go.Abs
open Am
set_option maxRecDepth 100000
set_option linter.unusedSimpArgs false
theorem s19 (n : Int) (hn : n ≠ 0) : callT AA 19 [.iface 58 (.int .i64 n)] [] = some (.int .i64 n, []) := by
  refine enter fn19 np19 rfl ?_
  (simp (maxSteps := 2000000) (disch := omega) only [b19, go_sem]) <;> repeat' (first | ((first | refine gd_dec ?_ ?_ | refine gd_ndec ?_ ?_ | refine cd_dec ?_ ?_ | refine cd_ndec ?_ ?_ | refine gdd_dec ?_ ?_ | refine gdd_ndec ?_ ?_ | refine gd_of ?_ ?_ | refine cd_of ?_ ?_ | refine gdd_of ?_ ?_) <;> intro hg <;> first | (exfalso; omega) | (simp (maxSteps := 2000000) (disch := omega) only [hg, b19, go_sem])) | (refine And.intro ?_ ?_; focus omega) | omega)
abbrev oddC (o : Ent) : List AVal := [.str o.path, .int .i64 o.kind, .int .i64 o.mode, .int .i64 o.uid, .int .i64 o.gid, .int .i64 o.time, .str o.link, o.data.av]
abbrev EnvP (ts : AVal) (q : Nat) (gid g : Nat) (a : Int) (kid k : Nat) (n i : Int) : List AVal := [ts, .junk, .junk, .junk, .junk, .ptr 0 0, .bool false, .own 1 1 0 q false, .junk, .ptr 2 0, .own gid 1 0 g false, .int .i64 a, .junk, .junk, .junk, .junk, .junk, .junk, .junk, .junk, .junk, .junk, .junk, .junk, .junk, .junk, .junk, .junk, .junk, .junk, .junk, .junk, .junk, .junk, .junk, .junk, .junk, .junk, .junk, .junk, .junk, .junk, .junk, .junk, .junk, .junk, .junk, .junk, .junk, .junk, .junk, .junk, .junk, .junk, .junk, .junk, .own kid 1 0 k false, .int .i64 n, .int .i64 i, .junk, .junk, .junk, .junk, .junk, .junk, .junk, .junk, .junk, .junk, .junk, .junk, .junk, .junk, .junk, .junk, .junk, .junk, .junk, .junk, .junk, .junk, .junk, .junk, .junk, .junk, .junk, .junk, .junk, .junk, .junk, .junk, .junk, .junk, .junk, .junk, .junk, .junk, .junk, .junk, .junk, .junk, .junk, .junk, .junk, .junk, .junk, .junk, .junk, .junk, .junk, .junk, .junk, .junk, .junk, .junk, .junk, .junk, .junk, .junk, .junk, .junk, .junk, .junk, .junk, .junk, .junk, .junk, .junk, .junk, .junk, .junk, .junk, .junk, .junk, .junk, .junk, .junk, .junk, .junk, .junk, .junk, .junk, .junk, .junk, .junk]
def ints (cs : List Int) : List AVal := cs.map (.int .i64)
set_option maxHeartbeats 40000000 in
theorem f5_Ne (ct tt : Bool) (t : List Ent) (htl : t.length ≤ 1000000) (o : Ent) (ho : o.data.isTmp = false) (W G : List UInt8) (q g : Nat) (hq : W.length = q) (hg : G.length = g) (hG : g ≤ 1000000000) (cs : List Int) (n i c : Int) (hn : n = cs.length) (hcl : cs.length ≤ 100000000000000) (hi : 0 ≤ i) (hil : i.toNat < cs.length) (hc : cs[i.toNat]? = some c) (a b : Int) (E E1 : Int) (hE : E ≠ 0) (F : FinP)
    (ha : 0 ≤ a) (hab : a ≤ b) (hbl : b ≤ (t.length : Int)) (hb : (if (t.length : Int) < (if c < a then a else c) then (t.length : Int) else (if c < a then a else c)) = b)
    (pre : List Ent) (ct1 ct2 : Bool) (g1 : aSlice 8 (.view 8 (t.map Ent.av) ct tt) (some (.int .i64 a)) (some (.int .i64 b)) none = some (.view 8 ([] : List AVal) ct1 tt)) (g2 : aSlice 8 (.view 8 (t.map Ent.av) ct tt) none (some (.int .i64 b)) none = some (.view 8 (pre.map Ent.av) ct2 tt)) (hpre : pre.length ≤ 1000000)
    (h31 : ∀ c t, callT AA 31 [.view 8 (pre.map Ent.av ++ [.agg (oddC o), .agg (oddC o)]) c t] [] = some (.tuple [.int .i64 E1, .iface 58 (.int .i64 E)], []))
    (ha0 : a = 0) (hb0 : b = 0)
    (hA : ∀ c t, callT AA 29 [.ptr 0 0, .view 8 [] c t] [(0, .var [.lit (.slice none 0 0)])] = some (.tuple [.lit (.slice none 0 0), .lit .nilIface], [(0, .var [.lit (.slice none 0 0)])]))
    (hB : ∀ c t, callT AA 29 [.ptr 0 0, .view 8 [.agg (oddC o), .agg (oddC o)] c t] [(0, .var [.lit (.slice none 0 0)])] = some (.tuple [.lit (.slice none 0 0), .iface 58 (.int .i64 E)], [(0, .var [.lit (.slice none 0 0)])]))
    (ih : HD AA 0 [0, 5, 6, 7, 9, 10, 11, 56, 57, 58] l5_0 ⟨EnvP (.view 8 (t.map Ent.av) ct tt) q 3 g b 4 cs.length n (i + 1), [(0, .var (oddC o)), (1, .row (W.map .byte) 1), (2, .var [.lit (.slice none 0 0)]), (3, .row (G.map .byte) 1), (4, .row (ints cs) 1)], 5⟩ [.blk 0, .code r5_0] F) :
    HD AA 0 [0, 5, 6, 7, 9, 10, 11, 56, 57, 58] l5_0 ⟨EnvP (.view 8 (t.map Ent.av) ct tt) q 3 g a 4 cs.length n i, [(0, .var (oddC o)), (1, .row (W.map .byte) 1), (2, .var [.lit (.slice none 0 0)]), (3, .row (G.map .byte) 1), (4, .row (ints cs) 1)], 5⟩ [.blk 0, .code r5_0] F := by
  subst ha0
  subst hb0
  dsimp only [EnvP, oddC] at ih hB h31 ⊢
  have hc19 := s19 E hE
  have eg : (G.map AVal.byte).take g = G.map .byte := List.take_of_length_le (by rw [List.length_map]; omega)
  have ep2 : List.take (pre.length + 2) (pre.map Ent.av ++ [AVal.agg [.str o.path, .int .i64 o.kind, .int .i64 o.mode, .int .i64 o.uid, .int .i64 o.gid, .int .i64 o.time, .str o.link, o.data.av], AVal.agg [.str o.path, .int .i64 o.kind, .int .i64 o.mode, .int .i64 o.uid, .int .i64 o.gid, .int .i64 o.time, .str o.link, o.data.av]]) = pre.map Ent.av ++ [AVal.agg [.str o.path, .int .i64 o.kind, .int .i64 o.mode, .int .i64 o.uid, .int .i64 o.gid, .int .i64 o.time, .str o.link, o.data.av], AVal.agg [.str o.path, .int .i64 o.kind, .int .i64 o.mode, .int .i64 o.uid, .int .i64 o.gid, .int .i64 o.time, .str o.link, o.data.av]] := List.take_of_length_le (by rw [List.length_append, List.length_map]; exact Nat.le_refl _)
  have ep : (pre.map Ent.av).take pre.length = pre.map Ent.av := List.take_of_length_le (by rw [List.length_map]; omega)
  refine hd_of (by unfold l5_0; rfl) ?_
  unfold ints at *
  (simp (maxSteps := 2000000) (disch := omega) only [hc, hb, hA, hB, h31, hc19, eg, ho, s30e, s30c, g1, g2, ep, ep2, ← List.map_append, lp_head, go_sem]) <;> repeat' (first | ((first | refine gd_dec ?_ ?_ | refine gd_ndec ?_ ?_ | refine cd_dec ?_ ?_ | refine cd_ndec ?_ ?_ | refine gdd_dec ?_ ?_ | refine gdd_ndec ?_ ?_ | refine gd_of ?_ ?_ | refine cd_of ?_ ?_ | refine gdd_of ?_ ?_) <;> intro hg <;> first | (exfalso; omega) | (simp (maxSteps := 2000000) (disch := omega) only [hg, hc, hb, hA, hB, h31, hc19, eg, ho, s30e, s30c, g1, g2, ep, ep2, ← List.map_append, lp_head, go_sem])) | (refine And.intro ?_ ?_; focus omega) | omega)
set_option maxHeartbeats 40000000 in
theorem f5_Ns (ct tt : Bool) (t : List Ent) (htl : t.length ≤ 1000000) (o : Ent) (ho : o.data.isTmp = false) (W G : List UInt8) (q g : Nat) (hq : W.length = q) (hg : G.length = g) (hG : g ≤ 1000000000) (cs : List Int) (n i c : Int) (hn : n = cs.length) (hcl : cs.length ≤ 100000000000000) (hi : 0 ≤ i) (hil : i.toNat < cs.length) (hc : cs[i.toNat]? = some c) (a b : Int) (E E1 : Int) (hE : E ≠ 0) (F : FinP)
    (ha : 0 ≤ a) (hab : a ≤ b) (hbl : b ≤ (t.length : Int)) (hb : (if (t.length : Int) < (if c < a then a else c) then (t.length : Int) else (if c < a then a else c)) = b)
    (sg : List Ent) (pre : List Ent) (ct1 ct2 : Bool) (g1 : aSlice 8 (.view 8 (t.map Ent.av) ct tt) (some (.int .i64 a)) (some (.int .i64 b)) none = some (.view 8 (sg.map Ent.av) ct1 tt)) (g2 : aSlice 8 (.view 8 (t.map Ent.av) ct tt) none (some (.int .i64 b)) none = some (.view 8 (pre.map Ent.av) ct2 tt)) (hpre : pre.length ≤ 1000000)
    (h31 : ∀ c t, callT AA 31 [.view 8 (pre.map Ent.av ++ [.agg (oddC o), .agg (oddC o)]) c t] [] = some (.tuple [.int .i64 E1, .iface 58 (.int .i64 E)], []))
    (P : List UInt8) (hP : P.length ≤ 300000000) (T1 : List Ent) (m1 : Nat) (hm1 : m1 = T1.length) (hm1b : (m1 : Int) = b)
    (ha0 : a = 0)
    (hA : ∀ c t, callT AA 29 [.ptr 0 0, .view 8 (sg.map Ent.av) c t] [(0, .var [.lit (.slice none 0 0)])] = some (.tuple [.own 2 1 0 P.length false, .lit .nilIface], [(0, .var [.own 1 8 0 m1 false]), (1, .row (T1.map Ent.av) 8), (2, .row (P.map .byte) 1)]))
    (hB : ∀ c t, callT AA 29 [.ptr 0 0, .view 8 [.agg (oddC o), .agg (oddC o)] c t] [(0, .var [.own 1 8 0 m1 false]), (1, .row (T1.map Ent.av) 8)] = some (.tuple [.lit (.slice none 0 0), .iface 58 (.int .i64 E)], [(0, .var [.own 1 8 0 m1 false]), (1, .row (T1.map Ent.av) 8)]))
    (ih : HD AA 0 [0, 5, 6, 7, 9, 10, 11, 56, 57, 58] l5_0 ⟨EnvP (.view 8 (t.map Ent.av) ct tt) q 4 (g + P.length) b 5 cs.length n (i + 1), [(0, .var (oddC o)), (1, .row (W.map .byte) 1), (2, .var [.own 3 8 0 m1 false]), (3, .row (T1.map Ent.av) 8), (4, .row ((G ++ P).map .byte) 1), (5, .row (ints cs) 1)], 6⟩ [.blk 0, .code r5_0] F) :
    HD AA 0 [0, 5, 6, 7, 9, 10, 11, 56, 57, 58] l5_0 ⟨EnvP (.view 8 (t.map Ent.av) ct tt) q 3 g a 4 cs.length n i, [(0, .var (oddC o)), (1, .row (W.map .byte) 1), (2, .var [.lit (.slice none 0 0)]), (3, .row (G.map .byte) 1), (4, .row (ints cs) 1)], 5⟩ [.blk 0, .code r5_0] F := by
  dsimp only [EnvP, oddC] at ih hB h31 ⊢
  have hc19 := s19 E hE
  have eg : (G.map AVal.byte).take g = G.map .byte := List.take_of_length_le (by rw [List.length_map]; omega)
  have eP : (P.map AVal.byte).take P.length = P.map .byte := List.take_of_length_le (by rw [List.length_map]; omega)
  have e1 : (T1.map Ent.av).take m1 = T1.map Ent.av := List.take_of_length_le (by rw [List.length_map]; omega)
  have ep2 : List.take (pre.length + 2) (pre.map Ent.av ++ [AVal.agg [.str o.path, .int .i64 o.kind, .int .i64 o.mode, .int .i64 o.uid, .int .i64 o.gid, .int .i64 o.time, .str o.link, o.data.av], AVal.agg [.str o.path, .int .i64 o.kind, .int .i64 o.mode, .int .i64 o.uid, .int .i64 o.gid, .int .i64 o.time, .str o.link, o.data.av]]) = pre.map Ent.av ++ [AVal.agg [.str o.path, .int .i64 o.kind, .int .i64 o.mode, .int .i64 o.uid, .int .i64 o.gid, .int .i64 o.time, .str o.link, o.data.av], AVal.agg [.str o.path, .int .i64 o.kind, .int .i64 o.mode, .int .i64 o.uid, .int .i64 o.gid, .int .i64 o.time, .str o.link, o.data.av]] := List.take_of_length_le (by rw [List.length_append, List.length_map]; exact Nat.le_refl _)
  have ep : (pre.map Ent.av).take pre.length = pre.map Ent.av := List.take_of_length_le (by rw [List.length_map]; omega)
  refine hd_of (by unfold l5_0; rfl) ?_
  unfold ints at *
  (simp (maxSteps := 2000000) (disch := omega) only [hc, hb, hA, hB, h31, hc19, eg, ho, s30e, s30c, g1, g2, ep, ep2, eP, e1, hm1b, ← List.map_append, lp_head, go_sem]) <;> repeat' (first | ((first | refine gd_dec ?_ ?_ | refine gd_ndec ?_ ?_ | refine cd_dec ?_ ?_ | refine cd_ndec ?_ ?_ | refine gdd_dec ?_ ?_ | refine gdd_ndec ?_ ?_ | refine gd_of ?_ ?_ | refine cd_of ?_ ?_ | refine gdd_of ?_ ?_) <;> intro hg <;> first | (exfalso; omega) | (simp (maxSteps := 2000000) (disch := omega) only [hg, hc, hb, hA, hB, h31, hc19, eg, ho, s30e, s30c, g1, g2, ep, ep2, eP, e1, hm1b, ← List.map_append, lp_head, go_sem])) | (refine And.intro ?_ ?_; focus omega) | omega)
set_option maxHeartbeats 40000000 in
theorem f5_Oe (ct tt : Bool) (t : List Ent) (htl : t.length ≤ 1000000) (o : Ent) (ho : o.data.isTmp = false) (W G : List UInt8) (q g : Nat) (hq : W.length = q) (hg : G.length = g) (hG : g ≤ 1000000000) (cs : List Int) (n i c : Int) (hn : n = cs.length) (hcl : cs.length ≤ 100000000000000) (hi : 0 ≤ i) (hil : i.toNat < cs.length) (hc : cs[i.toNat]? = some c) (a b : Int) (E E1 : Int) (hE : E ≠ 0) (F : FinP)
    (ha : 0 ≤ a) (hab : a ≤ b) (hbl : b ≤ (t.length : Int)) (hb : (if (t.length : Int) < (if c < a then a else c) then (t.length : Int) else (if c < a then a else c)) = b)
    (pre : List Ent) (ct1 ct2 : Bool) (g1 : aSlice 8 (.view 8 (t.map Ent.av) ct tt) (some (.int .i64 a)) (some (.int .i64 b)) none = some (.view 8 ([] : List AVal) ct1 tt)) (g2 : aSlice 8 (.view 8 (t.map Ent.av) ct tt) none (some (.int .i64 b)) none = some (.view 8 (pre.map Ent.av) ct2 tt)) (hpre : pre.length ≤ 1000000)
    (h31 : ∀ c t, callT AA 31 [.view 8 (pre.map Ent.av ++ [.agg (oddC o), .agg (oddC o)]) c t] [] = some (.tuple [.int .i64 E1, .iface 58 (.int .i64 E)], []))
    (T : List Ent) (m : Nat) (cl : Bool) (hm : m = T.length) (hma : (m : Int) = a)
    (hab0 : b = a)
    (hA : ∀ c t, callT AA 29 [.ptr 0 0, .view 8 [] c t] [(0, .var [.own 1 8 0 m cl]), (1, .row (T.map Ent.av) 8)] = some (.tuple [.lit (.slice none 0 0), .lit .nilIface], [(0, .var [.own 1 8 0 m true]), (1, .row (T.map Ent.av) 8)]))
    (hB : ∀ c t, callT AA 29 [.ptr 0 0, .view 8 [.agg (oddC o), .agg (oddC o)] c t] [(0, .var [.own 1 8 0 m true]), (1, .row (T.map Ent.av) 8)] = some (.tuple [.lit (.slice none 0 0), .iface 58 (.int .i64 E)], [(0, .var [.own 1 8 0 m true]), (1, .row (T.map Ent.av) 8)]))
    (ih : HD AA 0 [0, 5, 6, 7, 9, 10, 11, 56, 57, 58] l5_0 ⟨EnvP (.view 8 (t.map Ent.av) ct tt) q 4 g b 5 cs.length n (i + 1), [(0, .var (oddC o)), (1, .row (W.map .byte) 1), (2, .var [.own 3 8 0 m true]), (3, .row (T.map Ent.av) 8), (4, .row (G.map .byte) 1), (5, .row (ints cs) 1)], 6⟩ [.blk 0, .code r5_0] F) :
    HD AA 0 [0, 5, 6, 7, 9, 10, 11, 56, 57, 58] l5_0 ⟨EnvP (.view 8 (t.map Ent.av) ct tt) q 4 g a 5 cs.length n i, [(0, .var (oddC o)), (1, .row (W.map .byte) 1), (2, .var [.own 3 8 0 m cl]), (3, .row (T.map Ent.av) 8), (4, .row (G.map .byte) 1), (5, .row (ints cs) 1)], 6⟩ [.blk 0, .code r5_0] F := by
  dsimp only [EnvP, oddC] at ih hB h31 ⊢
  have hc19 := s19 E hE
  have eg : (G.map AVal.byte).take g = G.map .byte := List.take_of_length_le (by rw [List.length_map]; omega)
  have ep2 : List.take (pre.length + 2) (pre.map Ent.av ++ [AVal.agg [.str o.path, .int .i64 o.kind, .int .i64 o.mode, .int .i64 o.uid, .int .i64 o.gid, .int .i64 o.time, .str o.link, o.data.av], AVal.agg [.str o.path, .int .i64 o.kind, .int .i64 o.mode, .int .i64 o.uid, .int .i64 o.gid, .int .i64 o.time, .str o.link, o.data.av]]) = pre.map Ent.av ++ [AVal.agg [.str o.path, .int .i64 o.kind, .int .i64 o.mode, .int .i64 o.uid, .int .i64 o.gid, .int .i64 o.time, .str o.link, o.data.av], AVal.agg [.str o.path, .int .i64 o.kind, .int .i64 o.mode, .int .i64 o.uid, .int .i64 o.gid, .int .i64 o.time, .str o.link, o.data.av]] := List.take_of_length_le (by rw [List.length_append, List.length_map]; exact Nat.le_refl _)
  have ep : (pre.map Ent.av).take pre.length = pre.map Ent.av := List.take_of_length_le (by rw [List.length_map]; omega)
  have eT : (T.map Ent.av).take m = T.map Ent.av := List.take_of_length_le (by rw [List.length_map]; omega)
  refine hd_of (by unfold l5_0; rfl) ?_
  unfold ints at *
  (simp (maxSteps := 2000000) (disch := omega) only [hc, hb, hA, hB, h31, hc19, eg, ho, s30e, s30c, g1, g2, ep, ep2, eT, ← List.map_append, lp_head, go_sem]) <;> repeat' (first | ((first | refine gd_dec ?_ ?_ | refine gd_ndec ?_ ?_ | refine cd_dec ?_ ?_ | refine cd_ndec ?_ ?_ | refine gdd_dec ?_ ?_ | refine gdd_ndec ?_ ?_ | refine gd_of ?_ ?_ | refine cd_of ?_ ?_ | refine gdd_of ?_ ?_) <;> intro hg <;> first | (exfalso; omega) | (simp (maxSteps := 2000000) (disch := omega) only [hg, hc, hb, hA, hB, h31, hc19, eg, ho, s30e, s30c, g1, g2, ep, ep2, eT, ← List.map_append, lp_head, go_sem])) | (refine And.intro ?_ ?_; focus omega) | omega)
set_option maxHeartbeats 40000000 in
theorem f5_Os (ct tt : Bool) (t : List Ent) (htl : t.length ≤ 1000000) (o : Ent) (ho : o.data.isTmp = false) (W G : List UInt8) (q g : Nat) (hq : W.length = q) (hg : G.length = g) (hG : g ≤ 1000000000) (cs : List Int) (n i c : Int) (hn : n = cs.length) (hcl : cs.length ≤ 100000000000000) (hi : 0 ≤ i) (hil : i.toNat < cs.length) (hc : cs[i.toNat]? = some c) (a b : Int) (E E1 : Int) (hE : E ≠ 0) (F : FinP)
    (ha : 0 ≤ a) (hab : a ≤ b) (hbl : b ≤ (t.length : Int)) (hb : (if (t.length : Int) < (if c < a then a else c) then (t.length : Int) else (if c < a then a else c)) = b)
    (sg : List Ent) (pre : List Ent) (ct1 ct2 : Bool) (g1 : aSlice 8 (.view 8 (t.map Ent.av) ct tt) (some (.int .i64 a)) (some (.int .i64 b)) none = some (.view 8 (sg.map Ent.av) ct1 tt)) (g2 : aSlice 8 (.view 8 (t.map Ent.av) ct tt) none (some (.int .i64 b)) none = some (.view 8 (pre.map Ent.av) ct2 tt)) (hpre : pre.length ≤ 1000000)
    (h31 : ∀ c t, callT AA 31 [.view 8 (pre.map Ent.av ++ [.agg (oddC o), .agg (oddC o)]) c t] [] = some (.tuple [.int .i64 E1, .iface 58 (.int .i64 E)], []))
    (T : List Ent) (m : Nat) (cl : Bool) (hm : m = T.length) (hma : (m : Int) = a)
    (P : List UInt8) (hP : P.length ≤ 300000000) (T1 : List Ent) (m1 : Nat) (hm1 : m1 = T1.length) (hm1b : (m1 : Int) = b)
    (hA : ∀ c t, callT AA 29 [.ptr 0 0, .view 8 (sg.map Ent.av) c t] [(0, .var [.own 1 8 0 m cl]), (1, .row (T.map Ent.av) 8)] = some (.tuple [.own 3 1 0 P.length false, .lit .nilIface], [(0, .var [.own 2 8 0 m1 false]), (1, .row (T.map Ent.av) 8), (2, .row (T1.map Ent.av) 8), (3, .row (P.map .byte) 1)]))
    (hB : ∀ c t, callT AA 29 [.ptr 0 0, .view 8 [.agg (oddC o), .agg (oddC o)] c t] [(0, .var [.own 1 8 0 m1 false]), (1, .row (T1.map Ent.av) 8)] = some (.tuple [.lit (.slice none 0 0), .iface 58 (.int .i64 E)], [(0, .var [.own 1 8 0 m1 false]), (1, .row (T1.map Ent.av) 8)]))
    (ih : HD AA 0 [0, 5, 6, 7, 9, 10, 11, 56, 57, 58] l5_0 ⟨EnvP (.view 8 (t.map Ent.av) ct tt) q 4 (g + P.length) b 5 cs.length n (i + 1), [(0, .var (oddC o)), (1, .row (W.map .byte) 1), (2, .var [.own 3 8 0 m1 false]), (3, .row (T1.map Ent.av) 8), (4, .row ((G ++ P).map .byte) 1), (5, .row (ints cs) 1)], 6⟩ [.blk 0, .code r5_0] F) :
    HD AA 0 [0, 5, 6, 7, 9, 10, 11, 56, 57, 58] l5_0 ⟨EnvP (.view 8 (t.map Ent.av) ct tt) q 4 g a 5 cs.length n i, [(0, .var (oddC o)), (1, .row (W.map .byte) 1), (2, .var [.own 3 8 0 m cl]), (3, .row (T.map Ent.av) 8), (4, .row (G.map .byte) 1), (5, .row (ints cs) 1)], 6⟩ [.blk 0, .code r5_0] F := by
  dsimp only [EnvP, oddC] at ih hB h31 ⊢
  have hc19 := s19 E hE
  have eg : (G.map AVal.byte).take g = G.map .byte := List.take_of_length_le (by rw [List.length_map]; omega)
  have eP : (P.map AVal.byte).take P.length = P.map .byte := List.take_of_length_le (by rw [List.length_map]; omega)
  have e1 : (T1.map Ent.av).take m1 = T1.map Ent.av := List.take_of_length_le (by rw [List.length_map]; omega)
  have ep2 : List.take (pre.length + 2) (pre.map Ent.av ++ [AVal.agg [.str o.path, .int .i64 o.kind, .int .i64 o.mode, .int .i64 o.uid, .int .i64 o.gid, .int .i64 o.time, .str o.link, o.data.av], AVal.agg [.str o.path, .int .i64 o.kind, .int .i64 o.mode, .int .i64 o.uid, .int .i64 o.gid, .int .i64 o.time, .str o.link, o.data.av]]) = pre.map Ent.av ++ [AVal.agg [.str o.path, .int .i64 o.kind, .int .i64 o.mode, .int .i64 o.uid, .int .i64 o.gid, .int .i64 o.time, .str o.link, o.data.av], AVal.agg [.str o.path, .int .i64 o.kind, .int .i64 o.mode, .int .i64 o.uid, .int .i64 o.gid, .int .i64 o.time, .str o.link, o.data.av]] := List.take_of_length_le (by rw [List.length_append, List.length_map]; exact Nat.le_refl _)
  have ep : (pre.map Ent.av).take pre.length = pre.map Ent.av := List.take_of_length_le (by rw [List.length_map]; omega)
  have eT : (T.map Ent.av).take m = T.map Ent.av := List.take_of_length_le (by rw [List.length_map]; omega)
  refine hd_of (by unfold l5_0; rfl) ?_
  unfold ints at *
  (simp (maxSteps := 2000000) (disch := omega) only [hc, hb, hA, hB, h31, hc19, eg, ho, s30e, s30c, g1, g2, ep, ep2, eP, e1, eT, hm1b, ← List.map_append, lp_head, go_sem]) <;> repeat' (first | ((first | refine gd_dec ?_ ?_ | refine gd_ndec ?_ ?_ | refine cd_dec ?_ ?_ | refine cd_ndec ?_ ?_ | refine gdd_dec ?_ ?_ | refine gdd_ndec ?_ ?_ | refine gd_of ?_ ?_ | refine cd_of ?_ ?_ | refine gdd_of ?_ ?_) <;> intro hg <;> first | (exfalso; omega) | (simp (maxSteps := 2000000) (disch := omega) only [hg, hc, hb, hA, hB, h31, hc19, eg, ho, s30e, s30c, g1, g2, ep, ep2, eP, e1, eT, hm1b, ← List.map_append, lp_head, go_sem])) | (refine And.intro ?_ ?_; focus omega) | omega)
set_option maxHeartbeats 40000000 in
theorem f5_nil (o : Ent) (ho : o.data.isTmp = false) (W G : List UInt8) (q g : Nat) (hq : W.length = q) (hg : G.length = g) (hG : g ≤ 1000000000) (cs : List Int) (n i c : Int) (hn : n = cs.length) (hcl : cs.length ≤ 100000000000000) (hi : 0 ≤ i) (hil : i.toNat < cs.length) (hc : cs[i.toNat]? = some c) (a b : Int) (E E1 : Int) (hE : E ≠ 0) (F : FinP)
    (ha : 0 ≤ a) (hab : a ≤ b) (hbl : b ≤ 0) (hb : (if 0 < (if c < a then a else c) then 0 else (if c < a then a else c)) = b)
    (h31 : ∀ c t, callT AA 31 [.view 8 [.agg (oddC o), .agg (oddC o)] c t] [] = some (.tuple [.int .i64 E1, .iface 58 (.int .i64 E)], []))
    (ha0 : a = 0) (hb0 : b = 0)
    (hA : callT AA 29 [.ptr 0 0, .lit (.slice none 0 0)] [(0, .var [.lit (.slice none 0 0)])] = some (.tuple [.lit (.slice none 0 0), .lit .nilIface], [(0, .var [.lit (.slice none 0 0)])]))
    (hB : ∀ c t, callT AA 29 [.ptr 0 0, .view 8 [.agg (oddC o), .agg (oddC o)] c t] [(0, .var [.lit (.slice none 0 0)])] = some (.tuple [.lit (.slice none 0 0), .iface 58 (.int .i64 E)], [(0, .var [.lit (.slice none 0 0)])]))
    (ih : HD AA 0 [0, 5, 6, 7, 9, 10, 11, 56, 57, 58] l5_0 ⟨EnvP (.lit (.slice none 0 0)) q 3 g b 4 cs.length n (i + 1), [(0, .var (oddC o)), (1, .row (W.map .byte) 1), (2, .var [.lit (.slice none 0 0)]), (3, .row (G.map .byte) 1), (4, .row (ints cs) 1)], 5⟩ [.blk 0, .code r5_0] F) :
    HD AA 0 [0, 5, 6, 7, 9, 10, 11, 56, 57, 58] l5_0 ⟨EnvP (.lit (.slice none 0 0)) q 3 g a 4 cs.length n i, [(0, .var (oddC o)), (1, .row (W.map .byte) 1), (2, .var [.lit (.slice none 0 0)]), (3, .row (G.map .byte) 1), (4, .row (ints cs) 1)], 5⟩ [.blk 0, .code r5_0] F := by
  subst ha0
  subst hb0
  have gn1 : aSlice 8 (.lit (.slice none 0 0)) (some (.int .i64 0)) (some (.int .i64 0)) none = some (.lit (.slice none 0 0)) := by simp [aSlice, bounds, natOr, toNat?]
  have gn2 : aSlice 8 (.lit (.slice none 0 0)) none (some (.int .i64 0)) none = some (.lit (.slice none 0 0)) := by simp [aSlice, bounds, natOr, toNat?]
  dsimp only [EnvP, oddC] at ih hB h31 ⊢
  have hc19 := s19 E hE
  have eg : (G.map AVal.byte).take g = G.map .byte := List.take_of_length_le (by rw [List.length_map]; omega)
  refine hd_of (by unfold l5_0; rfl) ?_
  unfold ints at *
  (simp (maxSteps := 2000000) (disch := omega) only [hc, hb, hA, hB, h31, hc19, eg, ho, s30e, s30c, gn1, gn2, ← List.map_append, lp_head, go_sem]) <;> repeat' (first | ((first | refine gd_dec ?_ ?_ | refine gd_ndec ?_ ?_ | refine cd_dec ?_ ?_ | refine cd_ndec ?_ ?_ | refine gdd_dec ?_ ?_ | refine gdd_ndec ?_ ?_ | refine gd_of ?_ ?_ | refine cd_of ?_ ?_ | refine gdd_of ?_ ?_) <;> intro hg <;> first | (exfalso; omega) | (simp (maxSteps := 2000000) (disch := omega) only [hg, hc, hb, hA, hB, h31, hc19, eg, ho, s30e, s30c, gn1, gn2, ← List.map_append, lp_head, go_sem])) | (refine And.intro ?_ ?_; focus omega) | omega)
end Go.Abs
/- PLAIN: parts of trees; an entry that stands twice. -/
namespace Go.Abs
open Am
set_option maxRecDepth 10000
set_option linter.unusedSimpArgs false
theorem checkL_prefix : ∀ (a b : List Ent) (c : Ck) (i : Int), (checkL c i (a ++ b)).2 = 0 → (checkL c i a).2 = 0
  | [], b, c, i, _ => rfl
  | e :: a, b, c, i, h => by
    simp only [List.cons_append, checkL] at h ⊢
    by_cases g : (entryE c e).1 = 0
    · rw [if_pos g] at h ⊢
      exact checkL_prefix a b _ _ h
    · rw [if_neg g] at h
      exact (g h).elim
theorem checkT_prefix {a b : List Ent} (h : (checkT (a ++ b)).2 = 0) : (checkT a).2 = 0 := by
  unfold checkT at h ⊢
  rw [List.length_append] at h
  by_cases c : 200 < a.length + b.length
  · rw [if_pos c] at h
    simp at h
  · rw [if_neg c] at h
    rw [if_neg (by omega)]
    exact checkL_prefix a b _ _ h
theorem compare_refl : ∀ l : List UInt8, Lib.compareBytes l l = 0
  | [] => rfl
  | x :: r => by
    have ih := compare_refl r
    unfold Lib.compareBytes
    simp [ih]
theorem cmpParts_refl : ∀ l : List (List UInt8), cmpParts l l = 0
  | [] => rfl
  | [x] => by
    rw [cmp_nn, compare_refl]
    simp
  | x :: y :: r => by
    have ih := cmpParts_refl (y :: r)
    rw [cmp_yy (by simp) (by simp), compare_refl]
    simpa using ih
theorem putK_pos (p : List UInt8) (v : Int) (ks : Kinds) : 0 < (putK p v ks).length := by
  cases ks with
  | nil => simp [putK]
  | cons a r =>
    obtain ⟨q, u⟩ := a
    unfold putK
    split <;> simp
theorem entryE_twice {c : Ck} {e : Ent} (h : (entryE c e).1 = 0) : (entryE (entryE c e).2 e).1 ≠ 0 := by
  obtain ⟨g1, g2⟩ := entryE_good h
  have hk : 0 < (entryE c e).2.ks.length ∧ (entryE c e).2.last = e.path := by
    refine ⟨?_, (entryE_ok h).1⟩
    unfold entryE at h ⊢
    rw [if_neg (by simp [g1]), if_neg (by simp [g2])] at h ⊢
    split at h
    · simp at h
    · rename_i g3
      rw [if_neg g3]
      split at h
      · simp at h
      · rename_i g4
        rw [if_neg g4]
        split at h
        · simp at h
        · rename_i g5
          rw [if_neg g5]
          split at h
          · simp at h
          · rename_i g6
            rw [if_neg g6]
            exact putK_pos _ _ _
  have hc : cmpPath e.path e.path = 0 := cmpParts_refl _
  generalize entryE c e = C at *
  unfold entryE
  rw [if_neg (by simp [g1]), if_neg (by simp [g2]), hk.2, if_pos ⟨hk.1, by rw [hc]; omega⟩]
  simp
theorem checkL_twice : ∀ (a : List Ent) (e : Ent) (c : Ck) (i : Int), (checkL c i (a ++ [e, e])).2 ≠ 0
  | [], e, c, i => by
    simp only [List.nil_append, checkL]
    by_cases g : (entryE c e).1 = 0
    · rw [if_pos g, if_neg (entryE_twice g)]
      exact entryE_twice g
    · rw [if_neg g]
      exact g
  | x :: a, e, c, i => by
    simp only [List.cons_append, checkL]
    by_cases g : (entryE c x).1 = 0
    · rw [if_pos g]
      exact checkL_twice a e _ _
    · rw [if_neg g]
      exact g
theorem checkT_twice (a : List Ent) (e : Ent) : (checkT (a ++ [e, e])).2 ≠ 0 := by
  unfold checkT
  split
  · simp
  · exact checkL_twice a e _ _
theorem outL_app : ∀ (a b : List Ent) (i : Nat), outL i (a ++ b) = outL i a ++ outL (i + a.length) b
  | [], b, i => rfl
  | e :: a, b, i => by
    simp only [List.cons_append, outL, outL_app a b (i + 1), List.append_assoc, List.length_cons]
    congr 3
    omega
theorem pieces_part {t : List Ent} (h : (checkT (t.map Ent.cp)).2 = 0) (a b : Nat) (hab : a ≤ b) : PiecesOk a ((t.drop a).take (b - a)) := by
  rw [checkT_map Ent.cp same_cp] at h
  obtain ⟨h1, h2⟩ := checkT_good h
  by_cases ha : a ≤ t.length
  · refine piecesOk_of _ _ (by simp; omega) fun e he => h2 e ?_
    exact List.mem_of_mem_drop (List.mem_of_mem_take he)
  · rw [List.drop_eq_nil_of_le (by omega)]
    simp [PiecesOk]
theorem take_part (t : List Ent) (a b : Nat) (hab : a ≤ b) : t.take b = t.take a ++ (t.drop a).take (b - a) := by
  have : b = a + (b - a) := by omega
  rw [this, List.take_add]
  congr 2
  omega
theorem check_take {t : List Ent} (h : (checkT (t.map Ent.cp)).2 = 0) (b : Nat) : (checkT ((t.take b).map Ent.cp)).2 = 0 := by
  refine checkT_prefix (b := (t.drop b).map Ent.cp) ?_
  rw [← List.map_append, List.take_append_drop]
  exact h
end Go.Abs
/- TarPieces: its loop. -/
namespace Go.Abs
open Am
set_option maxRecDepth 100000
set_option linter.unusedSimpArgs false
abbrev FinT : FinP := Fin [(6, none)] 0 (.bool true) []
set_option maxHeartbeats 4000000 in
theorem x5_O (ct tt : Bool) (t : List Ent) (o : Ent) (ho : o.data.isTmp = false) (W G : List UInt8) (q g : Nat) (hq : W.length = q) (hg : G.length = g) (hG : g ≤ 1000000000) (cs : List Int) (n i : Int) (hn : n = cs.length) (hi : i = cs.length) (a : Int) (hW : W = G ++ zeros1024) (T : List Ent) (m : Nat) (cl : Bool) :
    HD AA 0 [0, 5, 6, 7, 9, 10, 11, 56, 57, 58] l5_0 ⟨EnvP (.view 8 (t.map Ent.av) ct tt) q 4 g a 5 cs.length n i, [(0, .var (oddC o)), (1, .row (W.map .byte) 1), (2, .var [.own 3 8 0 m cl]), (3, .row (T.map Ent.av) 8), (4, .row (G.map .byte) 1), (5, .row (ints cs) 1)], 6⟩ [.blk 0, .code r5_0] FinT := by
  have hz := zeros1024_length
  have ez := zeros1024_take
  have eg : (G.map AVal.byte).take g = G.map .byte := List.take_of_length_le (by rw [List.length_map]; omega)
  have eW : (W.map AVal.byte).take q = W.map .byte := List.take_of_length_le (by rw [List.length_map]; omega)
  have e2 : List.take (g + 1024) (List.map AVal.byte G ++ List.map AVal.byte zeros1024) = W.map .byte := by
    rw [hW, List.map_append]
    exact List.take_of_length_le (by rw [List.length_append, List.length_map, List.length_map]; omega)
  have h0 := s32 _ rfl
  have e3 : g ≤ G.length := by omega
  have e4 : q ≤ W.length := by omega
  dsimp only [EnvP, oddC, FinT]
  refine hd_of (by unfold l5_0; rfl) ?_
  unfold ints
  (simp (maxSteps := 2000000) (disch := omega) only [r5_0, h0, s32c, s30e, ez, eg, eW, e2, e3, e4, hz, go_sem]) <;> repeat' (first | ((first | refine gd_dec ?_ ?_ | refine gd_ndec ?_ ?_ | refine cd_dec ?_ ?_ | refine cd_ndec ?_ ?_ | refine gdd_dec ?_ ?_ | refine gdd_ndec ?_ ?_ | refine gd_of ?_ ?_ | refine cd_of ?_ ?_ | refine gdd_of ?_ ?_) <;> intro hg <;> first | (exfalso; omega) | (simp (maxSteps := 2000000) (disch := omega) only [hg, r5_0, h0, s32c, s30e, ez, eg, eW, e2, e3, e4, hz, go_sem])) | (refine And.intro ?_ ?_; focus omega) | omega)
set_option maxHeartbeats 4000000 in
theorem x5_N (ct tt : Bool) (t : List Ent) (o : Ent) (ho : o.data.isTmp = false) (W G : List UInt8) (q g : Nat) (hq : W.length = q) (hg : G.length = g) (hG : g ≤ 1000000000) (cs : List Int) (n i : Int) (hn : n = cs.length) (hi : i = cs.length) (a : Int) (hW : W = G ++ zeros1024) :
    HD AA 0 [0, 5, 6, 7, 9, 10, 11, 56, 57, 58] l5_0 ⟨EnvP (.view 8 (t.map Ent.av) ct tt) q 3 g a 4 cs.length n i, [(0, .var (oddC o)), (1, .row (W.map .byte) 1), (2, .var [.lit (.slice none 0 0)]), (3, .row (G.map .byte) 1), (4, .row (ints cs) 1)], 5⟩ [.blk 0, .code r5_0] FinT := by
  have hz := zeros1024_length
  have ez := zeros1024_take
  have eg : (G.map AVal.byte).take g = G.map .byte := List.take_of_length_le (by rw [List.length_map]; omega)
  have eW : (W.map AVal.byte).take q = W.map .byte := List.take_of_length_le (by rw [List.length_map]; omega)
  have e2 : List.take (g + 1024) (List.map AVal.byte G ++ List.map AVal.byte zeros1024) = W.map .byte := by
    rw [hW, List.map_append]
    exact List.take_of_length_le (by rw [List.length_append, List.length_map, List.length_map]; omega)
  have h0 := s32 _ rfl
  have e3 : g ≤ G.length := by omega
  have e4 : q ≤ W.length := by omega
  dsimp only [EnvP, oddC, FinT]
  refine hd_of (by unfold l5_0; rfl) ?_
  unfold ints
  (simp (maxSteps := 2000000) (disch := omega) only [r5_0, h0, s32c, s30e, ez, eg, eW, e2, e3, e4, hz, go_sem]) <;> repeat' (first | ((first | refine gd_dec ?_ ?_ | refine gd_ndec ?_ ?_ | refine cd_dec ?_ ?_ | refine cd_ndec ?_ ?_ | refine gdd_dec ?_ ?_ | refine gdd_ndec ?_ ?_ | refine gd_of ?_ ?_ | refine cd_of ?_ ?_ | refine gdd_of ?_ ?_) <;> intro hg <;> first | (exfalso; omega) | (simp (maxSteps := 2000000) (disch := omega) only [hg, r5_0, h0, s32c, s30e, ez, eg, eW, e2, e3, e4, hz, go_sem])) | (refine And.intro ?_ ?_; focus omega) | omega)
set_option maxHeartbeats 4000000 in
theorem x5_z (o : Ent) (ho : o.data.isTmp = false) (W G : List UInt8) (q g : Nat) (hq : W.length = q) (hg : G.length = g) (hG : g ≤ 1000000000) (cs : List Int) (n i : Int) (hn : n = cs.length) (hi : i = cs.length) (a : Int) (hW : W = G ++ zeros1024) :
    HD AA 0 [0, 5, 6, 7, 9, 10, 11, 56, 57, 58] l5_0 ⟨EnvP (.lit (.slice none 0 0)) q 3 g a 4 cs.length n i, [(0, .var (oddC o)), (1, .row (W.map .byte) 1), (2, .var [.lit (.slice none 0 0)]), (3, .row (G.map .byte) 1), (4, .row (ints cs) 1)], 5⟩ [.blk 0, .code r5_0] FinT := by
  have hz := zeros1024_length
  have ez := zeros1024_take
  have eg : (G.map AVal.byte).take g = G.map .byte := List.take_of_length_le (by rw [List.length_map]; omega)
  have eW : (W.map AVal.byte).take q = W.map .byte := List.take_of_length_le (by rw [List.length_map]; omega)
  have e2 : List.take (g + 1024) (List.map AVal.byte G ++ List.map AVal.byte zeros1024) = W.map .byte := by
    rw [hW, List.map_append]
    exact List.take_of_length_le (by rw [List.length_append, List.length_map, List.length_map]; omega)
  have h0 := s32 _ rfl
  have e3 : g ≤ G.length := by omega
  have e4 : q ≤ W.length := by omega
  dsimp only [EnvP, oddC, FinT]
  refine hd_of (by unfold l5_0; rfl) ?_
  unfold ints
  (simp (maxSteps := 2000000) (disch := omega) only [r5_0, h0, s32c, s30e, ez, eg, eW, e2, e3, e4, hz, go_sem]) <;> repeat' (first | ((first | refine gd_dec ?_ ?_ | refine gd_ndec ?_ ?_ | refine cd_dec ?_ ?_ | refine cd_ndec ?_ ?_ | refine gdd_dec ?_ ?_ | refine gdd_ndec ?_ ?_ | refine gd_of ?_ ?_ | refine cd_of ?_ ?_ | refine gdd_of ?_ ?_) <;> intro hg <;> first | (exfalso; omega) | (simp (maxSteps := 2000000) (disch := omega) only [hg, r5_0, h0, s32c, s30e, ez, eg, eW, e2, e3, e4, hz, go_sem])) | (refine And.intro ?_ ?_; focus omega) | omega)
end Go.Abs
/- TarPieces: its loop. -/
namespace Go.Abs
open Am
set_option maxRecDepth 100000
set_option linter.unusedSimpArgs false
/-- what stands for the state of the writer -/
structure OddOk (o : Ent) : Prop where
  ok : EntOkB o
  data : o.data.l.length ≤ 281474976710656 / 4
def HeadO (ct tt : Bool) (t : List Ent) (o : Ent) (W : List UInt8) (q : Nat) (cs : List Int) (n : Int) (a : Nat) (i : Int) : Prop := ∀ cl : Bool, HD AA 0 [0, 5, 6, 7, 9, 10, 11, 56, 57, 58] l5_0 ⟨EnvP (.view 8 (t.map Ent.av) ct tt) q 4 (outL 0 (t.take a)).length (a : Int) 5 cs.length n i, [(0, .var (oddC o)), (1, .row (W.map .byte) 1), (2, .var [.own 3 8 0 a cl]), (3, .row (((t.take a).map Ent.cp).map Ent.av) 8), (4, .row ((outL 0 (t.take a)).map .byte) 1), (5, .row (ints cs) 1)], 6⟩ [.blk 0, .code r5_0] FinT
def HeadN (ct tt : Bool) (t : List Ent) (o : Ent) (W : List UInt8) (q : Nat) (cs : List Int) (n : Int) (i : Int) : Prop := HD AA 0 [0, 5, 6, 7, 9, 10, 11, 56, 57, 58] l5_0 ⟨EnvP (.view 8 (t.map Ent.av) ct tt) q 3 0 (0 : Int) 4 cs.length n i, [(0, .var (oddC o)), (1, .row (W.map .byte) 1), (2, .var [.lit (.slice none 0 0)]), (3, .row (([] : List UInt8).map .byte) 1), (4, .row (ints cs) 1)], 5⟩ [.blk 0, .code r5_0] FinT
theorem sl_part {ct tt : Bool} {t : List Ent} {a b : Nat} (h1 : a ≤ b) (h2 : b ≤ t.length) : aSlice 8 (.view 8 (t.map Ent.av) ct tt) (some (.int .i64 a)) (some (.int .i64 b)) none = some (.view 8 (((t.drop a).take (b - a)).map Ent.av) (ct && b == t.length) tt) := by
  simp [aSlice, bounds, natOr, toNat?, h1, h2, clipOf, List.map_drop, List.map_take]
theorem sl_pre {ct tt : Bool} {t : List Ent} {b : Nat} (h2 : b ≤ t.length) : aSlice 8 (.view 8 (t.map Ent.av) ct tt) none (some (.int .i64 b)) none = some (.view 8 ((t.take b).map Ent.av) (ct && b == t.length) tt) := by
  simp [aSlice, bounds, natOr, toNat?, h2, clipOf, List.map_take]
theorem out_le {t : List Ent} (h : PiecesOk 0 t) (ht : t.length ≤ 200) : (outL 0 t).length ≤ 220000000 := by
  have := outL_le t 0 h
  omega
theorem odd_err (T : List Ent) (o : Ent) : (checkT (T.map Ent.cp ++ [o, o].map Ent.cp)).2 = (checkT (T ++ [o, o])).2 := by
  rw [← List.map_append, checkT_map Ent.cp same_cp]
theorem entOk_ofc {t : List Ent} (h : (checkT (t.map Ent.cp)).2 = 0) (hq : ∀ e ∈ t, EntOkB e) : ∀ e ∈ t, EntOk e := by
  intro e he
  rw [checkT_map Ent.cp same_cp] at h
  obtain ⟨_, h2⟩ := checkT_good h
  obtain ⟨g1, g2⟩ := h2 e he
  have hl := (fields_ok g2).link
  have hp := good_le g1
  obtain ⟨q1, q2, q3, q4⟩ := hq e he
  exact ⟨by omega, by omega, q3, q4⟩
/-- one round -/
theorem step5 (ct tt : Bool) (t : List Ent) (o : Ent) (ho : OddOk o) (W : List UInt8) (q : Nat) (hq : W.length = q) (cs : List Int) (n : Int) (hn : n = cs.length) (hcl : cs.length ≤ 100000000000000) (htl : t.length ≤ 200) (hq2 : ∀ e ∈ t, EntOkB e) (hc : (checkT (t.map Ent.cp)).2 = 0)
    (a : Nat) (i c : Int) (ha : a ≤ t.length) (hi : 0 ≤ i) (hil : i.toNat < cs.length) (hci : cs[i.toNat]? = some c) (b : Nat) (hab : a ≤ b) (hb : b ≤ t.length) (hbe : (if (t.length : Int) < (if c < a then (a : Int) else c) then (t.length : Int) else (if c < a then (a : Int) else c)) = b)
    (hO : 0 < b → HeadO ct tt t o W q cs n b (i + 1)) (hN : b = 0 → HeadN ct tt t o W q cs n (i + 1)) :
    (0 < a → HeadO ct tt t o W q cs n a i) ∧ (a = 0 → HeadN ct tt t o W q cs n i) := by
  have hpz := checkT_pieces hc
  have hga := fun k => out_le (t := t.take k) (by have := pieces_part hc 0 k (by omega); simpa using this) (by simp; omega)
  have hne := checkT_twice (t.take b) o
  have hqt : ∀ k, ∀ e ∈ t.take k, EntOkB e := fun k e he => hq2 e (List.mem_of_mem_take he)
  have hqc : ∀ k, ∀ e ∈ (t.take k).map Ent.cp, EntOkB e := by
    intro k e he
    obtain ⟨y, hy, rfl⟩ := List.mem_map.1 he
    exact entOkB_cp (hqt k y hy)
  have hqo : ∀ x ∈ [o, o], EntOkB x := by
    intro x hx
    simp at hx
    rw [hx]
    exact ho.ok
  have hdo : ∀ x ∈ [o, o], x.data.l.length ≤ 281474976710656 / 4 := by
    intro x hx
    simp at hx
    rw [hx]
    exact ho.data
  have h31 : ∀ c t', callT AA 31 [.view 8 ((t.take b).map Ent.av ++ [.agg (oddC o), .agg (oddC o)]) c t'] [] = some (.tuple [.int .i64 (checkT (t.take b ++ [o, o])).1, .iface 58 (.int .i64 (checkT (t.take b ++ [o, o])).2)], []) := by
    intro c t'
    have h := s31b c t' (t.take b ++ [o, o]) (by
      intro x hx
      rcases List.mem_append.1 hx with hx | hx
      · exact hqt b x hx
      · exact hqo x hx) (by simp; omega)
    rw [List.map_append] at h
    unfold errV at h
    rw [if_neg hne] at h
    exact h
  have hbN : b = 0 → ∀ c t', callT AA 29 [.ptr 0 0, .view 8 [.agg (oddC o), .agg (oddC o)] c t'] [(0, .var [.lit (.slice none 0 0)])] = some (.tuple [.lit (.slice none 0 0), .iface 58 (.int .i64 (checkT (t.take b ++ [o, o])).2)], [(0, .var [.lit (.slice none 0 0)])]) := by
    intro hb0 c t'
    have e : (checkT ([o, o].map Ent.cp)).2 = (checkT (t.take b ++ [o, o])).2 := by
      have := odd_err (t.take b) o
      rw [hb0] at this ⊢
      simpa using this
    have h := s29nob c t' o [o] (by simp) hqo (by rw [e]; exact hne) hdo
    rw [e] at h
    exact h
  have hbO : ∀ (cl : Bool) (c t' : Bool), callT AA 29 [.ptr 0 0, .view 8 [.agg (oddC o), .agg (oddC o)] c t'] [(0, .var [.own 1 8 0 b cl]), (1, .row (((t.take b).map Ent.cp).map Ent.av) 8)] = some (.tuple [.lit (.slice none 0 0), .iface 58 (.int .i64 (checkT (t.take b ++ [o, o])).2)], [(0, .var [.own 1 8 0 b cl]), (1, .row (((t.take b).map Ent.cp).map Ent.av) 8)]) := by
    intro cl c t'
    have e := odd_err (t.take b) o
    have h := s29cno c t' ((t.take b).map Ent.cp) b cl o [o] (by simp; omega) (by simp; omega) (by
      intro x hx
      rcases List.mem_append.1 hx with hx | hx
      · exact hqc b x hx
      · obtain ⟨y, hy, rfl⟩ := List.mem_map.1 hx
        exact entOkB_cp (hqo y hy)) (by rw [e]; exact hne) hdo
    rw [e] at h
    exact h
  have hcb := check_take hc b
  have g2 := sl_pre (ct := ct) (tt := tt) hb
  have g1 := sl_part (ct := ct) (tt := tt) hab hb
  have hpl : (t.take b).length ≤ 1000000 := by simp; omega
  have ht6 : t.length ≤ 1000000 := by omega
  have hfl := ho.ok.2.2.2
  by_cases hz : a = b
  · -- nothing is added
    subst hz
    have hsg : (t.drop a).take (a - a) = [] := by simp
    rw [hsg] at g1
    refine ⟨fun h0 cl => ?_, fun h0 => ?_⟩
    · refine f5_Oe ct tt t ht6 o hfl W _ q _ hq rfl (by have := hga a; omega) cs n i c hn hcl hi hil hci a a _ _ hne FinT (by omega) (by omega) (by omega) hbe (t.take a) _ _ g1 g2 hpl h31 ((t.take a).map Ent.cp) a cl (by simp; omega) rfl rfl ?_ ?_ ?_
      · exact fun c t' => s29ce c t' ((t.take a).map Ent.cp) a cl (by simp; omega) (hqc a) (by simp; omega) hcb
      · exact hbO true
      · exact hO h0 true
    · subst h0
      exact f5_Ne ct tt t ht6 o hfl W [] q 0 hq rfl (by omega) cs n i c hn hcl hi hil hci 0 0 _ _ hne FinT (by omega) (by omega) (by omega) hbe (t.take 0) _ _ g1 g2 hpl h31 rfl rfl (fun c t' => s29v c t') (hbN rfl) (hN rfl)
  · have hlt : a < b := by omega
    have hsp := pieces_part hc a b hab
    have htk := take_part t a b hab
    have hsl : ((t.drop a).take (b - a)).length = b - a := by simp; omega
    have hqs : ∀ x ∈ (t.drop a).take (b - a), EntOkB x := fun x hx => hq2 x (List.mem_of_mem_drop (List.mem_of_mem_take hx))
    have hcat : (t.take b).map Ent.cp = (t.take a).map Ent.cp ++ ((t.drop a).take (b - a)).map Ent.cp := by rw [htk, List.map_append]
    have hout : outL 0 (t.take b) = outL 0 (t.take a) ++ outL a ((t.drop a).take (b - a)) := by
      rw [htk, outL_app]
      congr 2
      simp
      omega
    have hlen := congrArg List.length hout
    rw [List.length_append] at hlen
    have hgb := hga b
    have hO' := hO (by omega)
    unfold HeadO at hO'
    rw [hout] at hO'
    rw [List.length_append] at hO'
    obtain ⟨e, r, her⟩ : ∃ e r, (t.drop a).take (b - a) = e :: r := by
      cases hd : (t.drop a).take (b - a) with
      | nil => rw [hd] at hsl; simp at hsl; omega
      | cons e r => exact ⟨e, r, rfl⟩
    refine ⟨fun h0 cl => ?_, fun h0 => ?_⟩
    · refine f5_Os ct tt t ht6 o hfl W _ q _ hq rfl (by have := hga a; omega) cs n i c hn hcl hi hil hci a b _ _ hne FinT (by omega) (by omega) (by omega) hbe ((t.drop a).take (b - a)) (t.take b) _ _ g1 g2 hpl h31 ((t.take a).map Ent.cp) a cl (by simp; omega) rfl (outL a ((t.drop a).take (b - a))) (by omega) ((t.take b).map Ent.cp) b (by simp; omega) rfl ?_ ?_ ?_
      · intro c t'
        rw [her] at hcat hsp hsl hqs ⊢
        have h := s29c c t' ((t.take a).map Ent.cp) a cl e r (by simp; omega) (by omega) (by
          rw [← hcat]
          exact hqc b) (by rw [← hcat]; exact hcb) hsp
        rw [← hcat, hsl] at h
        have hbb : a + (b - a) = b := by omega
        rw [hbb] at h
        exact h
      · exact hbO false
      · exact hO' false
    · subst h0
      simp only [List.drop_zero, Nat.sub_zero] at *
      have hT0 : (t.take 0) = [] := rfl
      rw [hT0] at hO'
      refine f5_Ns ct tt t ht6 o hfl W [] q 0 hq rfl (by omega) cs n i c hn hcl hi hil hci 0 b _ _ hne FinT (by omega) (by omega) (by omega) hbe (t.take b) (t.take b) _ _ g1 g2 hpl h31 (outL 0 (t.take b)) (by omega) ((t.take b).map Ent.cp) b (by simp; omega) rfl rfl ?_ ?_ ?_
      · intro c t'
        rw [her] at hsp hsl hqs hcb ⊢
        have h := s29 c t' e r (by omega) (entOk_ofc hcb hqs) hcb hsp
        rw [cav_eq, hsl] at h
        exact h
      · exact hbO false
      · simpa [outL] using hO' false
end Go.Abs
/- TarPieces: its loop, from round to round. -/
namespace Go.Abs
open Am
set_option maxRecDepth 100000
set_option linter.unusedSimpArgs false
theorem last_cons {c x : Int} {r : List Int} (h : (c :: r).getLast? = some x) : (r = [] → c = x) ∧ (r ≠ [] → r.getLast? = some x) := by
  cases r with
  | nil => simp at h; exact ⟨fun _ => h, fun h => (h rfl).elim⟩
  | cons y r =>
    refine ⟨fun h => by simp at h, fun _ => ?_⟩
    rw [List.getLast?_cons_cons] at h
    exact h
theorem loop5 (ct tt : Bool) (t : List Ent) (o : Ent) (ho : OddOk o) (W : List UInt8) (q : Nat) (hq : W.length = q) (cs : List Int) (n : Int) (hn : n = cs.length) (hcl : cs.length ≤ 100000000000000) (htl : t.length ≤ 200) (hq2 : ∀ e ∈ t, EntOkB e) (hc : (checkT (t.map Ent.cp)).2 = 0) (hW : W = writeL t) : ∀ (rest done : List Int) (i : Int) (a : Nat), cs = done ++ rest → i = done.length → a ≤ t.length → (rest = [] → a = t.length) → (rest ≠ [] → rest.getLast? = some (t.length : Int)) →
    (0 < a → HeadO ct tt t o W q cs n a i) ∧ (a = 0 → HeadN ct tt t o W q cs n i)
  | [], done, i, a, h1, h2, h3, h4, h5 => by
    have ha := h4 rfl
    have hcs : cs.length = done.length := by rw [h1]; simp
    have hpz := checkT_pieces hc
    have hlen := out_le hpz htl
    refine ⟨fun h0 cl => ?_, fun h0 => ?_⟩
    · refine x5_O ct tt t o ho.ok.2.2.2 W _ q _ hq rfl ?_ cs n i hn (by omega) a ?_ _ a cl
      · rw [ha, List.take_length]; omega
      · rw [ha, List.take_length]; exact hW
    · have ht : t = [] := List.eq_nil_of_length_eq_zero (by omega)
      subst ht
      exact x5_N ct tt [] o ho.ok.2.2.2 W [] q 0 hq rfl (by omega) cs n i hn (by omega) 0 hW
  | c :: rest, done, i, a, h1, h2, h3, h4, h5 => by
    obtain ⟨l1, l2⟩ := last_cons (h5 (by simp))
    have hci : cs[i.toNat]? = some c := by
      rw [h1]
      simp [h2]
    have hil : i.toNat < cs.length := by rw [h1]; simp; omega
    obtain ⟨bI, hbI⟩ : ∃ x : Int, (if (t.length : Int) < (if c < a then (a : Int) else c) then (t.length : Int) else (if c < a then (a : Int) else c)) = x := ⟨_, rfl⟩
    have hb1 : (a : Int) ≤ bI ∧ bI ≤ t.length := by
      rw [← hbI]
      split <;> split <;> omega
    have hb2 : c = t.length → bI = t.length := by
      intro hct
      rw [← hbI]
      split <;> split <;> omega
    have hbn : ((bI.toNat : Nat) : Int) = bI := by omega
    have ih := loop5 ct tt t o ho W q hq cs n hn hcl htl hq2 hc hW rest (done ++ [c]) (i + 1) bI.toNat (by simp [h1]) (by simp; omega) (by omega) (fun h => by have := hb2 (l1 h); omega) l2
    exact step5 ct tt t o ho W q hq cs n hn hcl htl hq2 hc a i c h3 (by omega) hil hci bI.toNat (by omega) (by omega) (by rw [hbI, hbn]) ih.1 ih.2
end Go.Abs
