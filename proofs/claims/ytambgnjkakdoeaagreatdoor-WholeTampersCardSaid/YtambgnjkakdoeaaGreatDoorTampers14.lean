import Derived.Test.YtambgnjkakdoeaaGreatDoorTampers13
/- PART OF A PROOF (texts joined by a program): F79 F80 F81 F68 F69 F82 F85 F87. -/
set_option linter.unusedVariables false
set_option linter.unusedSimpArgs false
set_option linter.unusedSectionVars false
namespace Go.Abs
open Am Lib
set_option maxRecDepth 20000
set_option linter.unusedSimpArgs false
theorem recV_nil : recV [] = .lit (.slice none 0 0) := rfl
theorem recH_nil : recH [] = [] := rfl
theorem recV_cons {a : Rcd} {l : List Rcd} : recV (a :: l) = .own 0 2 0 (l.length + 1) false := rfl
theorem recH_cons {a : Rcd} {l : List Rcd} : recH (a :: l) = [(0, .row ((a :: l).map Rcd.av) 2)] := rfl
set_option maxHeartbeats 40000000 in
theorem s22 (e : Ent) (hb : EntB e) : callT AA 22 [e.av] [] = some (recV (recsE e), recH (recsE e)) := by
  have c1 := s57 e.path hb.2.2.2.2.2.2.2
  have c2 := s58 e.gid
  have c3 := s58 e.uid
  have c4 := s60 e.time
  have c5 := s59 e.link hb.2.2.2.2.2.2.1
  have d1 := s47 e.gid hb.1 hb.2.1
  have d2 := s47 e.uid hb.2.2.1 hb.2.2.2.1
  have d3 := s47 e.time hb.2.2.2.2.1 hb.2.2.2.2.2.1
  clear hb
  unfold recsE rst3 rst4 rst5 rst6 rst7
  obtain ⟨pa, kd, md, u, g, tm, lk, dt⟩ := e
  simp only at *
  generalize idB g = f1 at *
  generalize idB u = f2 at *
  generalize timeB tm = f3 at *
  generalize itoa g = G at *
  generalize itoa u = U at *
  generalize itoa tm = T at *
  generalize splitN pa = sp at *
  obtain ⟨sp1, sp2, f4⟩ := sp
  simp only at *
  refine enter fn22 np22 rfl ?_
  by_cases hl : lk = []
  · have e0 : linkE lk = true := by rw [hl]; rfl
    have hz := decide_eq_true hl
    rw [e0]
    clear e0 hl c5
    cases f1 <;> cases f2 <;> cases f3 <;> cases f4
    all_goals
      simp only [recIf, if_true, Bool.false_eq_true, if_false, List.nil_append, List.cons_append, recV_nil, recV_cons, recH_nil, recH_cons, List.length_nil, List.length_cons]
      have gg := trivial; repeat' first | simp (maxSteps := 2000000) (disch := omega) only [gg, b22, c1, c2, c3, c4, d1, d2, d3, hz, gidB, linkpathB, mtimeB, pathB, uidB, go_sem] | (refine br ?_ ?_ <;> intro gg <;> try (exfalso; omega)) | (refine And.intro ?_ ?_; focus omega) | omega
  · rw [linkE_ne hl]
    have hz := decide_eq_false hl
    clear hl
    generalize linkB lk = f5 at *
    cases f1 <;> cases f2 <;> cases f3 <;> cases f4 <;> cases f5
    all_goals
      simp only [recIf, if_true, Bool.false_eq_true, if_false, List.nil_append, List.cons_append, recV_nil, recV_cons, recH_nil, recH_cons, List.length_nil, List.length_cons]
      have gg := trivial; repeat' first | simp (maxSteps := 2000000) (disch := omega) only [gg, b22, c1, c2, c3, c4, c5, d1, d2, d3, hz, gidB, linkpathB, mtimeB, pathB, uidB, go_sem] | (refine br ?_ ?_ <;> intro gg <;> try (exfalso; omega)) | (refine And.intro ?_ ?_; focus omega) | omega
end Go.Abs
namespace Go.Abs
open Am Lib
set_option maxRecDepth 20000
set_option linter.unusedSimpArgs false
theorem padN_zero {n : Nat} (h : padN n = 0) : n % 512 = 0 := by
  unfold padN at h
  omega
theorem padN_succ {n k : Nat} (h : padN n = k + 1) : n % 512 ≠ 0 ∧ padN (n + 1) = k := by
  unfold padN at *
  omega
theorem zs_succ (k : Nat) : zs (k + 1) = [0] ++ zs k := by rw [show k + 1 = 1 + k by omega, zs_add]; rfl
theorem h96 (r0 : List UInt8) : ∀ (k : Nat) (out : List UInt8) (q : Nat), q = out.length → out.length ≤ 2000000000 - k → padN out.length = k → r0 = out ++ zs k →
    HD AA 1 [0, 4] l96_0 ⟨[.own 1 1 0 q false, .junk, .junk, .junk, .lit (.slice none 0 0), .junk, .junk, .junk, .junk, .junk, .junk, .junk, .junk, .junk, .junk, .junk], [(1, .row (out.map .byte) 1)], 2⟩ [.blk 0, .code r96_0] (Fin [(4, none)] 1 (.own 1 1 0 r0.length false) [(1, .row (r0.map .byte) 1)])
  | 0, out, q, h1, h2, h3, h4 => by
    have hr : r0 = out := by simpa using h4
    have hm := padN_zero h3
    have e1 : (q : Int).tmod 512 = q % 512 := Int.tmod_eq_emod_of_nonneg (by omega)
    subst hr
    rw [← h1]
    refine hd_of (by unfold l96_0; rfl) ?_
    have gg := trivial; repeat' first | simp (maxSteps := 2000000) (disch := omega) only [gg, r96_0, e1, go_sem] | (refine br ?_ ?_ <;> intro gg <;> try (exfalso; omega)) | (refine And.intro ?_ ?_; focus omega) | omega
  | k + 1, out, q, h1, h2, h3, h4 => by
    obtain ⟨hm, hm2⟩ := padN_succ h3
    have e1 : (q : Int).tmod 512 = q % 512 := Int.tmod_eq_emod_of_nonneg (by omega)
    have ih := h96 r0 k (out ++ [0]) (q + 1) (by simp [h1]) (by simp; omega) (by simpa using hm2) (by
      rw [h4, zs_succ]
      simp)
    have e : (out.map AVal.byte).take q = out.map .byte := List.take_of_length_le (by simp; omega)
    refine hd_of (by unfold l96_0; rfl) ?_
    have gg := trivial; repeat' first | simp (maxSteps := 2000000) (disch := omega) only [gg, e, e1, map_snoc, lp_head, go_sem] | (refine br ?_ ?_ <;> intro gg <;> try (exfalso; omega)) | (refine And.intro ?_ ?_; focus omega) | omega
theorem padL_behind {out b : List UInt8} (h : out.length % 512 = 0) : padN (out ++ b).length = padN b.length ∧ out ++ padL b = (out ++ b) ++ zs (padN b.length) := by
  constructor
  · unfold padN
    rw [List.length_append]
    omega
  · simp [padL]
theorem s96 (out : List UInt8) (b : BS) (q : Nat) (hq : q = out.length) (ho : out.length ≤ 1000000000) (hb : b.l.length ≤ 100000000) (hm : out.length % 512 = 0) :
    callT AA 96 [.own 0 1 0 q false, b.av] [(0, .row (out.map .byte) 1)] = some (.own 1 1 0 (out ++ padL b.l).length false, [(1, .row ((out ++ padL b.l).map .byte) 1)]) := by
  obtain ⟨p1, p2⟩ := padL_behind (b := b.l) hm
  have pl := padN_lt b.l.length
  rw [p2]
  have hh := h96 (out ++ b.l ++ zs (padN b.l.length)) (padN b.l.length) (out ++ b.l) (q + b.l.length) (by simp [hq]) (by simp; omega) p1 rfl
  have e : (out.map AVal.byte).take q = out.map .byte := List.take_of_length_le (by simp; omega)
  generalize out ++ b.l ++ zs (padN b.l.length) = R at *
  refine enter fn96 np96 rfl ?_
  have gg := trivial; repeat' first | simp (maxSteps := 2000000) (disch := omega) only [gg, b96, e, ← List.map_append, lp_head, go_sem] | (refine br ?_ ?_ <;> intro gg <;> try (exfalso; omega)) | (refine And.intro ?_ ?_; focus omega) | omega
theorem h96o (bd : List UInt8) (r0 : List UInt8) : ∀ (k : Nat) (out : List UInt8) (q : Nat), q = out.length → out.length ≤ 2000000000 - k → padN out.length = k → r0 = out ++ zs k →
    HD AA 2 [0, 4] l96_0 ⟨[.own 2 1 0 q false, .junk, .junk, .junk, .lit (.slice none 0 0), .junk, .junk, .junk, .junk, .junk, .junk, .junk, .junk, .junk, .junk, .junk], [(1, .row (bd.map .byte) 1), (2, .row (out.map .byte) 1)], 4⟩ [.blk 0, .code r96_0] (Fin [(4, none)] 2 (.own 2 1 0 r0.length false) [(1, .row (bd.map .byte) 1), (2, .row (r0.map .byte) 1)])
  | 0, out, q, h1, h2, h3, h4 => by
    have hr : r0 = out := by simpa using h4
    have hm := padN_zero h3
    have e1 : (q : Int).tmod 512 = q % 512 := Int.tmod_eq_emod_of_nonneg (by omega)
    subst hr
    rw [← h1]
    refine hd_of (by unfold l96_0; rfl) ?_
    have gg := trivial; repeat' first | simp (maxSteps := 2000000) (disch := omega) only [gg, r96_0, e1, go_sem] | (refine br ?_ ?_ <;> intro gg <;> try (exfalso; omega)) | (refine And.intro ?_ ?_; focus omega) | omega
  | k + 1, out, q, h1, h2, h3, h4 => by
    obtain ⟨hm, hm2⟩ := padN_succ h3
    have e1 : (q : Int).tmod 512 = q % 512 := Int.tmod_eq_emod_of_nonneg (by omega)
    have ih := h96o bd r0 k (out ++ [0]) (q + 1) (by simp [h1]) (by simp; omega) (by simpa using hm2) (by
      rw [h4, zs_succ]
      simp)
    have e : (out.map AVal.byte).take q = out.map .byte := List.take_of_length_le (by simp; omega)
    refine hd_of (by unfold l96_0; rfl) ?_
    have gg := trivial; repeat' first | simp (maxSteps := 2000000) (disch := omega) only [gg, e, e1, map_snoc, lp_head, go_sem] | (refine br ?_ ?_ <;> intro gg <;> try (exfalso; omega)) | (refine And.intro ?_ ?_; focus omega) | omega
theorem s96o (out b : List UInt8) (q p : Nat) (hq : q = out.length) (hp : p = b.length) (ho : out.length ≤ 1000000000) (hb : b.length ≤ 100000000) (hm : out.length % 512 = 0) :
    callT AA 96 [.own 0 1 0 q false, .own 1 1 0 p false] [(0, .row (out.map .byte) 1), (1, .row (b.map .byte) 1)] = some (.own 2 1 0 (out ++ padL b).length false, [(1, .row (b.map .byte) 1), (2, .row ((out ++ padL b).map .byte) 1)]) := by
  obtain ⟨p1, p2⟩ := padL_behind (b := b) hm
  have pl := padN_lt b.length
  rw [p2]
  have hh := h96o b (out ++ b ++ zs (padN b.length)) (padN b.length) (out ++ b) (q + b.length) (by simp [hq]) (by simp; omega) p1 rfl
  have e : (out.map AVal.byte).take q = out.map .byte := List.take_of_length_le (by simp; omega)
  subst hp
  generalize out ++ b ++ zs (padN b.length) = R at *
  refine enter fn96 np96 rfl ?_
  have gg := trivial; repeat' first | simp (maxSteps := 2000000) (disch := omega) only [gg, b96, e, List.drop_zero, ← List.map_append, lp_head, go_sem] | (refine br ?_ ?_ <;> intro gg <;> try (exfalso; omega)) | (refine And.intro ?_ ?_; focus omega) | omega
end Go.Abs
namespace Go.Abs
open Am Lib
set_option maxRecDepth 20000
set_option linter.unusedSimpArgs false
theorem s53 (out : List UInt8) (q : Nat) (hq : q = out.length) (ho : out.length ≤ 200000000) (hm : out.length % 512 = 0) (n : Int) (hn : 0 ≤ n) (hn' : n ≤ 1000000) (e : Ent) (hb : EntB e) (hk : e.kind = 1 ∨ e.kind = 2 ∨ e.kind = 3 ∨ e.kind = 4) (hd : e.data.l.length ≤ 1000000) (hok : pieceOk n e) :
    callT AA 53 [.own 0 1 0 q false, .int .i64 n, e.av] [(0, .row (out.map .byte) 1)] = some (.own 1 1 0 (out ++ pieceL n e).length false, [(1, .row ((out ++ pieceL n e).map .byte) 1)]) := by
  have h22 := s22 e hb
  have h97 := s97 e hb.2.2.2.2.2.2.2 hb.2.2.2.2.2.2.1 hk
  have hpl := fold_le (recsE e) (hdE e) hb.2.2.2.2.2.2.2 hb.2.2.2.2.2.2.1
  have h95 := s95 (hdrE e (recsE e)) hpl.1 hpl.2 hok.1
  have hl0 := encB_length (hdrE e (recsE e))
  have hpn := padN_lt e.data.l.length
  have hpe := padL_length e.data.l
  by_cases h0 : recsE e = []
  · have e1 : pieceL n e = encB (hdrE e (recsE e)) ++ padL e.data.l := by
      unfold pieceL preE
      rw [if_pos h0, List.nil_append]
    rw [e1]
    rw [h0, recV_nil, recH_nil] at h22
    generalize hH : hdrE e (recsE e) = H at *
    generalize hB : encB H = B at *
    have h96 := s96 (out ++ B) e.data (q + 512) (by simp [hq, hl0]) (by simp; omega) (by omega) (by simp [hl0]; omega)
    rw [List.append_assoc] at h96
    have hx1 : (out.map AVal.byte).take q = out.map AVal.byte := List.take_of_length_le (by simp; omega)
    have hx2 : (B.map AVal.byte).take 512 = B.map AVal.byte := List.take_of_length_le (by simp; omega)
    generalize out ++ (B ++ padL e.data.l) = R at *
    simp only [Hd.av, Ent.av] at *
    refine enter fn53 np53 rfl ?_
    have gg := trivial; repeat' first | simp (maxSteps := 2000000) (disch := omega) only [gg, b53, h22, h97, h95, h96, hx1, hx2, hl0, List.drop_zero, ← List.map_append, go_sem] | (refine br ?_ ?_ <;> intro gg <;> try (exfalso; omega)) | (refine And.intro ?_ ?_; focus omega) | omega
  · obtain ⟨body, hbd⟩ := Option.isSome_iff_exists.1 (hok.2 h0).1
    have hbe : bodyE e = body := by unfold bodyE; rw [hbd]; rfl
    have hok2 := (hok.2 h0).2
    rw [hbe] at hok2
    have hbl := paxE_le _ none [] body (by simp) hbd
    have hi := itoa_le (n := n) (by omega) (by omega)
    have h47 := s47 n (by omega) (by omega)
    have h95x := s95 (hdX n body) (by simp [hdX]; omega) (by simp [hdX]) hok2
    have hl1 := encB_length (hdX n body)
    have hrl : (recsE e).length ≤ 5 := by
      unfold recsE rst3 rst4 rst5 rst6 rst7 recIf
      repeat' split
      all_goals simp
    have h94 := s94 false true (recsE e) (by omega) (rcd_recsE hb)
    rw [hbd] at h94
    unfold paxRV paxH at h94
    have hpbl := padL_length body
    have hpbn := padN_lt body.length
    have e1 : out ++ pieceL n e = out ++ encB (hdX n body) ++ padL body ++ encB (hdrE e (recsE e)) ++ padL e.data.l := by
      unfold pieceL preE
      rw [if_neg h0, hbe]
      simp only [List.append_assoc]
    rw [e1]
    rw [show recV (recsE e) = .own 0 2 0 (recsE e).length false by simp [recV, h0], show recH (recsE e) = [(0, .row ((recsE e).map Rcd.av) 2)] by simp [recH, h0]] at h22
    generalize hH : hdrE e (recsE e) = H at *
    generalize hB : encB H = B at *
    generalize hC : encB (hdX n body) = C at *
    replace h95x : callT AA 95 [.agg [.str (112 :: 97 :: 120 :: 47 :: Lib.itoa n), .int .i64 0, .int .i64 0, .int .i64 0, .int .i64 body.length, .int .i64 0, .int .u8 120, .str []]] [] = some (.tuple [.own 0 1 0 512 false, .int .i64 0], [(0, .row (C.map .byte) 1)]) := h95x
    have hrp : 0 < (recsE e).length := by
      cases hq : recsE e with
      | nil => exact (h0 hq).elim
      | cons a b => simp
    have hrt : ((recsE e).map Rcd.av).take (recsE e).length = (recsE e).map Rcd.av := List.take_of_length_le (by simp)
    have h96x := s96o (out ++ C) body (q + 512) body.length (by simp [hq, hl1]) rfl (by simp; omega) (by omega) (by simp [hl1]; omega)
    have pb : (padL body).length % 512 = 0 := by
      rw [hpbl]
      unfold padN
      omega
    have hl2 : (out ++ C ++ padL body).length = out.length + 512 + (padL body).length := by simp [hl1]; omega
    have hl3 : (out ++ C).length = q + 512 := by simp [hl1, hq]
    have h96 := s96 (out ++ C ++ padL body ++ B) e.data ((out ++ C ++ padL body).length + 512) (by simp [hl0]; omega) (by rw [List.length_append, hl2, hl0]; omega) (by omega) (by rw [List.length_append, hl2, hl0]; omega)
    have hx0 : (body.map AVal.byte).take body.length = body.map AVal.byte := List.take_of_length_le (by simp)
    have hx1 : (out.map AVal.byte).take q = out.map AVal.byte := List.take_of_length_le (by simp; omega)
    have hx2 : (B.map AVal.byte).take 512 = B.map AVal.byte := List.take_of_length_le (by simp; omega)
    have hx3 : (C.map AVal.byte).take 512 = C.map AVal.byte := List.take_of_length_le (by simp; omega)
    generalize hO1 : out ++ C = O1 at *
    generalize hO2 : O1 ++ padL body = O2 at *
    have hx4 : (O2.map AVal.byte).take O2.length = O2.map AVal.byte := List.take_of_length_le (by simp)
    generalize hO3 : O2 ++ B = O3 at *
    have hy1 : out.map AVal.byte ++ C.map AVal.byte = O1.map .byte := by rw [← hO1, List.map_append]
    have hy3 : O2.map AVal.byte ++ B.map AVal.byte = O3.map .byte := by rw [← hO3, List.map_append]
    generalize O3 ++ padL e.data.l = R at *
    generalize hL2 : O2.length = L2 at *
    generalize recsE e = rs at *
    simp only [Hd.av, Ent.av] at *
    refine enter fn53 np53 rfl ?_
    have gg := trivial; repeat' first | simp (maxSteps := 2000000) (disch := omega) only [gg, b53, h22, h94, h47, h95x, h96x, h97, h95, h96, hrt, hx0, hx1, hx2, hx3, hx4, hy1, hy3, hl0, hl1, List.drop_zero, go_sem] | (refine br ?_ ?_ <;> intro gg <;> try (exfalso; omega)) | (refine And.intro ?_ ?_; focus omega) | omega
end Go.Abs
namespace Go.Abs
open Am Lib
set_option maxRecDepth 10000
set_option linter.unusedSimpArgs false
/-- what the code knows behind some entries, and these -/
structure CkOk (c : Ck) (done : List Ent) : Prop where
  ks : c.ks = done.map fun e => (e.path, e.kind)
  ord : ∀ d ∈ done, d.path = c.last ∨ cmpPath d.path c.last = -1
  size : 0 ≤ c.size ∧ c.size ≤ 1048576
theorem lk_kind (p : List UInt8) : ∀ done : List Ent, lk p (done.map fun e => (e.path, e.kind)) = kindF p done
  | [] => rfl
  | e :: r => by
    have ih := lk_kind p r
    simp only [List.map_cons, lk, kindF, ih]
    by_cases h : p = e.path
    · rw [if_pos h, if_pos h.symm]
    · rw [if_neg h, if_neg (fun hh => h hh.symm)]
theorem putK_new (p : List UInt8) (v : Int) : ∀ ks : Kinds, (∀ x ∈ ks, x.1 ≠ p) → putK p v ks = ks ++ [(p, v)]
  | [], _ => rfl
  | (q, u) :: r, h => by
    have ih := putK_new p v r fun x hx => h x (by simp [hx])
    have hq : ¬ p = q := fun hh => h (q, u) (by simp) hh.symm
    rw [putK, if_neg hq, ih]
    rfl
theorem ck_first : CkOk ⟨[], [], 0⟩ [] := ⟨rfl, by simp, by simp⟩
/-- the step, by the entries ahead -/
def stepE (done : List Ent) (last : List UInt8) (size : Int) (e : Ent) : Int :=
  if goodB e.path = false then 12 else
  if fieldsB e = false then 13 else
  if 0 < done.length ∧ cmpPath last e.path ≠ -1 then 13 else
  if (parentP e.path).2 = true ∧ kindF (parentP e.path).1 done ≠ 1 then 13 else
  if e.kind = 4 ∧ kindF e.link done ≠ 2 then 13 else
  if 1048576 < size + e.data.l.length then 18 else 0
theorem step_entry {c : Ck} {done : List Ent} (h : CkOk c done) (e : Ent) : (entryE c e).1 = stepE done c.last c.size e := by
  have hk := h.ks
  have h3 : (0 < c.ks.length ∧ 0 ≤ cmpPath c.last e.path) ↔ (0 < done.length ∧ cmpPath c.last e.path ≠ -1) := by
    rw [hk, List.length_map]
    have := path_range c.last e.path
    omega
  unfold entryE stepE
  rw [hk, lk_kind, lk_kind, ← hk]
  simp only [h3]
  repeat' split
  all_goals rfl
theorem step_ok {c : Ck} {done : List Ent} (h : CkOk c done) {e : Ent} (h0 : (entryE c e).1 = 0) : CkOk (entryE c e).2 (done ++ [e]) ∧ (entryE c e).2.last = e.path ∧ (entryE c e).2.size = c.size + e.data.l.length := by
  obtain ⟨a1, a2, a3⟩ := entryE_ok h0
  have hs := step_entry h e
  rw [h0] at hs
  have h3 : ¬ (0 < done.length ∧ cmpPath c.last e.path ≠ -1) := by
    intro hh
    unfold stepE at hs
    rw [if_pos hh] at hs
    split at hs
    · omega
    · split at hs
      · omega
      · omega
  have hn : ∀ d ∈ done, cmpPath d.path e.path = -1 := by
    intro d hd
    have hl : 0 < done.length := List.length_pos_of_mem hd
    have h4 : cmpPath c.last e.path = -1 := by
      apply Classical.byContradiction
      intro h5
      exact h3 ⟨hl, h5⟩
    rcases h.ord d hd with h5 | h5
    · rw [h5]; exact h4
    · exact path_trans h5 h4
  have hks : (entryE c e).2.ks = putK e.path e.kind c.ks := by
    clear hs a1 a2 a3 hn h3
    unfold entryE at h0 ⊢
    by_cases g1 : goodB e.path = false
    · rw [if_pos g1] at h0; simp at h0
    rw [if_neg g1] at h0 ⊢
    by_cases g2 : fieldsB e = false
    · rw [if_pos g2] at h0; simp at h0
    rw [if_neg g2] at h0 ⊢
    by_cases g3 : 0 < c.ks.length ∧ 0 ≤ cmpPath c.last e.path
    · rw [if_pos g3] at h0; simp at h0
    rw [if_neg g3] at h0 ⊢
    by_cases g4 : (parentP e.path).2 = true ∧ lk (parentP e.path).1 c.ks ≠ 1
    · rw [if_pos g4] at h0; simp at h0
    rw [if_neg g4] at h0 ⊢
    by_cases g5 : e.kind = 4 ∧ lk e.link c.ks ≠ 2
    · rw [if_pos g5] at h0; simp at h0
    rw [if_neg g5] at h0 ⊢
    by_cases g6 : 1048576 < c.size + (e.data.l.length : Int)
    · rw [if_pos g6] at h0; simp at h0
    rw [if_neg g6] at h0 ⊢
  refine ⟨⟨?_, ?_, ?_⟩, a1, a3⟩
  · rw [hks, putK_new, h.ks]
    · simp
    · intro x hx hxp
      rw [h.ks] at hx
      obtain ⟨d, hd, he⟩ := List.mem_map.1 hx
      have h6 := hn d hd
      have h7 : d.path = e.path := by rw [← hxp, ← he]
      rw [h7, path_self] at h6
      omega
  · intro d hd
    rw [a1]
    rcases List.mem_append.1 hd with hd | hd
    · exact Or.inr (hn d hd)
    · rw [List.mem_singleton.1 hd]; exact Or.inl rfl
  · have := h.size
    omega
end Go.Abs
namespace Go.Abs
open Am Lib
set_option maxRecDepth 10000
set_option linter.unusedSimpArgs false
set_option maxHeartbeats 4000000 in
theorem h41 (cl tmp : Bool) (t : List Ent) (ht : t.length ≤ 200) (hq : ∀ e ∈ t, EntOk e) (r0 : Int × Int) : ∀ (rest done : List Ent) (c : Ck) (i : Int), t = done ++ rest → i = done.length → CkOk c done → (∀ p ∈ done.getLast?, c.last = p.path) → r0 = checkL c i rest →
    HD AA 0 [0, 2, 3, 4, 5] l41_0 ⟨[.view 8 (t.map Ent.av) cl tmp, .junk, .int .i64 0, .int .i64 0, .int .i64 c.size, .int .i64 i, .junk, .junk, .junk, .junk, .junk, .junk, .junk, .junk, .junk, .junk, .junk, .junk, .junk, .junk, .junk, .junk, .junk, .junk, .junk, .junk, .junk, .junk, .junk, .junk, .junk, .junk, .junk, .junk, .junk, .junk, .junk, .junk, .junk, .junk, .junk, .junk, .junk, .junk, .junk, .junk, .junk, .junk, .junk, .junk, .junk, .junk, .junk, .junk, .junk, .junk, .junk, .junk, .junk, .junk, .junk, .junk, .junk, .junk, .junk, .junk, .junk, .junk, .junk, .junk, .junk, .junk, .junk, .junk, .junk, .junk, .junk, .junk, .junk, .junk, .junk, .junk, .junk, .junk, .junk, .junk, .junk, .junk, .junk, .junk, .junk], [], 0⟩ [.blk 0, .code r41_0] (Fin [(2, none), (3, none)] 0 (.tuple [.int .i64 r0.1, .int .i64 r0.2]) [])
  | [], done, c, i, h1, h2, hck, hlast, h5 => by
    have hl : t.length = done.length := by rw [h1]; simp
    have hr : r0 = (-1, 0) := h5
    subst hr
    refine hd_of (by unfold l41_0; rfl) ?_
    have gg := trivial; repeat' first | simp (maxSteps := 2000000) (disch := omega) only [gg, r41_0, go_sem] | (refine br ?_ ?_ <;> intro gg <;> try (exfalso; omega)) | (refine And.intro ?_ ?_; focus omega) | omega
  | e :: rest, done, c, i, h1, h2, hck, hlast, h5 => by
    have hl : t.length = done.length + (rest.length + 1) := by rw [h1]; simp
    have hm : e ∈ t := by rw [h1]; simp
    obtain ⟨b1, b2, b3, b4⟩ := hq e hm
    have hsz := hck.size
    have hx : t[i.toNat]? = some e := by
      rw [show i.toNat = done.length by omega, h1, List.getElem?_append_right (by omega)]
      simp
    have k1 := s75 e.path b2
    have k2 := s76 e.path b2
    have k3 := s77 e b1
    have k4 := fun p => s79 cl tmp t (by omega) p i (by omega) (by omega)
    have hti : t.take i.toNat = done := by rw [show i.toNat = done.length by omega, h1, List.take_left' rfl]
    simp only [hti] at k4
    simp only [Ent.av] at k3
    have hs := step_entry hck e
    rw [checkL, hs] at h5
    have S : ∀ k, stepE done c.last c.size e = k → k ≠ 0 → r0 = (i, k) := by
      intro k h6 h7
      rw [h5, h6, if_neg h7]
    have K : stepE done c.last c.size e = 0 → HD AA 0 [0, 2, 3, 4, 5] l41_0 ⟨[.view 8 (t.map Ent.av) cl tmp, .junk, .int .i64 0, .int .i64 0, .int .i64 (c.size + e.data.l.length), .int .i64 (i + 1), .junk, .junk, .junk, .junk, .junk, .junk, .junk, .junk, .junk, .junk, .junk, .junk, .junk, .junk, .junk, .junk, .junk, .junk, .junk, .junk, .junk, .junk, .junk, .junk, .junk, .junk, .junk, .junk, .junk, .junk, .junk, .junk, .junk, .junk, .junk, .junk, .junk, .junk, .junk, .junk, .junk, .junk, .junk, .junk, .junk, .junk, .junk, .junk, .junk, .junk, .junk, .junk, .junk, .junk, .junk, .junk, .junk, .junk, .junk, .junk, .junk, .junk, .junk, .junk, .junk, .junk, .junk, .junk, .junk, .junk, .junk, .junk, .junk, .junk, .junk, .junk, .junk, .junk, .junk, .junk, .junk, .junk, .junk, .junk, .junk], [], 0⟩ [.blk 0, .code r41_0] (Fin [(2, none), (3, none)] 0 (.tuple [.int .i64 r0.1, .int .i64 r0.2]) []) := by
      intro h6
      rw [h6] at hs
      rw [h6, if_pos rfl] at h5
      obtain ⟨a1, a2, a3⟩ := step_ok hck hs
      have ih := h41 cl tmp t ht hq r0 rest (done ++ [e]) (entryE c e).2 (i + 1) (by rw [h1]; simp) (by simp; omega) a1 (by simp [a2]) h5
      rw [a3] at ih
      exact ih
    clear h5 hs
    by_cases hi : 0 < i
    · obtain ⟨p, hp⟩ : ∃ p, done.getLast? = some p := by
        cases hd : done.getLast? with
        | none => rw [List.getLast?_eq_none_iff.1 hd] at h2; simp at h2; omega
        | some p => exact ⟨p, rfl⟩
      have hcl : c.last = p.path := hlast p (by rw [hp]; rfl)
      have hx2 : t[(i - 1).toNat]? = some p := by
        rw [show (i - 1).toNat = done.length - 1 by omega, h1, List.getElem?_append_left (by omega), ← List.getLast?_eq_getElem?, hp]
      have hpm : p ∈ t := by rw [h1]; exact List.mem_append_left _ (List.mem_of_getLast? hp)
      have k5 := s78 p.path e.path (hq p hpm).2.1 b2
      have hdl : 0 < done.length := by omega
      rw [hcl] at S K
      refine hd_of (by unfold l41_0; rfl) ?_
      have gg := trivial; repeat' first | simp (maxSteps := 2000000) (disch := omega) only [gg, hx, hx2, k1, k2, k3, k4, k5, lp_head, go_sem] | (refine br ?_ ?_ <;> intro gg <;> try (exfalso; omega)) | (refine And.intro ?_ ?_; focus omega) | omega
      all_goals clear k1 k2 k3 k4 k5
      all_goals (try simp only [Bool.not_eq_true', Bool.not_eq_false'] at *)
      all_goals first
        | (refine K ?_; simp [stepE, *]; done)
        | (rw [S 12] <;> first | omega | (simp [stepE, *]; done))
        | (rw [S 13] <;> first | omega | (simp [stepE, *]; done))
        | (rw [S 18] <;> first | omega | (simp [stepE, *]; done))
    · have hdl : ¬ 0 < done.length := by omega
      refine hd_of (by unfold l41_0; rfl) ?_
      have gg := trivial; repeat' first | simp (maxSteps := 2000000) (disch := omega) only [gg, hx, k1, k2, k3, k4, lp_head, go_sem] | (refine br ?_ ?_ <;> intro gg <;> try (exfalso; omega)) | (refine And.intro ?_ ?_; focus omega) | omega
      all_goals clear k1 k2 k3 k4
      all_goals (try simp only [Bool.not_eq_true', Bool.not_eq_false'] at *)
      all_goals first
        | (refine K ?_; simp [stepE, *]; done)
        | (rw [S 12] <;> first | omega | (simp [stepE, *]; done))
        | (rw [S 13] <;> first | omega | (simp [stepE, *]; done))
        | (rw [S 18] <;> first | omega | (simp [stepE, *]; done))
theorem s41 (cl tmp : Bool) (t : List Ent) (hq : ∀ e ∈ t, EntOk e) (hl : t.length ≤ 1000000000) : callT AA 41 [.view 8 (t.map Ent.av) cl tmp] [] = some (.tuple [.int .i64 (checkT t).1, .int .i64 (checkT t).2], []) := by
  refine enter fn41 np41 rfl ?_
  unfold checkT
  by_cases h : 200 < t.length
  · rw [if_pos h]
    have gg := trivial; repeat' first | simp (maxSteps := 2000000) (disch := omega) only [gg, b41, go_sem] | (refine br ?_ ?_ <;> intro gg <;> try (exfalso; omega)) | (refine And.intro ?_ ?_; focus omega) | omega
  · rw [if_neg h]
    have hh := h41 cl tmp t (by omega) hq (checkL ⟨[], [], 0⟩ 0 t) t [] ⟨[], [], 0⟩ 0 rfl rfl ck_first (by simp) rfl
    have gg := trivial; repeat' first | simp (maxSteps := 2000000) (disch := omega) only [gg, b41, lp_head, go_sem] | (refine br ?_ ?_ <;> intro gg <;> try (exfalso; omega)) | (refine And.intro ?_ ?_; focus omega) | omega
end Go.Abs
namespace Go.Abs
open Am Lib
set_option maxRecDepth 20000
set_option linter.unusedSimpArgs false
theorem mod_pad (l : List UInt8) : (padL l).length % 512 = 0 := by
  rw [padL_length]
  unfold padN
  omega
theorem mod_piece (n : Int) (e : Ent) : (pieceL n e).length % 512 = 0 := by
  have h2 := mod_pad e.data.l
  have h3 := encB_length (hdrE e (recsE e))
  have h4 : (preE n e).length % 512 = 0 := by
    unfold preE
    split
    · rfl
    · have := mod_pad (bodyE e)
      have := encB_length (hdX n (bodyE e))
      rw [List.length_append]
      omega
  unfold pieceL
  simp only [List.length_append]
  omega
theorem h18 (c tmp : Bool) (t : List Ent) (ht : t.length ≤ 128) (hk : ∀ e ∈ t, e.kind = 1 ∨ e.kind = 2 ∨ e.kind = 3 ∨ e.kind = 4) (W : List UInt8) : ∀ (rest done : List Ent) (out : List UInt8) (i : Int) (q : Nat), t = done ++ rest → i = done.length → q = out.length → out.length ≤ 1100000 * done.length → out.length % 512 = 0 → PiecesOk done.length rest → W = out ++ (outL done.length rest ++ zeros1024) →
    HD AA 0 [0, 2, 3, 6, 7] l18_0 ⟨[.view 8 (t.map Ent.av) c tmp, .junk, .lit (.slice none 0 0), .int .i64 0, .junk, .junk, .own 0 1 0 q false, .int .i64 i, .junk, .junk, .junk, .junk, .junk, .junk, .junk, .junk, .junk, .junk, .junk, .junk, .junk, .junk, .junk, .junk, .junk, .junk, .junk, .junk, .junk, .junk, .junk, .junk], [(0, .row (out.map .byte) 1)], 1⟩ [.blk 0, .code r18_0] (Fin [(2, none), (3, none)] 0 (.tuple [.own 0 1 0 W.length false, .int .i64 0]) [(0, .row (W.map .byte) 1)])
  | [], done, out, i, q, h1, h2, h3, h4, h5, h6, h7 => by
    have hl : t.length = done.length := by rw [h1]; simp
    have e : (out.map AVal.byte).take q = out.map .byte := List.take_of_length_le (by simp; omega)
    have hz := zeros1024_length
    have hW : W = out ++ zeros1024 := h7
    have hWl : W.length = q + 1024 := by rw [hW, List.length_append, hz, h3]
    have hWm : out.map AVal.byte ++ zeros1024.map AVal.byte = W.map .byte := by rw [hW, List.map_append]
    rw [hWl]
    clear hW h7
    refine hd_of (by unfold l18_0; rfl) ?_
    have gg := trivial; repeat' first | simp (maxSteps := 2000000) (disch := omega) only [gg, r18_0, e, zeros1024_eq, hz, hWm, go_sem] | (refine br ?_ ?_ <;> intro gg <;> try (exfalso; omega)) | (refine And.intro ?_ ?_; focus omega) | omega
  | e :: rest, done, out, i, q, h1, h2, h3, h4, h5, h6, h7 => by
    have hl : t.length = done.length + (rest.length + 1) := by rw [h1]; simp
    have hx : t[i.toNat]? = some e := by
      rw [h1, show i.toNat = done.length by omega]
      simp
    obtain ⟨p1, p2, p3, p4⟩ := h6
    rw [← h2] at p3
    have hpl := pieceL_le p2 p3
    have hpm := mod_piece i e
    have h53 := s53 out q h3 (by omega) h5 i (by omega) (by omega) e p1 (hk e (by rw [h1]; simp)) p2 p3
    have hR : (out ++ pieceL i e).length = q + (pieceL i e).length := by rw [List.length_append, h3]
    have ih := h18 c tmp t ht hk W rest (done ++ [e]) (out ++ pieceL i e) (i + 1) (out ++ pieceL i e).length (by rw [h1]; simp) (by rw [List.length_append]; simp; omega) rfl (by rw [hR, List.length_append]; simp; omega) (by rw [hR]; omega) (by rw [List.length_append]; exact p4) (by
      rw [h7, List.length_append]
      simp only [outL, List.length_cons, List.length_nil, List.append_assoc]
      rw [← h2])
    simp only [Ent.av] at h53
    generalize out ++ pieceL i e = R at *
    refine hd_of (by unfold l18_0; rfl) ?_
    have gg := trivial; repeat' first | simp (maxSteps := 2000000) (disch := omega) only [gg, hx, h53, lp_head, go_sem] | (refine br ?_ ?_ <;> intro gg <;> try (exfalso; omega)) | (refine And.intro ?_ ?_; focus omega) | omega
theorem kinds_of {t : List Ent} (h : (checkT t).2 = 0) : ∀ e ∈ t, FieldsOk e ∧ e.path.length ≤ 400 := by
  intro e he
  obtain ⟨_, h2⟩ := checkT_good h
  obtain ⟨g1, g2⟩ := h2 e he
  exact ⟨fields_ok g2, good_le g1⟩
theorem kind_of {e : Ent} (h : FieldsOk e) : e.kind = 1 ∨ e.kind = 2 ∨ e.kind = 3 ∨ e.kind = 4 := by
  rcases h.kinds with k | k | k | k
  · exact .inl k.1
  · exact .inr (.inl k.1)
  · exact .inr (.inr (.inl k.1))
  · exact .inr (.inr (.inr k.1))
theorem s18 (c tmp : Bool) (t : List Ent) (ht : t.length ≤ 128) (hq : ∀ e ∈ t, EntOk e) (he : (checkT t).2 = 0) : callT AA 18 [.view 8 (t.map Ent.av) c tmp] [] = some (.tuple [.own 0 1 0 (writeL t).length false, .int .i64 0], [(0, .row ((writeL t).map .byte) 1)]) := by
  have h41 := s41 c tmp t hq (by omega)
  have hp : PiecesOk 0 t := checkT_pieces (by rw [checkT_map Ent.cp same_cp]; exact he)
  have hh := h18 c tmp t ht (fun e h => kind_of (kinds_of he e h).1) (writeL t) t [] [] 0 0 rfl rfl rfl (by simp) rfl hp rfl
  simp only [List.map_nil] at hh
  rw [he] at h41
  generalize writeL t = W at *
  refine enter fn18 np18 rfl ?_
  have gg := trivial; repeat' first | simp (maxSteps := 2000000) (disch := omega) only [gg, b18, h41, lp_head, go_sem] | (refine br ?_ ?_ <;> intro gg <;> try (exfalso; omega)) | (refine And.intro ?_ ?_; focus omega) | omega
theorem s18no (c tmp : Bool) (t : List Ent) (ht : t.length ≤ 128) (hq : ∀ e ∈ t, EntOk e) (he : (checkT t).2 ≠ 0) : callT AA 18 [.view 8 (t.map Ent.av) c tmp] [] = some (.tuple [.lit (.slice none 0 0), .int .i64 (checkT t).2], []) := by
  have h41 := s41 c tmp t hq (by omega)
  generalize (checkT t).2 = E at *
  refine enter fn18 np18 rfl ?_
  have gg := trivial; repeat' first | simp (maxSteps := 2000000) (disch := omega) only [gg, b18, h41, go_sem] | (refine br ?_ ?_ <;> intro gg <;> try (exfalso; omega)) | (refine And.intro ?_ ?_; focus omega) | omega
theorem s41n : callT AA 41 [.lit (.slice none 0 0)] [] = some (.tuple [.int .i64 (-1), .int .i64 0], []) := by
  refine enter fn41 np41 rfl ?_
  have gg := trivial; repeat' first | simp (maxSteps := 2000000) (disch := omega) only [gg, b41, lp_head, go_sem] | (refine br ?_ ?_ <;> intro gg <;> try (exfalso; omega)) | (refine And.intro ?_ ?_; focus omega) | omega
  refine hd_of (by unfold l41_0; rfl) ?_
  have gg := trivial; repeat' first | simp (maxSteps := 2000000) (disch := omega) only [gg, r41_0, go_sem] | (refine br ?_ ?_ <;> intro gg <;> try (exfalso; omega)) | (refine And.intro ?_ ?_; focus omega) | omega
theorem s18n : callT AA 18 [.lit (.slice none 0 0)] [] = some (.tuple [.own 0 1 0 1024 false, .int .i64 0], [(0, .row (zeros1024.map .byte) 1)]) := by
  have h41 := s41n
  have hz := zeros1024_length
  refine enter fn18 np18 rfl ?_
  have gg := trivial; repeat' first | simp (maxSteps := 2000000) (disch := omega) only [gg, b18, h41, lp_head, go_sem] | (refine br ?_ ?_ <;> intro gg <;> try (exfalso; omega)) | (refine And.intro ?_ ?_; focus omega) | omega
  refine hd_of (by unfold l18_0; rfl) ?_
  have gg := trivial; repeat' first | simp (maxSteps := 2000000) (disch := omega) only [gg, r18_0, zeros1024_eq, hz, go_sem] | (refine br ?_ ?_ <;> intro gg <;> try (exfalso; omega)) | (refine And.intro ?_ ?_; focus omega) | omega
end Go.Abs
namespace Go.Abs
open Am
set_option maxRecDepth 10000
def rcW (rs : List Rcd) : Nat := (rs.map fun r => r.key.length + r.value.length + 10).sum
theorem rcW_cons (r : Rcd) (rs : List Rcd) : rcW (r :: rs) = r.key.length + r.value.length + 10 + rcW rs := by simp [rcW]
theorem rcW_app (a b : List Rcd) : rcW (a ++ b) = rcW a + rcW b := by simp [rcW]
theorem rcW_recIf (f : Bool) (k v : List UInt8) : rcW (recIf f k v) ≤ k.length + v.length + 10 := by
  unfold recIf
  split
  · simp [rcW]
  · simp [rcW]
theorem paxE_len : ∀ (rs : List Rcd) (p : Option Rcd) (out o : List UInt8), paxE p out rs = some o → o.length ≤ out.length + rcW rs
  | [], p, out, o, h => by
    simp only [paxE, Option.some.injEq] at h
    subst h
    omega
  | r :: rs, p, out, o, h => by
    unfold paxE at h
    split at h
    · rename_i hs
      have ih := paxE_len rs _ _ o h
      simp only [paxStep, lineOk, kwB, Bool.and_eq_true, decide_eq_true_eq] at hs
      have hl := lineB_length (k := r.key) (v := r.value) (by omega) (by omega)
      rw [List.length_append] at ih
      rw [rcW_cons]
      omega
    · cases h
theorem recsE_w {e : Ent} (hb : EntB e) : rcW (recsE e) ≤ e.path.length + e.link.length + 200 := by
  obtain ⟨b1, b2, b3, b4, b5, b6, b7, b8⟩ := hb
  have i1 := itoa_le b1 b2
  have i2 := itoa_le b3 b4
  have i3 := itoa_le b5 b6
  have r1 := rcW_recIf (idB e.gid) gidB (Lib.itoa e.gid)
  have r2 := rcW_recIf (linkE e.link) linkpathB e.link
  have r3 := rcW_recIf (timeB e.time) mtimeB (Lib.itoa e.time)
  have r4 := rcW_recIf (splitN e.path).2.2 pathB e.path
  have r5 := rcW_recIf (idB e.uid) uidB (Lib.itoa e.uid)
  have g1 : gidB.length = 3 := rfl
  have g2 : linkpathB.length = 8 := rfl
  have g3 : mtimeB.length = 5 := rfl
  have g4 : pathB.length = 4 := rfl
  have g5 : uidB.length = 3 := rfl
  unfold recsE rst3 rst4 rst5 rst6 rst7
  rw [rcW_app, rcW_app, rcW_app, rcW_app]
  omega
theorem bodyE_len {e : Ent} (hb : EntB e) : (bodyE e).length ≤ e.path.length + e.link.length + 200 := by
  unfold bodyE
  cases h : paxE none [] (recsE e) with
  | none => simp
  | some o =>
    have h1 := paxE_len _ _ _ _ h
    have h2 := recsE_w hb
    simp only [List.length_nil, Nat.zero_add] at h1
    show o.length ≤ _
    omega
def entWt (e : Ent) : Nat := 512 + e.data.l.length + e.path.length + e.link.length
theorem piece_short {n : Int} {e : Ent} (hb : EntB e) : (pieceL n e).length ≤ entWt e + 2300 := by
  have h1 := encB_length (hdrE e (recsE e))
  have h2 := encB_length (hdX n (bodyE e))
  have h3 := padL_length e.data.l
  have h4 := padL_length (bodyE e)
  have h5 := padN_lt e.data.l.length
  have h6 := padN_lt (bodyE e).length
  have h7 := bodyE_len hb
  unfold pieceL preE entWt
  split
  · simp only [List.length_append, List.length_nil]
    omega
  · simp only [List.length_append]
    omega
theorem large_sum : ∀ (t : List Ent) (n : Nat), n ≤ 65536 → largeB n t = false → n + (t.map entWt).sum ≤ 65536
  | [], n, h, _ => by simpa using h
  | e :: r, n, h, hb => by
    unfold largeB at hb
    split at hb
    · cases hb
    · rename_i hc
      have e1 : (n : Int) + (512 + (e.data.l.length : Int) + e.path.length + e.link.length) = ((n + entWt e : Nat) : Int) := by
        unfold entWt
        omega
      rw [e1] at hb hc
      have ih := large_sum r (n + entWt e) (by omega) hb
      simp only [List.map_cons, List.sum_cons]
      omega
theorem out_short : ∀ (t : List Ent) (i : Nat), (∀ e ∈ t, EntB e) → (outL i t).length ≤ (t.map entWt).sum + 2300 * t.length
  | [], _, _ => by simp [outL]
  | e :: r, i, h => by
    have h1 := piece_short (n := i) (h e (by simp))
    have ih := out_short r (i + 1) fun x hx => h x (by simp [hx])
    simp only [outL, List.length_append, List.map_cons, List.sum_cons, List.length_cons]
    omega
theorem write_short {t : List Ent} (hb : largeB 0 t = false) (h : ∀ e ∈ t, EntB e) : (writeL t).length ≤ 400000 ∧ 0 < (writeL t).length := by
  have h1 := large_len hb
  have h2 := large_sum t 0 (by omega) hb
  have h3 := out_short t 0 h
  unfold writeL
  rw [List.length_append, zeros1024_length]
  omega
end Go.Abs
namespace Go.Abs
open Am
set_option maxRecDepth 100000
set_option linter.unusedSimpArgs false
theorem ofInt_u8 (c : UInt8) : (BitVec.ofInt 8 (c.toNat : Int)).toNat = c.toNat := by
  have := c.toNat_lt
  rw [BitVec.toNat_ofInt]
  omega
theorem xor_u8 (c d : UInt8) {e : EqK} {cst : Bool} : aBin .xor e cst (.int .u8 c.toNat) (.int .u8 d.toNat) = some (.int .u8 (c ^^^ d).toNat) := by
  have h := (c ^^^ d).toNat_lt
  have e1 : (BitVec.ofInt IntKind.u8.bits (c.toNat : Int) ^^^ BitVec.ofInt IntKind.u8.bits (d.toNat : Int)).toNat = (c ^^^ d).toNat := by
    show (BitVec.ofInt 8 (c.toNat : Int) ^^^ BitVec.ofInt 8 (d.toNat : Int)).toNat = (c ^^^ d).toNat
    rw [BitVec.toNat_xor, ofInt_u8, ofInt_u8, UInt8.toNat_xor]
  show intOp .xor .u8 _ .u8 _ = _
  unfold intOp
  simp only [if_true]
  rw [e1, wrap_u8 (by omega) (by omega)]
theorem xor_ne {c d : UInt8} (h : d ≠ 0) : c ^^^ d ≠ c := by
  intro e
  apply h
  have : c ^^^ (c ^^^ d) = c ^^^ c := by rw [e]
  rw [← UInt8.xor_assoc, UInt8.xor_self, UInt8.zero_xor] at this
  exact this
theorem wrap_u64_any (a : Int) : ∃ A, IntKind.u64.wrap a = A ∧ 0 ≤ A ∧ A ≤ 18446744073709551615 := by
  refine ⟨_, rfl, ?_, ?_⟩
  all_goals simp only [IntKind.wrap, IntKind.bits, IntKind.signed, Bool.false_and, Bool.false_eq_true, if_false]
  all_goals omega
theorem set_ne {W : List UInt8} {j : Nat} {c x : UInt8} (h : W[j]? = some c) (hx : x ≠ c) : W.set j x ≠ W := by
  intro e
  have hj := (List.getElem?_eq_some_iff.1 h).1
  have : (W.set j x)[j]? = some x := by rw [List.getElem?_set_self hj]
  rw [e, h] at this
  exact hx (Option.some.inj this).symm
set_option maxHeartbeats 8000000 in
/-- what is behind the writing: one byte turned -/
theorem t12 (T : AVal) (L : List Ent) (hT : T = .lit (.slice none 0 0) ∧ L = [] ∨ T = .view 8 (L.map Ent.av) false false) (hlen : L.length ≤ 1000000) (W : List UInt8) (q : Nat) (hW : W = writeL L) (hq : q = W.length) (hq0 : 0 < q) (hq1 : q ≤ 1000000) (a : Int) (d : UInt8) (hd : d ≠ 0)
    (h40 : callT AA 40 [T] [] = some (.bool true, []))
    (h18 : callT AA 18 [T] [] = some (.tuple [.own 0 1 0 q false, .int .i64 0], [(0, .row (W.map .byte) 1)])) :
    callT AB 12 [T, .int .i64 a, .int .u8 d.toNat] [] = some (.bool true, []) := by
  obtain ⟨A, hA, hA0, hA1⟩ := wrap_u64_any a
  obtain ⟨J, hJ, hJ0, hJ1⟩ : ∃ J : Int, A.tmod q = J ∧ 0 ≤ J ∧ J < q := by
    refine ⟨_, rfl, ?_, ?_⟩
    · rw [Int.tmod_eq_emod_of_nonneg hA0]
      exact Int.emod_nonneg _ (by omega)
    · rw [Int.tmod_eq_emod_of_nonneg hA0]
      exact Int.emod_lt_of_pos _ (by omega)
  obtain ⟨c, hx⟩ : ∃ c, W[J.toNat]? = some c := ⟨_, List.getElem?_eq_getElem (by omega)⟩
  have hdz : ¬ ((d.toNat : Int) = 0) := by
    intro h
    apply hd
    have : d.toNat = 0 := by omega
    rw [← UInt8.toNat_inj, this]
    rfl
  have hxl := (c ^^^ d).toNat_lt
  have hqz : ¬ ((q : Int) = 0) := by omega
  have hne := set_ne hx (xor_ne (c := c) hd)
  obtain ⟨W', hW'⟩ : ∃ W', W.set J.toNat (c ^^^ d) = W' := ⟨_, rfl⟩
  have hl' : W'.length = q := by rw [← hW', List.length_set, hq]
  have et : ((W.map AVal.byte).set J.toNat (.int .u8 (c ^^^ d).toNat)).take q = W'.map .byte := by
    rw [show AVal.int .u8 ((c ^^^ d).toNat : Int) = AVal.byte (c ^^^ d) from rfl, ← List.map_set, hW']
    exact List.take_of_length_le (by rw [List.length_map]; omega)
  have et2 : (W'.map AVal.byte).take q = W'.map .byte := List.take_of_length_le (by rw [List.length_map]; omega)
  rw [hW'] at hne
  have h39 := s39
  replace h40 := callT_ext h40
  replace h18 := callT_ext h18
  have h24 := callT_ext (s24 (.mk false true W') (by rw [mk_l]; omega))
  rw [mk_av] at h24
  have hTt : T = .lit (.slice none 0 0) ∨ T = .view 8 (L.map Ent.av) false false := by
    rcases hT with h | h
    · exact .inl h.1
    · exact .inr h
  cases hR : readE (.mk false true W') with
  | none =>
    rw [hR, show readV none = .tuple [.lit (.slice none 0 0), .iface 58 (.int .i64 16)] from rfl, show readH none = [] from rfl] at h24
    refine enter (ab_fn fn12) rfl rfl ?_
    rcases hTt with h | h
    all_goals
      subst h
      have gg := trivial; repeat' first | simp (maxSteps := 2000000) (disch := omega) only [gg, b12, h39, h40, h18, h24, hA, hJ, hqz, hx, hdz, xor_u8, UInt8.ofNat_toNat, hW', et, et2, Nat.zero_add, List.drop_zero, go_sem] | (refine br ?_ ?_ <;> intro gg <;> try (exfalso; omega)) | (refine And.intro ?_ ?_; focus omega) | omega
  | some u =>
    obtain ⟨q1, q2, q3, q4⟩ := readE_rd hR (by rw [mk_l]; omega)
    rw [mk_l] at q4
    rw [hR] at h24
    have hdiff : writeL u ≠ writeL L := by rw [q4, ← hW]; exact hne
    cases u with
    | nil =>
      have hLn : L ≠ [] := fun h => hdiff (by rw [h])
      have hTv : T = .view 8 (L.map Ent.av) false false := by
        rcases hT with h | h
        · exact (hLn h.2).elim
        · exact h
      subst hTv
      have h37 := callT_ext (s37n false false L hlen hLn)
      rw [show readV (some []) = .tuple [.lit (.slice none 0 0), .lit .nilIface] from rfl, show readH (some []) = [] from rfl] at h24
      refine enter (ab_fn fn12) rfl rfl ?_
      have gg := trivial; repeat' first | simp (maxSteps := 2000000) (disch := omega) only [gg, b12, h39, h40, h18, h24, h37, hA, hJ, hqz, hx, hdz, xor_u8, UInt8.ofNat_toNat, hW', et, et2, Nat.zero_add, List.drop_zero, go_sem] | (refine br ?_ ?_ <;> intro gg <;> try (exfalso; omega)) | (refine And.intro ?_ ?_; focus omega) | omega
    | cons e r =>
      rw [(readV_ne (by simp : e :: r ≠ [])).1, (readV_ne (by simp : e :: r ≠ [])).2] at h24
      have er : ((e :: r).map Ent.av).take (e :: r).length = (e :: r).map Ent.av := List.take_of_length_le (by rw [List.length_map]; exact Nat.le_refl _)
      have hnn : e :: r ≠ [] := by simp
      generalize e :: r = u at *
      have h37 : callT AB 37 [.view 8 (u.map Ent.av) false true, T] [] = some (.bool false, []) := by
        rcases hT with ⟨h, _⟩ | h
        · subst h
          exact callT_ext (s37m false true u (by omega) hnn)
        · subst h
          have := s37 false true false false u L (by omega) hlen
          have hs : sameTB u L = false := by
            cases hs : sameTB u L with
            | false => rfl
            | true =>
              exfalso
              apply hdiff
              rw [← writeL_rd u, ← writeL_rd L, sameTB_rd u L hs]
          rw [hs] at this
          exact callT_ext this
      refine enter (ab_fn fn12) rfl rfl ?_
      rcases hTt with h | h
      all_goals
        subst h
        have gg := trivial; repeat' first | simp (maxSteps := 2000000) (disch := omega) only [gg, b12, h39, h40, h18, h24, h37, hA, hJ, hqz, hx, hdz, xor_u8, UInt8.ofNat_toNat, hW', et, et2, er, Nat.zero_add, List.drop_zero, go_sem] | (refine br ?_ ?_ <;> intro gg <;> try (exfalso; omega)) | (refine And.intro ?_ ?_; focus omega) | omega
theorem s12 (t : Option (List Ent)) (ht : ∀ e ∈ esL t, EntW e) (hl : (esL t).length ≤ 140737488351232) (a : Int) (d : UInt8) : callT AB 12 [esAv t, .int .i64 a, .int .u8 d.toNat] [] = some (.bool true, []) := by
  have h39 := s39
  by_cases hd : d = 0
  · subst hd
    have hz : ((0 : UInt8).toNat : Int) = 0 := rfl
    cases t with
    | none =>
      have h40 := callT_ext s40n
      show callT AB 12 [.lit (.slice none 0 0), _, _] [] = _
      refine enter (ab_fn fn12) rfl rfl ?_
      have gg := trivial; repeat' first | simp (maxSteps := 2000000) (disch := omega) only [gg, b12, h39, h40, hz, go_sem] | (refine br ?_ ?_ <;> intro gg <;> try (exfalso; omega)) | (refine And.intro ?_ ?_; focus omega) | omega
    | some t =>
      have h40 := callT_ext (s40 false false t hl fun e he => entL_of (ht e he))
      show callT AB 12 [.view 8 (t.map Ent.av) false false, _, _] [] = _
      refine enter (ab_fn fn12) rfl rfl ?_
      cases hb : largeB 0 t with
      | true =>
        rw [hb] at h40
        have gg := trivial; repeat' first | simp (maxSteps := 2000000) (disch := omega) only [gg, b12, h39, h40, hz, go_sem] | (refine br ?_ ?_ <;> intro gg <;> try (exfalso; omega)) | (refine And.intro ?_ ?_; focus omega) | omega
      | false =>
        rw [hb] at h40
        have gg := trivial; repeat' first | simp (maxSteps := 2000000) (disch := omega) only [gg, b12, h39, h40, hz, go_sem] | (refine br ?_ ?_ <;> intro gg <;> try (exfalso; omega)) | (refine And.intro ?_ ?_; focus omega) | omega
  cases t with
  | none => exact t12 _ [] (.inl ⟨rfl, rfl⟩) (by simp) zeros1024 1024 rfl zeros1024_length.symm (by omega) (by omega) a d hd s40n s18n
  | some t =>
    simp only [esL] at ht hl
    have h40 := s40 false false t hl fun e he => entL_of (ht e he)
    show callT AB 12 [.view 8 (t.map Ent.av) false false, _, _] [] = _
    cases hb : largeB 0 t with
    | true =>
      rw [hb] at h40
      replace h40 := callT_ext h40
      refine enter (ab_fn fn12) rfl rfl ?_
      have gg := trivial; repeat' first | simp (maxSteps := 2000000) (disch := omega) only [gg, b12, h39, h40, go_sem] | (refine br ?_ ?_ <;> intro gg <;> try (exfalso; omega)) | (refine And.intro ?_ ?_; focus omega) | omega
    | false =>
      rw [hb] at h40
      have hlen := large_len hb
      have hsm := (large_small t 0 (by omega) hb).2
      have hq : ∀ x ∈ t, EntOk x := fun x hx => entOk_of (ht x hx) (hsm x hx)
      by_cases hc : (checkT t).2 = 0
      · have h18 := s18 false false t hlen hq hc
        have hsz := write_short hb fun e he => entB_of (kinds_of hc e he).1 (kinds_of hc e he).2
        exact t12 _ t (.inr rfl) (by omega) (writeL t) _ rfl rfl hsz.2 (by omega) a d hd h40 h18
      · have h18 := callT_ext (s18no false false t hlen hq hc)
        replace h40 := callT_ext h40
        generalize (checkT t).2 = E at *
        have hdz : ¬ ((d.toNat : Int) = 0) := by
          intro h
          apply hd
          have : d.toNat = 0 := by omega
          rw [← UInt8.toNat_inj, this]
          rfl
        refine enter (ab_fn fn12) rfl rfl ?_
        have gg := trivial; repeat' first | simp (maxSteps := 2000000) (disch := omega) only [gg, b12, h39, h40, h18, hdz, go_sem] | (refine br ?_ ?_ <;> intro gg <;> try (exfalso; omega)) | (refine And.intro ?_ ?_; focus omega) | omega
end Go.Abs
