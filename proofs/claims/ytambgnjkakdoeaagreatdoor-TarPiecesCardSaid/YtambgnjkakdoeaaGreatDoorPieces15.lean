/- TarPieces: at every list of entries, every list of numbers and every entry whatsoever the law TarPieces of the given program answers true: a Writer answers, piece by piece, what Write answers of all, and what is refused is not added. Conditions: none beyond the card's own. -/
import Derived.Test.YtambgnjkakdoeaaGreatDoorPieces14
import Derived.Carry
import Derived.ChangeSame
import Derived.LaidMore
import Derived.Lay
import Derived.Lib.LaidTab
import Derived.Lib.LaidU8T
import Derived.OpenShut
import Derived.ProofKit
import Derived.SevenTiedAt
import Derived.Stop.Joined
import Derived.Test.YtambgnjkakdoeaaGreatDoorCards
import Derived.Test.YtambgnjkakdoeaaGreatDoorTie
import Derived.WideShapes
set_option linter.unusedVariables false
set_option linter.unusedSimpArgs false
set_option linter.unusedSectionVars false
/- TarPieces. -/
namespace Go.Abs
open Am
set_option maxRecDepth 100000
set_option linter.unusedSimpArgs false
theorem loopz (o : Ent) (ho : OddOk o) (W : List UInt8) (q : Nat) (hq : W.length = q) (hW : W = zeros1024) (cs : List Int) (n : Int) (hn : n = cs.length) (hcl : cs.length ≤ 100000000000000) : ∀ (rest done : List Int) (i : Int), cs = done ++ rest → i = done.length →
    HD AA 0 [0, 5, 6, 7, 9, 10, 11, 56, 57, 58] l5_0 ⟨EnvP (.lit (.slice none 0 0)) q 3 0 (0 : Int) 4 cs.length n i, [(0, .var (oddC o)), (1, .row (W.map .byte) 1), (2, .var [.lit (.slice none 0 0)]), (3, .row (([] : List UInt8).map .byte) 1), (4, .row (ints cs) 1)], 5⟩ [.blk 0, .code r5_0] FinT
  | [], done, i, h1, h2 => by
    have hcs : cs.length = done.length := by rw [h1]; simp
    exact x5_z o ho.ok.2.2.2 W [] q 0 hq rfl (by omega) cs n i hn (by omega) 0 hW
  | c :: rest, done, i, h1, h2 => by
    have hci : cs[i.toNat]? = some c := by
      rw [h1]
      simp [h2]
    have hil : i.toNat < cs.length := by rw [h1]; simp; omega
    have hne : (checkT [o, o]).2 ≠ 0 := checkT_twice [] o
    have hqo : ∀ x ∈ [o, o], EntOkB x := by
      intro x hx
      simp at hx
      rw [hx]
      exact ho.ok
    have hdo : ∀ x ∈ [o, o], x.data.l.length ≤ 281474976710656 / 4 := by
      intro x hx
      simp at hx
      rw [hx]
      exact ho.data
    have e : (checkT ([o, o].map Ent.cp)).2 = (checkT [o, o]).2 := odd_err [] o
    refine f5_nil o ho.ok.2.2.2 W [] q 0 hq rfl (by omega) cs n i c hn hcl (by omega) hil hci 0 0 (checkT [o, o]).2 (checkT [o, o]).1 hne FinT (by omega) (by omega) (by omega) (by split <;> split <;> omega) ?_ rfl rfl s29e ?_ ?_
    · intro c t'
      have h := s31b c t' [o, o] hqo (by simp)
      unfold errV at h
      rw [if_neg hne] at h
      exact h
    · intro c t'
      have h := s29nob c t' o [o] (by simp) hqo (by rw [e]; exact hne) hdo
      rw [e] at h
      exact h
    · exact loopz o ho W q hq hW cs n hn hcl rest (done ++ [c]) (i + 1) (by simp [h1]) (by simp; omega)
def cutsAv : Option (List Int) → AVal
  | none => .lit (.slice none 0 0)
  | some l => .view 1 (l.map (.int .i64)) false false
def cutsL : Option (List Int) → List Int
  | none => []
  | some l => l
theorem oddOk_of {o : Ent} (h : EntW o) (h1 : o.data.l.length ≤ 4096) (h2 : o.path.length ≤ 4096) : OddOk o := ⟨⟨h.link, by omega, by omega, h.tmp⟩, by omega⟩
set_option maxHeartbeats 4000000 in
theorem t5zz (o : Ent) (hW0 : EntW o) (W : List UInt8) (q : Nat) (hq : W.length = q) (hq1 : q ≤ 1000000000) (hW : W = zeros1024)
    (h15 : callT AA 15 [(.lit (.slice none 0 0))] [] = some (.bool false, [])) (h17 : callT AA 17 [(.lit (.slice none 0 0))] [] = some (.tuple [.own 0 1 0 q false, .lit .nilIface], [(0, .row (W.map .byte) 1)])) :
    callT AA 5 [(.lit (.slice none 0 0)), (.lit (.slice none 0 0)), o.av] [] = some (.bool true, []) := by
  have hs14 := s14
  have hot := hW0.tmp
  have hl1 := hW0.data
  have hl2 := hW0.path
  by_cases hd : o.data.l.length ≤ 4096 ∧ o.path.length ≤ 4096
  · obtain ⟨d1, d2⟩ := hd
    have hok := oddOk_of hW0 d1 d2
    have hh := loopz o hok W q hq hW (([] : List Int) ++ [(0 : Int)]) _ rfl (by simp) (([] : List Int) ++ [(0 : Int)]) [] 0 rfl rfl
    dsimp only [EnvP, oddC, FinT] at hh
    unfold ints at hh
    simp only [List.map_append, List.map_cons, List.map_nil, List.length_append, List.length_cons, List.length_nil, List.nil_append, Nat.zero_add, Int.natCast_add, Int.natCast_one, Int.natCast_zero] at hh
    refine enter fn5 np5 rfl ?_
    (simp (maxSteps := 2000000) (disch := omega) only [b5, hs14, h15, h17, s28, hot, lp_head, go_sem]) <;> repeat' (first | ((first | refine gd_dec ?_ ?_ | refine gd_ndec ?_ ?_ | refine cd_dec ?_ ?_ | refine cd_ndec ?_ ?_ | refine gdd_dec ?_ ?_ | refine gdd_ndec ?_ ?_ | refine gd_of ?_ ?_ | refine cd_of ?_ ?_ | refine gdd_of ?_ ?_) <;> intro hg <;> first | (exfalso; omega) | (simp (maxSteps := 2000000) (disch := omega) only [hg, b5, hs14, h15, h17, s28, hot, lp_head, go_sem])) | (refine And.intro ?_ ?_; focus omega) | omega)
  · by_cases d1 : o.data.l.length ≤ 4096
    · have d2 : ¬ o.path.length ≤ 4096 := fun h => hd ⟨d1, h⟩
      refine enter fn5 np5 rfl ?_
      (simp (maxSteps := 2000000) (disch := omega) only [b5, hs14, h15, go_sem]) <;> repeat' (first | ((first | refine gd_dec ?_ ?_ | refine gd_ndec ?_ ?_ | refine cd_dec ?_ ?_ | refine cd_ndec ?_ ?_ | refine gdd_dec ?_ ?_ | refine gdd_ndec ?_ ?_ | refine gd_of ?_ ?_ | refine cd_of ?_ ?_ | refine gdd_of ?_ ?_) <;> intro hg <;> first | (exfalso; omega) | (simp (maxSteps := 2000000) (disch := omega) only [hg, b5, hs14, h15, go_sem])) | (refine And.intro ?_ ?_; focus omega) | omega)
    · refine enter fn5 np5 rfl ?_
      (simp (maxSteps := 2000000) (disch := omega) only [b5, hs14, h15, go_sem]) <;> repeat' (first | ((first | refine gd_dec ?_ ?_ | refine gd_ndec ?_ ?_ | refine cd_dec ?_ ?_ | refine cd_ndec ?_ ?_ | refine gdd_dec ?_ ?_ | refine gdd_ndec ?_ ?_ | refine gd_of ?_ ?_ | refine cd_of ?_ ?_ | refine gdd_of ?_ ?_) <;> intro hg <;> first | (exfalso; omega) | (simp (maxSteps := 2000000) (disch := omega) only [hg, b5, hs14, h15, go_sem])) | (refine And.intro ?_ ?_; focus omega) | omega)
set_option maxHeartbeats 4000000 in
theorem t5zl (l : List Int) (hl : l.length * 8 ≤ 140737488351232) (o : Ent) (hW0 : EntW o) (W : List UInt8) (q : Nat) (hq : W.length = q) (hq1 : q ≤ 1000000000) (hW : W = zeros1024)
    (h15 : callT AA 15 [(.lit (.slice none 0 0))] [] = some (.bool false, [])) (h17 : callT AA 17 [(.lit (.slice none 0 0))] [] = some (.tuple [.own 0 1 0 q false, .lit .nilIface], [(0, .row (W.map .byte) 1)])) :
    callT AA 5 [(.lit (.slice none 0 0)), (.view 1 (l.map (.int .i64)) false false), o.av] [] = some (.bool true, []) := by
  have hs14 := s14
  have hot := hW0.tmp
  have hl1 := hW0.data
  have hl2 := hW0.path
  by_cases hd : o.data.l.length ≤ 4096 ∧ o.path.length ≤ 4096
  · obtain ⟨d1, d2⟩ := hd
    have hok := oddOk_of hW0 d1 d2
    have hh := loopz o hok W q hq hW (l ++ [(0 : Int)]) _ rfl (by simp; omega) (l ++ [(0 : Int)]) [] 0 rfl rfl
    dsimp only [EnvP, oddC, FinT] at hh
    unfold ints at hh
    simp only [List.map_append, List.map_cons, List.map_nil, List.length_append, List.length_cons, List.length_nil, List.nil_append, Nat.zero_add, Int.natCast_add, Int.natCast_one] at hh
    refine enter fn5 np5 rfl ?_
    (simp (maxSteps := 2000000) (disch := omega) only [b5, hs14, h15, h17, s28, hot, lp_head, go_sem]) <;> repeat' (first | ((first | refine gd_dec ?_ ?_ | refine gd_ndec ?_ ?_ | refine cd_dec ?_ ?_ | refine cd_ndec ?_ ?_ | refine gdd_dec ?_ ?_ | refine gdd_ndec ?_ ?_ | refine gd_of ?_ ?_ | refine cd_of ?_ ?_ | refine gdd_of ?_ ?_) <;> intro hg <;> first | (exfalso; omega) | (simp (maxSteps := 2000000) (disch := omega) only [hg, b5, hs14, h15, h17, s28, hot, lp_head, go_sem])) | (refine And.intro ?_ ?_; focus omega) | omega)
  · by_cases d1 : o.data.l.length ≤ 4096
    · have d2 : ¬ o.path.length ≤ 4096 := fun h => hd ⟨d1, h⟩
      refine enter fn5 np5 rfl ?_
      (simp (maxSteps := 2000000) (disch := omega) only [b5, hs14, h15, go_sem]) <;> repeat' (first | ((first | refine gd_dec ?_ ?_ | refine gd_ndec ?_ ?_ | refine cd_dec ?_ ?_ | refine cd_ndec ?_ ?_ | refine gdd_dec ?_ ?_ | refine gdd_ndec ?_ ?_ | refine gd_of ?_ ?_ | refine cd_of ?_ ?_ | refine gdd_of ?_ ?_) <;> intro hg <;> first | (exfalso; omega) | (simp (maxSteps := 2000000) (disch := omega) only [hg, b5, hs14, h15, go_sem])) | (refine And.intro ?_ ?_; focus omega) | omega)
    · refine enter fn5 np5 rfl ?_
      (simp (maxSteps := 2000000) (disch := omega) only [b5, hs14, h15, go_sem]) <;> repeat' (first | ((first | refine gd_dec ?_ ?_ | refine gd_ndec ?_ ?_ | refine cd_dec ?_ ?_ | refine cd_ndec ?_ ?_ | refine gdd_dec ?_ ?_ | refine gdd_ndec ?_ ?_ | refine gd_of ?_ ?_ | refine cd_of ?_ ?_ | refine gdd_of ?_ ?_) <;> intro hg <;> first | (exfalso; omega) | (simp (maxSteps := 2000000) (disch := omega) only [hg, b5, hs14, h15, go_sem])) | (refine And.intro ?_ ?_; focus omega) | omega)
set_option maxHeartbeats 4000000 in
theorem t5tz (t : List Ent) (htl : t.length ≤ 200) (o : Ent) (hW0 : EntW o) (W : List UInt8) (q : Nat) (hq : W.length = q) (hq1 : q ≤ 1000000000) (hW : W = writeL t) (hqe : ∀ e ∈ t, EntOkB e) (hc : (checkT (t.map Ent.cp)).2 = 0)
    (h15 : callT AA 15 [(.view 8 (t.map Ent.av) false false)] [] = some (.bool false, [])) (h17 : callT AA 17 [(.view 8 (t.map Ent.av) false false)] [] = some (.tuple [.own 0 1 0 q false, .lit .nilIface], [(0, .row (W.map .byte) 1)])) :
    callT AA 5 [(.view 8 (t.map Ent.av) false false), (.lit (.slice none 0 0)), o.av] [] = some (.bool true, []) := by
  have hs14 := s14
  have hot := hW0.tmp
  have hl1 := hW0.data
  have hl2 := hW0.path
  by_cases hd : o.data.l.length ≤ 4096 ∧ o.path.length ≤ 4096
  · obtain ⟨d1, d2⟩ := hd
    have hok := oddOk_of hW0 d1 d2
    have hh := (loop5 false false t o hok W q hq (([] : List Int) ++ [(t.length : Int)]) _ rfl (by simp) htl hqe hc hW (([] : List Int) ++ [(t.length : Int)]) [] 0 0 rfl rfl (by omega) (fun h => by simp at h) (fun _ => by simp)).2 rfl
    unfold HeadN at hh
    dsimp only [EnvP, oddC, FinT] at hh
    unfold ints at hh
    simp only [List.map_append, List.map_cons, List.map_nil, List.length_append, List.length_cons, List.length_nil, List.nil_append, Nat.zero_add, Int.natCast_add, Int.natCast_one, Int.natCast_zero] at hh
    refine enter fn5 np5 rfl ?_
    (simp (maxSteps := 2000000) (disch := omega) only [b5, hs14, h15, h17, s28, hot, lp_head, go_sem]) <;> repeat' (first | ((first | refine gd_dec ?_ ?_ | refine gd_ndec ?_ ?_ | refine cd_dec ?_ ?_ | refine cd_ndec ?_ ?_ | refine gdd_dec ?_ ?_ | refine gdd_ndec ?_ ?_ | refine gd_of ?_ ?_ | refine cd_of ?_ ?_ | refine gdd_of ?_ ?_) <;> intro hg <;> first | (exfalso; omega) | (simp (maxSteps := 2000000) (disch := omega) only [hg, b5, hs14, h15, h17, s28, hot, lp_head, go_sem])) | (refine And.intro ?_ ?_; focus omega) | omega)
  · by_cases d1 : o.data.l.length ≤ 4096
    · have d2 : ¬ o.path.length ≤ 4096 := fun h => hd ⟨d1, h⟩
      refine enter fn5 np5 rfl ?_
      (simp (maxSteps := 2000000) (disch := omega) only [b5, hs14, h15, go_sem]) <;> repeat' (first | ((first | refine gd_dec ?_ ?_ | refine gd_ndec ?_ ?_ | refine cd_dec ?_ ?_ | refine cd_ndec ?_ ?_ | refine gdd_dec ?_ ?_ | refine gdd_ndec ?_ ?_ | refine gd_of ?_ ?_ | refine cd_of ?_ ?_ | refine gdd_of ?_ ?_) <;> intro hg <;> first | (exfalso; omega) | (simp (maxSteps := 2000000) (disch := omega) only [hg, b5, hs14, h15, go_sem])) | (refine And.intro ?_ ?_; focus omega) | omega)
    · refine enter fn5 np5 rfl ?_
      (simp (maxSteps := 2000000) (disch := omega) only [b5, hs14, h15, go_sem]) <;> repeat' (first | ((first | refine gd_dec ?_ ?_ | refine gd_ndec ?_ ?_ | refine cd_dec ?_ ?_ | refine cd_ndec ?_ ?_ | refine gdd_dec ?_ ?_ | refine gdd_ndec ?_ ?_ | refine gd_of ?_ ?_ | refine cd_of ?_ ?_ | refine gdd_of ?_ ?_) <;> intro hg <;> first | (exfalso; omega) | (simp (maxSteps := 2000000) (disch := omega) only [hg, b5, hs14, h15, go_sem])) | (refine And.intro ?_ ?_; focus omega) | omega)
set_option maxHeartbeats 4000000 in
theorem t5tl (t : List Ent) (htl : t.length ≤ 200) (l : List Int) (hl : l.length * 8 ≤ 140737488351232) (o : Ent) (hW0 : EntW o) (W : List UInt8) (q : Nat) (hq : W.length = q) (hq1 : q ≤ 1000000000) (hW : W = writeL t) (hqe : ∀ e ∈ t, EntOkB e) (hc : (checkT (t.map Ent.cp)).2 = 0)
    (h15 : callT AA 15 [(.view 8 (t.map Ent.av) false false)] [] = some (.bool false, [])) (h17 : callT AA 17 [(.view 8 (t.map Ent.av) false false)] [] = some (.tuple [.own 0 1 0 q false, .lit .nilIface], [(0, .row (W.map .byte) 1)])) :
    callT AA 5 [(.view 8 (t.map Ent.av) false false), (.view 1 (l.map (.int .i64)) false false), o.av] [] = some (.bool true, []) := by
  have hs14 := s14
  have hot := hW0.tmp
  have hl1 := hW0.data
  have hl2 := hW0.path
  by_cases hd : o.data.l.length ≤ 4096 ∧ o.path.length ≤ 4096
  · obtain ⟨d1, d2⟩ := hd
    have hok := oddOk_of hW0 d1 d2
    have hh := (loop5 false false t o hok W q hq (l ++ [(t.length : Int)]) _ rfl (by simp; omega) htl hqe hc hW (l ++ [(t.length : Int)]) [] 0 0 rfl rfl (by omega) (fun h => by simp at h) (fun _ => by simp)).2 rfl
    unfold HeadN at hh
    dsimp only [EnvP, oddC, FinT] at hh
    unfold ints at hh
    simp only [List.map_append, List.map_cons, List.map_nil, List.length_append, List.length_cons, List.length_nil, List.nil_append, Nat.zero_add, Int.natCast_add, Int.natCast_one] at hh
    refine enter fn5 np5 rfl ?_
    (simp (maxSteps := 2000000) (disch := omega) only [b5, hs14, h15, h17, s28, hot, lp_head, go_sem]) <;> repeat' (first | ((first | refine gd_dec ?_ ?_ | refine gd_ndec ?_ ?_ | refine cd_dec ?_ ?_ | refine cd_ndec ?_ ?_ | refine gdd_dec ?_ ?_ | refine gdd_ndec ?_ ?_ | refine gd_of ?_ ?_ | refine cd_of ?_ ?_ | refine gdd_of ?_ ?_) <;> intro hg <;> first | (exfalso; omega) | (simp (maxSteps := 2000000) (disch := omega) only [hg, b5, hs14, h15, h17, s28, hot, lp_head, go_sem])) | (refine And.intro ?_ ?_; focus omega) | omega)
  · by_cases d1 : o.data.l.length ≤ 4096
    · have d2 : ¬ o.path.length ≤ 4096 := fun h => hd ⟨d1, h⟩
      refine enter fn5 np5 rfl ?_
      (simp (maxSteps := 2000000) (disch := omega) only [b5, hs14, h15, go_sem]) <;> repeat' (first | ((first | refine gd_dec ?_ ?_ | refine gd_ndec ?_ ?_ | refine cd_dec ?_ ?_ | refine cd_ndec ?_ ?_ | refine gdd_dec ?_ ?_ | refine gdd_ndec ?_ ?_ | refine gd_of ?_ ?_ | refine cd_of ?_ ?_ | refine gdd_of ?_ ?_) <;> intro hg <;> first | (exfalso; omega) | (simp (maxSteps := 2000000) (disch := omega) only [hg, b5, hs14, h15, go_sem])) | (refine And.intro ?_ ?_; focus omega) | omega)
    · refine enter fn5 np5 rfl ?_
      (simp (maxSteps := 2000000) (disch := omega) only [b5, hs14, h15, go_sem]) <;> repeat' (first | ((first | refine gd_dec ?_ ?_ | refine gd_ndec ?_ ?_ | refine cd_dec ?_ ?_ | refine cd_ndec ?_ ?_ | refine gdd_dec ?_ ?_ | refine gdd_ndec ?_ ?_ | refine gd_of ?_ ?_ | refine cd_of ?_ ?_ | refine gdd_of ?_ ?_) <;> intro hg <;> first | (exfalso; omega) | (simp (maxSteps := 2000000) (disch := omega) only [hg, b5, hs14, h15, go_sem])) | (refine And.intro ?_ ?_; focus omega) | omega)
end Go.Abs
/- TarPieces. -/
namespace Go.Abs
open Am
set_option maxRecDepth 100000
set_option linter.unusedSimpArgs false
theorem entOkB_of {e : Ent} (h : EntW e) (h1 : e.data.l.length ≤ 65536 ∧ e.path.length ≤ 65536 ∧ e.link.length ≤ 65536) : EntOkB e := ⟨h.link, by omega, by omega, h.tmp⟩
theorem t5_large (t : List Ent) (cv : Option (List Int)) (o : Ent) (hW0 : EntW o) (h15 : callT AA 15 [.view 8 (t.map Ent.av) false false] [] = some (.bool true, [])) : callT AA 5 [.view 8 (t.map Ent.av) false false, cutsAv cv, o.av] [] = some (.bool true, []) := by
  have hs14 := s14
  have hot := hW0.tmp
  cases cv with
  | none =>
    show callT AA 5 [.view 8 (t.map Ent.av) false false, .lit (.slice none 0 0), o.av] [] = _
    refine enter fn5 np5 rfl ?_
    (simp (maxSteps := 2000000) (disch := omega) only [b5, hs14, h15, hot, go_sem]) <;> repeat' (first | ((first | refine gd_dec ?_ ?_ | refine gd_ndec ?_ ?_ | refine cd_dec ?_ ?_ | refine cd_ndec ?_ ?_ | refine gdd_dec ?_ ?_ | refine gdd_ndec ?_ ?_ | refine gd_of ?_ ?_ | refine cd_of ?_ ?_ | refine gdd_of ?_ ?_) <;> intro hg <;> first | (exfalso; omega) | (simp (maxSteps := 2000000) (disch := omega) only [hg, b5, hs14, h15, hot, go_sem])) | (refine And.intro ?_ ?_; focus omega) | omega)
  | some l =>
    show callT AA 5 [.view 8 (t.map Ent.av) false false, .view 1 (l.map (.int .i64)) false false, o.av] [] = _
    refine enter fn5 np5 rfl ?_
    (simp (maxSteps := 2000000) (disch := omega) only [b5, hs14, h15, hot, go_sem]) <;> repeat' (first | ((first | refine gd_dec ?_ ?_ | refine gd_ndec ?_ ?_ | refine cd_dec ?_ ?_ | refine cd_ndec ?_ ?_ | refine gdd_dec ?_ ?_ | refine gdd_ndec ?_ ?_ | refine gd_of ?_ ?_ | refine cd_of ?_ ?_ | refine gdd_of ?_ ?_) <;> intro hg <;> first | (exfalso; omega) | (simp (maxSteps := 2000000) (disch := omega) only [hg, b5, hs14, h15, hot, go_sem])) | (refine And.intro ?_ ?_; focus omega) | omega)
theorem t5_err (t : List Ent) (cv : Option (List Int)) (o : Ent) (hW0 : EntW o) (E : Int) (h15 : callT AA 15 [.view 8 (t.map Ent.av) false false] [] = some (.bool false, [])) (h17 : callT AA 17 [.view 8 (t.map Ent.av) false false] [] = some (.tuple [.lit (.slice none 0 0), .iface 58 (.int .i64 E)], [])) : callT AA 5 [.view 8 (t.map Ent.av) false false, cutsAv cv, o.av] [] = some (.bool true, []) := by
  have hs14 := s14
  have hot := hW0.tmp
  have hl1 := hW0.data
  have hl2 := hW0.path
  cases cv with
  | none =>
    show callT AA 5 [.view 8 (t.map Ent.av) false false, .lit (.slice none 0 0), o.av] [] = _
    refine enter fn5 np5 rfl ?_
    (simp (maxSteps := 2000000) (disch := omega) only [b5, hs14, h15, h17, hot, s28, go_sem]) <;> repeat' (first | ((first | refine gd_dec ?_ ?_ | refine gd_ndec ?_ ?_ | refine cd_dec ?_ ?_ | refine cd_ndec ?_ ?_ | refine gdd_dec ?_ ?_ | refine gdd_ndec ?_ ?_ | refine gd_of ?_ ?_ | refine cd_of ?_ ?_ | refine gdd_of ?_ ?_) <;> intro hg <;> first | (exfalso; omega) | (simp (maxSteps := 2000000) (disch := omega) only [hg, b5, hs14, h15, h17, hot, s28, go_sem])) | (refine And.intro ?_ ?_; focus omega) | omega)
  | some l =>
    show callT AA 5 [.view 8 (t.map Ent.av) false false, .view 1 (l.map (.int .i64)) false false, o.av] [] = _
    refine enter fn5 np5 rfl ?_
    (simp (maxSteps := 2000000) (disch := omega) only [b5, hs14, h15, h17, hot, s28, go_sem]) <;> repeat' (first | ((first | refine gd_dec ?_ ?_ | refine gd_ndec ?_ ?_ | refine cd_dec ?_ ?_ | refine cd_ndec ?_ ?_ | refine gdd_dec ?_ ?_ | refine gdd_ndec ?_ ?_ | refine gd_of ?_ ?_ | refine cd_of ?_ ?_ | refine gdd_of ?_ ?_) <;> intro hg <;> first | (exfalso; omega) | (simp (maxSteps := 2000000) (disch := omega) only [hg, b5, hs14, h15, h17, hot, s28, go_sem])) | (refine And.intro ?_ ?_; focus omega) | omega)
theorem s5 (t : Option (List Ent)) (ht : ∀ e ∈ esL t, EntW e) (hl : (esL t).length ≤ 140737488351232) (cv : Option (List Int)) (hcv : (cutsL cv).length * 8 ≤ 140737488351232) (o : Ent) (hW0 : EntW o) : callT AA 5 [esAv t, cutsAv cv, o.av] [] = some (.bool true, []) := by
  cases t with
  | none =>
    cases cv with
    | none => exact t5zz o hW0 zeros1024 1024 zeros1024_length (by omega) rfl s15n s17n
    | some l => exact t5zl l hcv o hW0 zeros1024 1024 zeros1024_length (by omega) rfl s15n s17n
  | some t =>
    simp only [esL] at ht hl
    show callT AA 5 [.view 8 (t.map Ent.av) false false, cutsAv cv, o.av] [] = _
    have h15 := s15 false false t hl fun e he => entL_of (ht e he)
    cases hb : largeB 0 t with
    | true =>
      rw [hb] at h15
      exact t5_large t cv o hW0 h15
    | false =>
      rw [hb] at h15
      have hlen := large_len hb
      have hsm := (large_small t 0 (by omega) hb).2
      have hqe : ∀ e ∈ t, EntOkB e := fun e he => entOkB_of (ht e he) (hsm e he)
      have key : ∀ (W : List UInt8) (q : Nat), W.length = q → q ≤ 1000000000 → W = writeL t → (checkT (t.map Ent.cp)).2 = 0 → callT AA 17 [.view 8 (t.map Ent.av) false false] [] = some (.tuple [.own 0 1 0 q false, .lit .nilIface], [(0, .row (W.map .byte) 1)]) → callT AA 5 [.view 8 (t.map Ent.av) false false, cutsAv cv, o.av] [] = some (.bool true, []) := by
        intro W q hq hq1 hW hc h17
        cases cv with
        | none => exact t5tz t (by omega) o hW0 W q hq hq1 hW hqe hc h15 h17
        | some l => exact t5tl t (by omega) l hcv o hW0 W q hq hq1 hW hqe hc h15 h17
      cases t with
      | nil => exact key zeros1024 1024 zeros1024_length (by omega) rfl rfl (s17v false false)
      | cons e r =>
        have hq : ∀ x ∈ e :: r, EntOk x := fun x hx => entOk_of (ht x hx) (hsm x hx)
        by_cases hc : (checkT ((e :: r).map Ent.cp)).2 = 0
        · have hwl := outL_le _ 0 (checkT_pieces hc)
          exact key (writeL (e :: r)) _ rfl (by
            unfold writeL
            rw [List.length_append, zeros1024_length]
            omega) rfl hc (s17 false false e r (by omega) hq hc (checkT_pieces hc))
        · have h17 := s17no false false e r (by omega) hq hc (fun x hx => by have := hsm x hx; omega)
          unfold errV at h17
          rw [if_neg hc] at h17
          exact t5_err (e :: r) cv o hW0 _ h15 h17
end Go.Abs
/- FROM A ROW's PREMISES TO WHAT THE SMALL CODE ASKS: the tables and variables as they are laid; the ends of the rows. -/
namespace Go.Proofs.YtambgnjkakdoeaaGreatDoor
open Go.ChangeShapes Go.WideShapes Go.ChangeAt Go.RowKit Go.Abs
set_option maxRecDepth 100000
theorem ownNone : ownKnob Tryz.prog.godebug = none := by kernel_rfl
theorem laidOut : laidOutB Tryz.prog = true := by kernel_rfl
theorem iface_cells {H : Type} {enc : TypeId × Value → H} {P : Program} {w : World} {base : Nat} {sp : Nat → Bool} {held : Bool} {fuel : Nat} {t : TypeId} {ms : Array (String × TypeId)} {cs : List Value} {x : DataW H × List MemPlace}
    (ht : P.underlying t = some (.interface (ms))) (h : DataW.trod enc P w base sp held fuel t cs = some x) : ∃ v, cs = [v] ∧ (v = .nilIface ∨ ∃ u z, v = .iface u z) := by
  cases fuel with
  | zero => simp [DataW.trod] at h
  | succ fuel =>
    unfold DataW.trod at h
    rw [ht] at h
    split at h <;> first | (rename_i heq; cases heq; done) | skip
    · exact ⟨_, rfl, .inl rfl⟩
    · exact ⟨_, rfl, .inr ⟨_, _, rfl⟩⟩
    · cases h
theorem err_var {W : World} {nm : String} {d : DataW Unit} {k : Nat} (hk : Tryz.prog.globalNamed nm = some k) (ht : (Tryz.prog.globals[k]?).map (·.type) = some 28) (hr : Lib.VarReads Tryz.prog W nm d) :
    ∃ ev, W.cell? ⟨k, 0, none⟩ = some ev ∧ (ev = .nilIface ∨ ∃ te pe, ev = .iface te pe) := by
  obtain ⟨g, t, cs, fuel, p, hg, hty, hvar, hd⟩ := hr
  obtain rfl := Option.some.inj (hk.symm.trans hg)
  obtain rfl := Option.some.inj (ht.symm.trans hty)
  obtain ⟨v, hcs, hv⟩ := iface_cells Tryz.underlying28 hd
  refine ⟨v, ?_, hv⟩
  rw [World.var?_cell hg hvar 0, ← Array.getElem?_toList, hcs]
  rfl
theorem gg_of {W : World} (hL : laidMet Tryz.prog Rows.tarNoneRow.laid W) : GG (fun b => b < W.heap.size) W := by
  have r64 := Lib.laidMet.reads hL (.tail _ (.head _))
  have rpow := Lib.laidMet.reads hL (.tail _ (.tail _ (.head _)))
  have racc := Lib.laidMet.reads hL (.tail _ (.tail _ (.tail _ (.head _))))
  have rran := Lib.laidMet.reads hL (.tail _ (.tail _ (.tail _ (.tail _ (.head _)))))
  have rsyn := Lib.laidMet.reads hL (.tail _ (.tail _ (.tail _ (.tail _ (.tail _ (.head _))))))
  have rfst := Lib.laidMet.reads hL (.tail _ (.tail _ (.tail _ (.tail _ (.tail _ (.tail _ (.head _)))))))
  refine ⟨?_, ?_, err_var (by kernel_rfl) (by kernel_rfl) rsyn, err_var (by kernel_rfl) (by kernel_rfl) rran, fun b hb => ?_⟩
  · obtain ⟨g, t, cs, fuel, p, hg, hty, hvar, hd⟩ := rpow
    obtain rfl := Option.some.inj ((show Tryz.prog.globalNamed "internal/strconv.uint64pow10" = some 1 by kernel_rfl).symm.trans hg)
    obtain rfl := Option.some.inj ((show (Tryz.prog.globals[1]?).map (·.type) = some 247 by kernel_rfl).symm.trans hty)
    have hcs := Lib.cells_of_tab (zs := Lib.pow10Tab) (k := .u64) Tryz.underlying247 Tryz.underlying80 (by kernel_rfl) (by kernel_rfl) hd
    unfold Lib.TabIs
    rw [hvar, ← hcs]
  · exact utf8Tabs_of_readsT (U8Types.of196 Tryz.laysValid) ⟨by kernel_rfl, by kernel_rfl, by kernel_rfl, by kernel_rfl, by kernel_rfl, by kernel_rfl, by kernel_rfl⟩ rfst racc
  · obtain ⟨g, t, cs, fuel, p, hg, hty, hvar, hd⟩ := r64
    obtain rfl := Option.some.inj ((show Tryz.prog.globalNamed "math/bits.deBruijn64tab" = some 7 by kernel_rfl).symm.trans hg)
    have h7 : 7 < W.heap.size := by
      rcases Nat.lt_or_ge 7 W.heap.size with h | h
      · exact h
      · unfold World.var? at hvar
        rw [hg] at hvar
        simp [Array.getElem?_eq_none h] at hvar
    show b < W.heap.size
    omega
end Go.Proofs.YtambgnjkakdoeaaGreatDoor
/- WHAT ARGUMENTS STAND FOR: lists of entries, by value. -/
namespace Go.Abs
open Go.Proofs Go.RowKit Go.ChangeShapes Go.WideShapes Go.Deep
set_option maxRecDepth 100000
section
variable {H : Type} {enc : TypeId × Value → H} {w : World}
theorem entsArg_of {v : Value} {d : DataW H} {p : List MemPlace} {r : Reach} {b0 : Nat} (hw : Light d 22) (hv : Value.okWide Tryz.prog w r b0 22 v) (h : DataW.Trod enc Tryz.prog w 0 (fun _ => true) true 22 v d p) : ∃ t : Option (List Ent), RepW w (esAv t) v ∧ (∀ e ∈ esL t, EntW e) ∧ (esL t).length ≤ 140737488351232 := by
  obtain ⟨a, len, cap, rfl⟩ := okWide_slice Tryz.underlying22 hv
  obtain ⟨m, hm⟩ := h
  obtain ⟨t, v', h1, h2, h3, h4⟩ := ents_of hw hm
  have e : v' = .slice a len cap := by
    have : (Value.slice a len cap).cells.toList = [.slice a len cap] := rfl
    rw [this] at h1
    exact (List.cons.inj h1).1.symm
  subst e
  exact ⟨t, h2, h3, h4⟩
end
end Go.Abs
/- WHAT ARGUMENTS STAND FOR: lists of numbers, by value. -/
namespace Go.Abs
open Go.Proofs Go.RowKit Go.ChangeShapes Go.WideShapes Go.Deep
set_option maxRecDepth 100000
set_option linter.unusedSimpArgs false
section
variable {H : Type} {enc : TypeId × Value → H} {w : World} {n : Nat} {cs : List Value} {x : DataW H × List MemPlace}
theorem intl_of (hw : Light x.1 49) (h : DataW.trod enc Tryz.prog w 0 (fun _ => true) true n 49 cs = some x) : ∃ (b : Option (List Int)) (v : Value), cs = [v] ∧ RepW w (cutsAv b) v ∧ (cutsL b).length * 8 ≤ 140737488351232 := by
  rcases open_ints Tryz.underlying49 Tryz.underlying3 (by kernel_rfl) h with ⟨hcs, _⟩ | ⟨a, l, c, zs, hcs, _, hl, hm, hz, hx, hcell, hwz⟩
  · exact ⟨none, _, hcs, .lit _, by simp [cutsL]⟩
  · simp only [if_true] at hz
    have hwt : zs.length * 8 ≤ 140737488351232 := by
      have hb : Tryz.prog.bytesOf 3 = 8 := by kernel_rfl
      rw [← reach_eq]
      refine hw _ ?_
      rw [hx]
      simp only [DataW.weights, Tryz.underlying49, hb, lits, List.length_map, List.length_take, List.length_drop]
      refine List.mem_cons.2 (.inl ?_)
      congr 1
      omega
    obtain ⟨b, o, sp⟩ := a
    have hsp : sp = none ∨ c = 0 := by
      rcases Nat.eq_zero_or_pos c with h0 | h0
      · exact .inr h0
      · exact .inl (by simpa [Addr.add] using (lt_of_cell (hcell 0 (by omega))).2)
    let bs := zs.take l
    have hlen : bs.length = l := by simp [bs]; omega
    have hget : ∀ (i : Nat) (e : AVal), (bs.map (AVal.int .i64))[i]? = some e → i < l ∧ e = .int .i64 (zs.getD i 0) := by
      intro i e he
      have hi : i < l := by
        have := (List.getElem?_eq_some_iff.1 he).1
        simpa [hlen] using this
      refine ⟨hi, ?_⟩
      have hiz : i < zs.length := by omega
      have e1 : zs[i]? = some zs[i] := List.getElem?_eq_getElem hiz
      have e2 : zs.getD i 0 = zs[i] := by rw [List.getD, e1]; rfl
      have e3 : (bs.map (AVal.int .i64))[i]? = some (.int .i64 zs[i]) := by
        simp only [bs, List.getElem?_map, List.getElem?_take, hi, if_true, e1, Option.map_some]
      rw [e3] at he
      cases he
      rw [e2]
    have hcl : ∀ i, i < zs.length → w.cell? ⟨b, o + i, none⟩ = some (.int .i64 (zs.getD i 0)) := by
      intro i hi
      refine cell_add (hcell i hi) ?_
      rcases hsp with h | h
      · exact h
      · omega
    have hcl1 : ∀ i, i < zs.length → w.cell? ⟨b, o + i * 1, none⟩ = some (.int .i64 (zs.getD i 0)) := by
      intro i hi
      rw [Nat.mul_one]
      exact hcl i hi
    have := Rep.view (ι := fun _ => none) (S := fun b => b < w.heap.size) (T := fun _ => False) (w := w) 1 (bs.map (AVal.int .i64)) false false b o c sp (fun i _ => .int .i64 (zs.getD i 0)) hsp (by simp [hlen]; omega) (by simp)
      (fun i e he => by
        obtain ⟨hi, rfl⟩ := hget i e he
        exact (lt_of_cell (hcl i (by omega))).1)
      (fun i e he => by
        obtain ⟨hi, rfl⟩ := hget i e he
        rfl)
      (fun i e he => by
        obtain ⟨hi, rfl⟩ := hget i e he
        rfl)
      (fun i e j y he hy => by
        obtain ⟨hi, rfl⟩ := hget i e he
        match j, hy with
        | 0, _ => exact hcl1 i (by omega)
        | j + 1, hy => simp [AVal.cells] at hy)
      (fun i e j y he hy => by
        obtain ⟨hi, rfl⟩ := hget i e he
        match j, hy with
        | 0, hy =>
          simp [AVal.cells] at hy
          subst hy
          exact .int _ _
        | j + 1, hy => simp [AVal.cells] at hy)
    refine ⟨some bs, _, hcs, ?_, ?_⟩
    · rw [List.length_map, hlen] at this
      exact this
    · simp only [cutsL, hlen]
      omega
theorem intlArg_of {v : Value} {d : DataW H} {p : List MemPlace} {r : Reach} {b0 : Nat} (hw : Light d 49) (hv : Value.okWide Tryz.prog w r b0 49 v) (h : DataW.Trod enc Tryz.prog w 0 (fun _ => true) true 49 v d p) : ∃ b : Option (List Int), RepW w (cutsAv b) v ∧ (cutsL b).length * 8 ≤ 140737488351232 := by
  obtain ⟨a, len, cap, rfl⟩ := okWide_slice Tryz.underlying49 hv
  obtain ⟨m, hm⟩ := h
  obtain ⟨t, v', h1, h2, h3⟩ := intl_of hw hm
  have e : v' = .slice a len cap := by
    have : (Value.slice a len cap).cells.toList = [.slice a len cap] := rfl
    rw [this] at h1
    exact (List.cons.inj h1).1.symm
  subst e
  exact ⟨t, h2, h3⟩
end
end Go.Abs
/- THE ROW OF A LAW OVER ENTRIES, NUMBERS AND AN ENTRY: TarPieces. -/
namespace Go.Proofs.YtambgnjkakdoeaaGreatDoor
open Go.ChangeShapes Go.WideShapes Go.ChangeAt Go.RowKit Go.Abs
set_option maxRecDepth 100000
theorem lifted5 (sX : ∀ (t : Option (List Ent)), (∀ e ∈ esL t, EntW e) → (esL t).length ≤ 140737488351232 → ∀ (cv : Option (List Int)), (cutsL cv).length * 8 ≤ 140737488351232 → ∀ (o : Ent), EntW o → callT AA 5 [esAv t, cutsAv cv, o.av] [] = some (.bool true, [])) (os : Os) (started : os.Started) (H : Type) (enc : TypeId × Value → H) :
    ReturnsInHanded {} Tryz.checked os 5 .any (fun w args => (Rows.tarPiecesSpec.pre enc Tryz.prog Tryz.f5 Rows.tarPiecesRow.domain false w args ∧ laidMetH Tryz.prog Rows.tarPiecesRow.laid w) ∧ sizedMet enc Tryz.prog Tryz.f5 (OpenSpec.ofChange Rows.tarPiecesSpec) false w args)
      (Rows.tarPiecesSpec.post enc Tryz.prog Tryz.f5 false true false false) := by
  refine returnsInHanded_of_change_and (C := Tryz.checked) (X := fun w _ => laidMetH Tryz.prog Rows.tarPiecesRow.laid w) (fun _ _ _ hh h => h.of_heap hh) ownNone started (by kernel_rfl) Tryz.func5
    (ChangeSpec.witness_shaped (enc := enc) (C := Tryz.checked) (os := os) (X := fun w _ => laidMetH Tryz.prog Rows.tarPiecesRow.laid w) false (World.laidAll Tryz.prog os Rows.tarPiecesRow.laid) #[.slice none 0 0, .slice none 0 0, .agg #[.string .empty, .int .i64 0, .int .i64 0, .int .i64 0, .int .i64 0, .int .i64 0, .string .empty, .slice none 0 0]] 8 (World.laidAll_os _ _ _)
      (World.shaped_of_ZipB (by kernel_rfl) (by kernel_rfl)) (by kernel_rfl) (by kernel_rfl) (by kernel_rfl)
      (by rw [MakeChecks.laidMetH_plain _ _ _ (by kernel_rfl)]; exact laidMet_laidAll _ (by kernel_rfl) (by kernel_rfl))) ?_
  intro W base args ds gs before hval0 hW hc hwt hL _
  have hval : ∀ (j : Nat) t v, Tryz.f5.params[j]? = some t → args[j]? = some v → Value.okWide Tryz.prog W .any base t v := hval0
  have hW' := hW
  obtain ⟨p, q, hA0, hV, rfl, _, _⟩ := hW
  have hA : DataW.TrodAll enc Tryz.prog W 0 (fun _ => true) true Tryz.f5.params.toList args.toList ds p := hA0
  rw [Tryz.params5] at hA hval
  obtain ⟨v0, v1, v2, d0, d1, d2, p0, p1, p2, rfl, rfl, rfl, h0, h1, h2⟩ := trodAll_three hA
  obtain ⟨rfl, rfl⟩ := trodVars_none hV
  have k0 := h0
  have k1 := h1
  have k2 := h2
  have lt0 : ∀ x ∈ p0, x.block < W.heap.size := by obtain ⟨m, hm⟩ := k0; exact DataW.trod_lt m _ _ _ hm
  have lt1 : ∀ x ∈ p1, x.block < W.heap.size := by obtain ⟨m, hm⟩ := k1; exact DataW.trod_lt m _ _ _ hm
  have lt2 : ∀ x ∈ p2, x.block < W.heap.size := by obtain ⟨m, hm⟩ := k2; exact DataW.trod_lt m _ _ _ hm
  rw [Tryz.params5] at hwt
  have w0 : Light d0 22 := fun k hk => by
    have := List.all_eq_true.1 hwt k (by
      show k ∈ DataW.weightsEach Tryz.prog (22 :: _) (d0 :: _)
      simp only [DataW.weightsEach, List.mem_append]
      exact .inl hk)
    simpa using this
  have w1 : Light d1 49 := fun k hk => by
    have := List.all_eq_true.1 hwt k (by
      show k ∈ DataW.weightsEach Tryz.prog (22 :: 49 :: _) (d0 :: d1 :: _)
      simp only [DataW.weightsEach, List.mem_append]
      exact .inr (.inl hk))
    simpa using this
  have w2 : Light d2 36 := fun k hk => by
    have := List.all_eq_true.1 hwt k (by
      show k ∈ DataW.weightsEach Tryz.prog (22 :: 49 :: 36 :: _) (d0 :: d1 :: d2 :: _)
      simp only [DataW.weightsEach, List.mem_append]
      exact .inr (.inr (.inl hk)))
    simpa using this
  obtain ⟨t, hr0, he, hl⟩ := entsArg_of w0 (hval 0 22 v0 rfl rfl) h0
  obtain ⟨cv, hr1, hcv⟩ := intlArg_of w1 (hval 1 49 v1 rfl rfl) h1
  obtain ⟨o, ho, hr2⟩ := entArg_of w2 (hval 2 36 v2 rfl rfl) h2
  rw [MakeChecks.laidMetH_plain _ _ _ (by kernel_rfl)] at hL
  refine (law_calls (fn := Tryz.f5) Tryz.func5 (by kernel_rfl) (by kernel_rfl) (sX t he hl cv hcv o ho) (gg_of hL) rfl ?_).mono fun e' W' ⟨he', bel⟩ => ?_
  · intro i c v hc' hv
    match i, hc', hv with
    | 0, hc', hv =>
      cases hc'
      cases hv
      exact hr0
    | 1, hc', hv =>
      cases hc'
      cases hv
      exact hr1
    | 2, hc', hv =>
      cases hc'
      cases hv
      exact hr2
    | i + 3, hc', hv => cases hc'
  subst he'
  exact ⟨_, rfl, _, _, _, [], _, [], hW', trodAll_mk1 (shut_bool Tryz.underlying4 _), trodAll_mk3 (Below.trod laidOut (by kernel_rfl) (of_decide_eq_true (by kernel_rfl)) k0 bel lt0) (Below.trod laidOut (by kernel_rfl) (of_decide_eq_true (by kernel_rfl)) k1 bel lt1) (Below.trod laidOut (by kernel_rfl) (of_decide_eq_true (by kernel_rfl)) k2 bel lt2), rfl, bel.frame _, fun h => by cases h⟩
theorem over5 (sX : ∀ (t : Option (List Ent)), (∀ e ∈ esL t, EntW e) → (esL t).length ≤ 140737488351232 → ∀ (cv : Option (List Int)), (cutsL cv).length * 8 ≤ 140737488351232 → ∀ (o : Ent), EntW o → callT AA 5 [esAv t, cutsAv cv, o.av] [] = some (.bool true, [])) : Rows.TarPiecesSaid :=
  OpenClaim.holds_of_wide 5 Tryz.f5 rfl rfl rfl rfl rfl rfl rfl ⟨rfl, rfl, rfl, rfl, rfl⟩ rfl rfl rfl rfl rfl (by kernel_rfl) Tryz.func5 (by kernel_rfl)
    (of_decide_eq_true (by kernel_rfl)) (by unfold Func.isWrapper; first | (rw [if_pos (by decide +kernel)]; kernel_rfl) | (rw [if_neg (by decide +kernel)]; exact ⟨rfl, rfl⟩))
    (fun os started H enc _ => lifted5 sX os started H enc)
theorem card5 (sX : ∀ (t : Option (List Ent)), (∀ e ∈ esL t, EntW e) → (esL t).length ≤ 140737488351232 → ∀ (cv : Option (List Int)), (cutsL cv).length * 8 ≤ 140737488351232 → ∀ (o : Ent), EntW o → callT AA 5 [esAv t, cutsAv cv, o.av] [] = some (.bool true, [])) : Rows.TarPiecesCardSaid :=
  Claim7.holds_tied_plain_at .later [] [.data, .data, .data, .data, .sentinel, .sentinel, .pinned] true (true, "9a27f009568e5a9d23452f5acf9f8ca070d2ce250d64b6051559486034a94d0c") true (over5 sX) (fun _ h => by cases h) (by kernel_rfl) (fun _ h => by cases h) tarPieces_row_tie rfl ⟨rfl, rfl⟩ (by kernel_rfl) rfl
    (fun f fn hf hfn => by
      obtain rfl : f = 5 := Option.some.inj ((show Tryz.prog.funcNamed "amphora/amphoralaw12.TarPieces" = some 5 by kernel_rfl).symm.trans hf) |>.symm
      obtain rfl : fn = Tryz.f5 := (Option.some.inj (Tryz.func5.symm.trans hfn)).symm
      exact ⟨by kernel_rfl, fun j t ht => by
        rw [Tryz.params5] at ht
        have hm : t ∈ [22, 49, 36] := by simpa using Array.mem_of_getElem? ht
        have hall : ([22, 49, 36].all fun u => !Tryz.prog.wantsStandIn u) = true := by kernel_rfl
        exact (show Tryz.prog.wantsStandIn t = false by simpa using List.all_eq_true.1 hall t hm)⟩)
    (by kernel_rfl)
end Go.Proofs.YtambgnjkakdoeaaGreatDoor
namespace Go.Proofs.YtambgnjkakdoeaaGreatDoor
open Go.Abs
theorem tarPieces_holds : Rows.TarPiecesCardSaid := card5 s5
end Go.Proofs.YtambgnjkakdoeaaGreatDoor
