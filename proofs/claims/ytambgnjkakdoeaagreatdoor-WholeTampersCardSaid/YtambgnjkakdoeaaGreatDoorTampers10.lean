import Derived.Test.YtambgnjkakdoeaaGreatDoorTampers9
import Derived.ChangeSame
import Derived.Deep.Fields
import Derived.Deep.Slices
import Derived.ProofKit
/- PART OF A PROOF (texts joined by a program): F20 F21 F22 F23 F24 B3 F39 R2 Q6 Q1 F25 F26 F27. -/
set_option linter.unusedVariables false
set_option linter.unusedSimpArgs false
set_option linter.unusedSectionVars false
namespace Go.Abs
open Am
set_option maxRecDepth 10000
set_option linter.unusedSimpArgs false
def hd0 : Hd := ⟨[], 0, 0, 0, 0, 0, 0, []⟩
/-- what a block says -/
def decH (l : List UInt8) : Hd :=
  ⟨if textF l 345 155 = [] then textF l 0 100 else textF l 345 155 ++ [47] ++ textF l 0 100, numF 0 ((l.drop 100).take 7), numF 0 ((l.drop 108).take 7), numF 0 ((l.drop 116).take 7), numF 0 ((l.drop 124).take 11), numF 0 ((l.drop 136).take 11), l.getD 156 0, textF l 157 100⟩
def decOk (l : List UInt8) : Bool := encOk (decH l) && decide (encB (decH l) = l)
theorem aheadOf_le (x : UInt8) : ∀ l : List UInt8, (aheadOf x l).length ≤ l.length
  | [] => by simp [aheadOf]
  | y :: r => by
    have := aheadOf_le x r
    unfold aheadOf
    split <;> simp <;> omega
theorem textF_le (l : List UInt8) (a n : Nat) : (textF l a n).length ≤ n := by
  have := aheadOf_le 0 ((l.drop a).take n)
  unfold textF
  simp at this
  omega
theorem s62v (l : List UInt8) (c t : Bool) (b : BS) : callT AA 62 [.view 1 (l.map .byte) c t, b.av] [] = some (.bool (decide (l = b.l)), []) := s62 (.mk c t l) b
theorem s34l (b : BS) (h : b.l.length ≠ 512) : callT AA 34 [b.av] [] = some (.tuple [hd0.av, .iface 58 (.int .i64 14)], []) := by
  refine enter fn34 np34 rfl ?_
  have gg := trivial; repeat' first | simp (maxSteps := 2000000) (disch := omega) only [gg, b34, go_sem] | (refine br ?_ ?_ <;> intro gg <;> try (exfalso; omega)) | (refine And.intro ?_ ?_; focus omega) | omega
  rfl
set_option maxHeartbeats 4000000 in
theorem s34 (b : BS) (h : b.l.length = 512) : callT AA 34 [b.av] [] = some (if decOk b.l = true then .tuple [(decH b.l).av, .lit .nilIface] else .tuple [hd0.av, .iface 58 (.int .i64 14)], []) := by
  have t1 := s68 b 0 100 0 100 rfl rfl (by omega) (by omega)
  have t2 := s68 b 157 100 157 100 rfl rfl (by omega) (by omega)
  have t3 := s68 b 345 155 345 155 rfl rfl (by omega) (by omega)
  have n1 := s69 b 100 7 100 7 rfl rfl (by omega) (by omega) (by omega)
  have n2 := s69 b 108 7 108 7 rfl rfl (by omega) (by omega) (by omega)
  have n3 := s69 b 116 7 116 7 rfl rfl (by omega) (by omega) (by omega)
  have n4 := s69 b 124 11 124 11 rfl rfl (by omega) (by omega) (by omega)
  have n5 := s69 b 136 11 136 11 rfl rfl (by omega) (by omega) (by omega)
  have l1 := textF_le b.l 0 100
  have l2 := textF_le b.l 157 100
  have l3 := textF_le b.l 345 155
  have hx : b.l[156]? = some (b.l.getD 156 0) := by
    rw [List.getD, List.getElem?_eq_getElem (by omega)]
    rfl
  have hH : (decH b.l).av = .agg [.str (decH b.l).path, .int .i64 (numF 0 ((b.l.drop 100).take 7)), .int .i64 (numF 0 ((b.l.drop 108).take 7)), .int .i64 (numF 0 ((b.l.drop 116).take 7)), .int .i64 (numF 0 ((b.l.drop 124).take 11)), .int .i64 (numF 0 ((b.l.drop 136).take 11)), .int .u8 (b.l.getD 156 0).toNat, .str (textF b.l 157 100)] := rfl
  have lp : (decH b.l).path.length ≤ 1000000 := by
    show (if textF b.l 345 155 = [] then textF b.l 0 100 else textF b.l 345 155 ++ [47] ++ textF b.l 0 100).length ≤ 1000000
    split
    · omega
    · simp; omega
  have hp : (decH b.l).path = if textF b.l 345 155 = [] then textF b.l 0 100 else textF b.l 345 155 ++ [47] ++ textF b.l 0 100 := rfl
  have ey := s70 (decH b.l) lp (by show (textF b.l 157 100).length ≤ 1000000; omega)
  have en := s70no (decH b.l) lp (by show (textF b.l 157 100).length ≤ 1000000; omega)
  have hlen := encB_length (decH b.l)
  have heq := fun c t => s62v (encB (decH b.l)) c t b
  unfold decOk
  rw [hH] at ey en ⊢
  generalize encB (decH b.l) = B at *
  generalize encOk (decH b.l) = ok at *
  generalize (decH b.l).path = P at *
  generalize textF b.l 345 155 = T3 at *
  generalize textF b.l 0 100 = T1 at *
  generalize textF b.l 157 100 = T2 at *
  generalize numF 0 ((b.l.drop 100).take 7) = N1 at *
  generalize numF 0 ((b.l.drop 108).take 7) = N2 at *
  generalize numF 0 ((b.l.drop 116).take 7) = N3 at *
  generalize numF 0 ((b.l.drop 124).take 11) = N4 at *
  generalize numF 0 ((b.l.drop 136).take 11) = N5 at *
  generalize b.l.getD 156 0 = X at *
  have hB : (B.map AVal.byte).take 512 = B.map AVal.byte := List.take_of_length_le (by simp; omega)
  refine enter fn34 np34 rfl ?_
  cases ok with
  | false =>
    have en := en rfl
    by_cases h3 : T3 = []
    · rw [if_pos h3] at hp
      subst hp
      have gg := trivial; repeat' first | simp (maxSteps := 2000000) (disch := omega) only [gg, b34, t1, t2, t3, n1, n2, n3, n4, n5, hx, hB, en, decide_eq_true h3, go_sem] | (refine br ?_ ?_ <;> intro gg <;> try (exfalso; omega)) | (refine And.intro ?_ ?_; focus omega) | omega
      rfl
    · rw [if_neg h3] at hp
      subst hp
      have gg := trivial; repeat' first | simp (maxSteps := 2000000) (disch := omega) only [gg, b34, t1, t2, t3, n1, n2, n3, n4, n5, hx, hB, en, decide_eq_false h3, go_sem] | (refine br ?_ ?_ <;> intro gg <;> try (exfalso; omega)) | (refine And.intro ?_ ?_; focus omega) | omega
      rfl
  | true =>
    have ey := ey rfl
    by_cases hq : B = b.l
    · have heq' : ∀ c t, callT AA 62 [.view 1 (B.map .byte) c t, b.av] [] = some (.bool true, []) := by
        intro c t
        rw [heq, decide_eq_true hq]
      have hd : (true && decide (B = b.l)) = true := by rw [decide_eq_true hq]; rfl
      rw [if_pos hd]
      by_cases h3 : T3 = []
      · rw [if_pos h3] at hp
        subst hp
        have gg := trivial; repeat' first | simp (maxSteps := 2000000) (disch := omega) only [gg, b34, t1, t2, t3, n1, n2, n3, n4, n5, hx, hB, ey, heq', decide_eq_true h3, go_sem] | (refine br ?_ ?_ <;> intro gg <;> try (exfalso; omega)) | (refine And.intro ?_ ?_; focus omega) | omega
      · rw [if_neg h3] at hp
        subst hp
        have gg := trivial; repeat' first | simp (maxSteps := 2000000) (disch := omega) only [gg, b34, t1, t2, t3, n1, n2, n3, n4, n5, hx, hB, ey, heq', decide_eq_false h3, go_sem] | (refine br ?_ ?_ <;> intro gg <;> try (exfalso; omega)) | (refine And.intro ?_ ?_; focus omega) | omega
    · have heq' : ∀ c t, callT AA 62 [.view 1 (B.map .byte) c t, b.av] [] = some (.bool false, []) := by
        intro c t
        rw [heq, decide_eq_false hq]
      have hd : ¬ (true && decide (B = b.l)) = true := by rw [decide_eq_false hq]; simp
      rw [if_neg hd]
      by_cases h3 : T3 = []
      · rw [if_pos h3] at hp
        subst hp
        have gg := trivial; repeat' first | simp (maxSteps := 2000000) (disch := omega) only [gg, b34, t1, t2, t3, n1, n2, n3, n4, n5, hx, hB, ey, heq', decide_eq_true h3, go_sem] | (refine br ?_ ?_ <;> intro gg <;> try (exfalso; omega)) | (refine And.intro ?_ ?_; focus omega) | omega
        rfl
      · rw [if_neg h3] at hp
        subst hp
        have gg := trivial; repeat' first | simp (maxSteps := 2000000) (disch := omega) only [gg, b34, t1, t2, t3, n1, n2, n3, n4, n5, hx, hB, ey, heq', decide_eq_false h3, go_sem] | (refine br ?_ ?_ <;> intro gg <;> try (exfalso; omega)) | (refine And.intro ?_ ?_; focus omega) | omega
        rfl
end Go.Abs
namespace Go.Abs
open Am
set_option maxRecDepth 10000
set_option linter.unusedSimpArgs false
def hasSuf (s t : List UInt8) : Bool := decide (t.length ≤ s.length) && decide (s.drop (s.length - t.length) = t)
def cutSuf (s t : List UInt8) : List UInt8 := if hasSuf s t = true then s.take (s.length - t.length) else s
theorem s203 (s t : List UInt8) (hs : s.length ≤ 1000000000) (ht : t.length ≤ 1000000000) : callT AA 203 [.str s, .str t] [] = some (.bool (hasSuf s t), []) := by
  have e1 : t.length ≤ s.length → ((s.length : Int) - t.length).toNat = s.length - t.length := by omega
  refine enter fn203 np203 rfl ?_
  unfold hasSuf
  by_cases h : t.length ≤ s.length
  · have e1 := e1 h
    have e2 : (s.drop (s.length - t.length)).take (s.length - (s.length - t.length)) = s.drop (s.length - t.length) := List.take_of_length_le (by simp)
    have gg := trivial; repeat' first | simp (maxSteps := 2000000) (disch := omega) only [gg, b203, e1, e2, decide_eq_true h, go_sem] | (refine br ?_ ?_ <;> intro gg <;> try (exfalso; omega)) | (refine And.intro ?_ ?_; focus omega) | omega
  · have gg := trivial; repeat' first | simp (maxSteps := 2000000) (disch := omega) only [gg, b203, decide_eq_false h, go_sem] | (refine br ?_ ?_ <;> intro gg <;> try (exfalso; omega)) | (refine And.intro ?_ ?_; focus omega) | omega
theorem s156 (s t : List UInt8) (hs : s.length ≤ 1000000000) (ht : t.length ≤ 1000000000) : callT AA 156 [.str s, .str t] [] = some (.tuple [.str (cutSuf s t), .bool (hasSuf s t)], []) := by
  have h1 := s203 s t hs ht
  refine enter fn156 np156 rfl ?_
  unfold cutSuf
  cases hh : hasSuf s t with
  | true =>
    rw [hh] at h1
    have h : t.length ≤ s.length := by simp [hasSuf] at hh; exact hh.1
    have e1 : ((s.length : Int) - t.length).toNat = s.length - t.length := by omega
    have gg := trivial; repeat' first | simp (maxSteps := 2000000) (disch := omega) only [gg, b156, h1, e1, go_sem] | (refine br ?_ ?_ <;> intro gg <;> try (exfalso; omega)) | (refine And.intro ?_ ?_; focus omega) | omega
  | false =>
    rw [hh] at h1
    have gg := trivial; repeat' first | simp (maxSteps := 2000000) (disch := omega) only [gg, b156, h1, go_sem] | (refine br ?_ ?_ <;> intro gg <;> try (exfalso; omega)) | (refine And.intro ?_ ?_; focus omega) | omega
theorem s120 (s t : List UInt8) (hs : s.length ≤ 1000000000) (ht : t.length ≤ 1000000000) : callT AA 120 [.str s, .str t] [] = some (.tuple [.str (cutSuf s t), .bool (hasSuf s t)], []) := by
  have h1 := s156 s t hs ht
  refine enter fn120 np120 rfl ?_
  have gg := trivial; repeat' first | simp (maxSteps := 2000000) (disch := omega) only [gg, b120, h1, go_sem] | (refine br ?_ ?_ <;> intro gg <;> try (exfalso; omega)) | (refine And.intro ?_ ?_; focus omega) | omega
end Go.Abs
namespace Go.Abs
open Am
set_option maxRecDepth 100000
set_option linter.unusedSimpArgs false
def rcd0 : Rcd := ⟨[], []⟩
def fstD (l : List UInt8) : List UInt8 := aheadOf 32 l
def fstN (l : List UInt8) : Int := atoiV (fstD l)
def fstR (l : List UInt8) : List UInt8 := (l.drop (fstD l).length.succ).take ((fstN l).toNat - (fstD l).length.succ)
def fstOk1 (l : List UInt8) : Bool := decide (0 ≤ Lib.indexByte l 32) && atoiOk (fstD l) && decide (fstN l ≤ l.length) && decide (((fstD l).length : Int) + 1 ≤ fstN l)
def fstK (l : List UInt8) : List UInt8 := (cutB 61 (fstR l)).1
def fstV (l : List UInt8) : List UInt8 := cutSuf (cutB 61 (fstR l)).2.1 [10]
def fstOk (l : List UInt8) : Bool := fstOk1 l && (cutB 61 (fstR l)).2.2 && hasSuf (cutB 61 (fstR l)).2.1 [10] && lineOk (fstK l) (fstV l) && decide (lineB (fstK l) (fstV l) = l.take (fstN l).toNat)
/-- the record of the first line; how long that is -/
def firstP (l : List UInt8) : Rcd × Int := if fstOk l = true then (⟨fstK l, fstV l⟩, fstN l) else (rcd0, 0)
theorem s71a (b : BS) (hb : b.l.length ≤ 1000000) (h : fstOk1 b.l = false) : callT AA 71 [b.av] [] = some (.tuple [rcd0.av, .int .i64 0], []) := by
  have hn : (if atoiOk (fstD b.l) = true then AVal.lit .nilIface else numErr) = if atoiOk (fstD b.l) = true then AVal.lit .nilIface else .iface 227 .junk := rfl
  have ha := aheadOf_eq 32 b.l
  have h1 := s114 b 32 32 rfl
  have h2 := s114n b 32 32 rfl
  have hlt := indexByte_lt (s := b.l) (c := 32)
  unfold fstOk1 at h
  by_cases c0 : 0 ≤ Lib.indexByte b.l 32
  · rw [if_pos c0] at ha
    have h1 := fun c t => h1 c t (by omega) c0
    have hd : (b.sl 0 (Lib.indexByte b.l 32).toNat).l = fstD b.l := by
      rw [BS.sl_l]
      unfold fstD
      rw [ha]
      simp
    have hdl : (fstD b.l).length ≤ 1000000 := by rw [← hd, BS.sl_l]; simp; omega
    have hat := call118 (s := fstD b.l) (by omega)
    rw [hn] at hat
    rw [decide_eq_true c0, Bool.true_and] at h
    have hN : fstN b.l = atoiV (fstD b.l) := rfl
    rw [hN] at h
    generalize Lib.indexByte b.l 32 = q at *
    generalize atoiV (fstD b.l) = N at *
    generalize hD : fstD b.l = D at *
    refine enter fn71 np71 rfl ?_
    cases c1 : atoiOk D with
    | false =>
      rw [c1] at hat
      have gg := trivial; repeat' first | simp (maxSteps := 2000000) (disch := omega) only [gg, b71, h1, hd, hat, Bool.false_eq_true, go_sem] | (refine br ?_ ?_ <;> intro gg <;> try (exfalso; omega)) | (refine And.intro ?_ ?_; focus omega) | omega
      rfl
    | true =>
      rw [c1] at hat
      rw [c1] at h
      simp only [Bool.true_and, Bool.and_eq_false_iff, decide_eq_false_iff_not] at h
      have hdl2 : (b.sl 0 q.toNat).l.length = D.length := by rw [hd]
      have gg := trivial; repeat' first | simp (maxSteps := 2000000) (disch := omega) only [gg, b71, h1, hd, hat, hdl2, if_true, go_sem] | (refine br ?_ ?_ <;> intro gg <;> try (exfalso; omega)) | (refine And.intro ?_ ?_; focus omega) | omega
      all_goals first | rfl | (exfalso; omega)
  · have h2 := fun c t => h2 c t c0
    have hat := call118 (s := b.l) (by omega)
    rw [show (if atoiOk b.l = true then AVal.lit .nilIface else numErr) = if atoiOk b.l = true then AVal.lit .nilIface else .iface 227 .junk from rfl] at hat
    generalize Lib.indexByte b.l 32 = q at *
    generalize atoiV b.l = N at *
    refine enter fn71 np71 rfl ?_
    cases c1 : atoiOk b.l with
    | false =>
      rw [c1] at hat
      have gg := trivial; repeat' first | simp (maxSteps := 2000000) (disch := omega) only [gg, b71, h2, hat, Bool.false_eq_true, go_sem] | (refine br ?_ ?_ <;> intro gg <;> try (exfalso; omega)) | (refine And.intro ?_ ?_; focus omega) | omega
      rfl
    | true =>
      rw [c1] at hat
      have gg := trivial; repeat' first | simp (maxSteps := 2000000) (disch := omega) only [gg, b71, h2, hat, go_sem] | (refine br ?_ ?_ <;> intro gg <;> try (exfalso; omega)) | (refine And.intro ?_ ?_; focus omega) | omega
      rfl
set_option maxHeartbeats 4000000 in
theorem s71 (b : BS) (hb : b.l.length ≤ 1000000) (h : fstOk1 b.l = true) : callT AA 71 [b.av] [] = some (.tuple [(firstP b.l).1.av, .int .i64 (firstP b.l).2], []) := by
  have hn : (if atoiOk (fstD b.l) = true then AVal.lit .nilIface else numErr) = if atoiOk (fstD b.l) = true then AVal.lit .nilIface else .iface 227 .junk := rfl
  have ha := aheadOf_eq 32 b.l
  have h1 := s114 b 32 32 rfl
  have hlt := indexByte_lt (s := b.l) (c := 32)
  have h' := h
  simp only [fstOk1, Bool.and_eq_true, decide_eq_true_eq] at h'
  obtain ⟨⟨⟨c0, c1⟩, c2⟩, c3⟩ := h'
  rw [if_pos c0] at ha
  have h1 := fun c t => h1 c t (by omega) c0
  have hd : (b.sl 0 (Lib.indexByte b.l 32).toNat).l = fstD b.l := by
    rw [BS.sl_l]
    unfold fstD
    rw [ha]
    simp
  have hdl : (fstD b.l).length ≤ 1000000 := by rw [← hd, BS.sl_l]; simp; omega
  have hat := call118 (s := fstD b.l) (by omega)
  rw [hn, c1, if_pos rfl] at hat
  have hN : fstN b.l = atoiV (fstD b.l) := rfl
  have hdl2 : (b.sl 0 (Lib.indexByte b.l 32).toNat).l.length = (fstD b.l).length := by rw [hd]
  have hR : (b.sl ((fstD b.l).length + 1) (fstN b.l).toNat).l = fstR b.l := by
    rw [BS.sl_l]
    rfl
  have hRl : (fstR b.l).length ≤ 1000000 := by rw [← hR, BS.sl_l]; simp; omega
  have h119 := s119 (fstR b.l) 61 hRl
  have hcl : (cutB 61 (fstR b.l)).1.length ≤ 1000000 ∧ (cutB 61 (fstR b.l)).2.1.length ≤ 1000000 := by
    unfold cutB
    split
    · simp; omega
    · simp; omega
  have h120 := s120 (cutB 61 (fstR b.l)).2.1 [10] (by omega) (by simp)
  have hsl : (fstV b.l).length ≤ 1000000 := by
    unfold fstV cutSuf
    split
    · simp; omega
    · omega
  have h121 := s121 (fstK b.l) (fstV b.l) hcl.1 hsl
  have ht : (b.sl 0 (fstN b.l).toNat).l = b.l.take (fstN b.l).toNat := by rw [BS.sl_l]; simp
  unfold firstP fstOk
  rw [h, Bool.true_and]
  rw [← hN] at hat
  have eK : fstK b.l = (cutB 61 (fstR b.l)).1 := rfl
  have eV : fstV b.l = cutSuf (cutB 61 (fstR b.l)).2.1 [10] := rfl
  rw [← eK] at h119
  rw [← eV] at h120
  generalize (cutB 61 (fstR b.l)).2.2 = g1 at *
  generalize hg2 : hasSuf (cutB 61 (fstR b.l)).2.1 [10] = g2 at *
  generalize (cutB 61 (fstR b.l)).2.1 = V0 at *
  generalize lineOk (fstK b.l) (fstV b.l) = g3 at *
  generalize lineB (fstK b.l) (fstV b.l) = L at *
  generalize Lib.indexByte b.l 32 = q at *
  generalize fstR b.l = R at *
  generalize fstK b.l = K at *
  generalize fstV b.l = V at *
  generalize fstN b.l = N at *
  generalize fstD b.l = D at *
  have hDn : ((D.length : Int) + 1).toNat = D.length + 1 := by omega
  refine enter fn71 np71 rfl ?_
  cases g1 with
  | false =>
    have gg := trivial; repeat' first | simp (maxSteps := 2000000) (disch := omega) only [gg, b71, h1, hd, hat, hdl2, hDn, hR, h119, h120, go_sem] | (refine br ?_ ?_ <;> intro gg <;> try (exfalso; omega)) | (refine And.intro ?_ ?_; focus omega) | omega
    all_goals first | rfl | (exfalso; omega)
  | true =>
    cases g2 with
    | false =>
      have gg := trivial; repeat' first | simp (maxSteps := 2000000) (disch := omega) only [gg, b71, h1, hd, hat, hdl2, hDn, hR, h119, h120, go_sem] | (refine br ?_ ?_ <;> intro gg <;> try (exfalso; omega)) | (refine And.intro ?_ ?_; focus omega) | omega
      all_goals first | rfl | (exfalso; omega)
    | true =>
      cases g3 with
      | false =>
        have gg := trivial; repeat' first | simp (maxSteps := 2000000) (disch := omega) only [gg, b71, h1, hd, hat, hdl2, hDn, hR, h119, h120, h121, go_sem] | (refine br ?_ ?_ <;> intro gg <;> try (exfalso; omega)) | (refine And.intro ?_ ?_; focus omega) | omega
        all_goals first | rfl | (exfalso; omega)
      | true =>
        by_cases hL : L = b.l.take N.toNat
        · have gg := trivial; repeat' first | simp (maxSteps := 2000000) (disch := omega) only [gg, b71, h1, hd, hat, hdl2, hDn, hR, h119, h120, h121, ht, decide_eq_true hL, decide_eq_false, go_sem] | (refine br ?_ ?_ <;> intro gg <;> try (exfalso; omega)) | (refine And.intro ?_ ?_; focus omega) | omega
          all_goals first | rfl | (exfalso; omega)
        · have gg := trivial; repeat' first | simp (maxSteps := 2000000) (disch := omega) only [gg, b71, h1, hd, hat, hdl2, hDn, hR, h119, h120, h121, ht, decide_eq_false hL, go_sem] | (refine br ?_ ?_ <;> intro gg <;> try (exfalso; omega)) | (refine And.intro ?_ ?_; focus omega) | omega
          all_goals first | rfl | (exfalso; omega)
end Go.Abs
namespace Go.Abs
open Am
set_option maxRecDepth 10000
set_option linter.unusedSimpArgs false
theorem firstP_no {l : List UInt8} (h : fstOk1 l = false) : firstP l = (rcd0, 0) := by
  unfold firstP fstOk
  rw [h]
  rfl
theorem s71f (b : BS) (hb : b.l.length ≤ 1000000) : callT AA 71 [b.av] [] = some (.tuple [(firstP b.l).1.av, .int .i64 (firstP b.l).2], []) := by
  cases h : fstOk1 b.l with
  | true => exact s71 b hb h
  | false =>
    rw [firstP_no h]
    exact s71a b hb h
theorem firstP_n (l : List UInt8) : (firstP l).2 = 0 ∨ (1 ≤ (firstP l).2 ∧ (firstP l).2 ≤ l.length) := by
  unfold firstP
  split
  · rename_i h
    simp only [fstOk, fstOk1, Bool.and_eq_true, decide_eq_true_eq] at h
    refine .inr ⟨?_, ?_⟩
    · show 1 ≤ fstN l; omega
    · show fstN l ≤ l.length; omega
  · exact .inl rfl
theorem firstP_le (l : List UInt8) : (firstP l).1.key.length ≤ l.length ∧ (firstP l).1.value.length ≤ l.length := by
  have hR : (fstR l).length ≤ l.length := by unfold fstR; simp; omega
  have hc : (cutB 61 (fstR l)).1.length ≤ l.length ∧ (cutB 61 (fstR l)).2.1.length ≤ l.length := by
    unfold cutB
    split
    · simp; omega
    · simp; omega
  have hv : (fstV l).length ≤ l.length := by
    unfold fstV cutSuf
    split
    · simp; omega
    · omega
  unfold firstP
  split
  · exact ⟨hc.1, hv⟩
  · simp [rcd0]
/-- may this record stand behind that one? -/
def aftB (p : Option Rcd) (r : Rcd) : Bool := match p with
  | none => true
  | some p => Op.bytesLess p.key r.key
def decP : Nat → Option Rcd → List Rcd → List UInt8 → Option (List Rcd)
  | 0, _, acc, _ => some acc
  | k + 1, p, acc, l => if l = [] then some acc else
    if (firstP l).2 = 0 ∨ aftB p (firstP l).1 = false then none else decP k (some (firstP l).1) (acc ++ [(firstP l).1]) (l.drop (firstP l).2.toNat)
/-- the records of lines -/
def paxD (l : List UInt8) : Option (List Rcd) := if 65536 < l.length then none else decP l.length none [] l
def pdV (x : Option (List Rcd)) : AVal := match x with
  | none => .tuple [.lit (.slice none 0 0), .iface 58 (.int .i64 15)]
  | some [] => .tuple [.lit (.slice none 0 0), .lit .nilIface]
  | some (r :: rs) => .tuple [.own 0 2 0 (r :: rs).length false, .lit .nilIface]
def pdH (x : Option (List Rcd)) : Heap := match x with
  | none => []
  | some [] => []
  | some (r :: rs) => [(0, .row ((r :: rs).map Rcd.av) 2)]
theorem h35 (r0 : Option (List Rcd)) : ∀ (k : Nat) (b : BS) (p : Rcd) (acc rs : List Rcd) (q : Nat), rs = acc ++ [p] → b.l.length ≤ k → b.l.length ≤ 1000000 → q = rs.length → rs.length + k ≤ 1000001 → r0 = decP k (some p) rs b.l →
    HD AA 0 [0, 2, 3, 4] l35_0 ⟨[b.av, .junk, .lit (.slice none 0 0), .lit .nilIface, .own 0 2 0 q false, .junk, .junk, .junk, .junk, .junk, .junk, .junk, .junk, .junk, .junk, .junk, .junk, .junk, .junk, .junk, .junk, .junk, .junk, .junk, .junk, .junk, .junk, .junk, .junk, .junk, .junk, .junk, .junk, .junk, .junk, .junk, .junk, .junk, .junk, .junk, .junk, .junk, .junk, .junk, .junk, .junk, .junk], [(0, .row (rs.map Rcd.av) 2)], 1⟩ [.blk 0, .code r35_0] (Fin [(2, none), (3, none)] 0 (pdV r0) (pdH r0))
  | k, b, p, acc, rs, q, h0, h1, h2, h3, h4, h5 => by
    by_cases hl : b.l = []
    · have hl0 : b.l.length = 0 := by rw [hl]; rfl
      have hr : r0 = some rs := by
        cases k with
        | zero => exact h5
        | succ k => rw [h5]; unfold decP; rw [if_pos hl]
      refine hd_of (by unfold l35_0; rfl) ?_
      rw [hr]
      cases rs with
      | nil => simp at h0
      | cons x y =>
        unfold pdV pdH
        have gg := trivial; repeat' first | simp (maxSteps := 2000000) (disch := omega) only [gg, r35_0, go_sem] | (refine br ?_ ?_ <;> intro gg <;> try (exfalso; omega)) | (refine And.intro ?_ ?_; focus omega) | omega
        simp [h3]
    · have hl0 : 0 < b.l.length := by
        cases hz : b.l with
        | nil => exact (hl hz).elim
        | cons x y => simp
      match k, h1, h4, h5 with
      | 0, h1, h4, h5 => omega
      | k + 1, h1, h4, h5 =>
        have hf := s71f b h2
        unfold decP at h5
        refine hd_of (by unfold l35_0; rfl) ?_
        rw [if_neg hl] at h5
        have hn := firstP_n b.l
        have hbl := fun n => BS.sl_l (b := b) (lo := n) (hi := b.l.length)
        have hq : 0 < rs.length := by rw [h0]; simp
        have hg0 : rs[q - 1]? = some p := by rw [h3, h0]; simp
        have hg1 : ((q : Int) - 1).toNat = q - 1 := by omega
        generalize firstP b.l = P at *
        obtain ⟨r, n⟩ := P
        simp only [Rcd.av] at hf
        simp only at h5 hn
        have et : (rs.map Rcd.av).take q = rs.map Rcd.av := List.take_of_length_le (by simp; omega)
        by_cases hn0 : n = 0
        · rw [if_pos (.inl hn0)] at h5
          rw [h5]
          unfold pdV pdH
          have gg := trivial; repeat' first | simp (maxSteps := 2000000) (disch := omega) only [gg, hf, hg0, hg1, lp_head, go_sem] | (refine br ?_ ?_ <;> intro gg <;> try (exfalso; omega)) | (refine And.intro ?_ ?_; focus omega) | omega
        · cases ha : aftB (some p) r with
          | false =>
            rw [if_pos (.inr ha)] at h5
            rw [h5]
            unfold pdV pdH
            simp only [aftB] at ha
            have gg := trivial; repeat' first | simp (maxSteps := 2000000) (disch := omega) only [gg, hf, hg0, hg1, ha, lp_head, go_sem] | (refine br ?_ ?_ <;> intro gg <;> try (exfalso; omega)) | (refine And.intro ?_ ?_; focus omega) | omega
          | true =>
            rw [if_neg (by simp [hn0, ha])] at h5
            have ih := h35 r0 k (b.sl n.toNat b.l.length) r rs (rs ++ [r]) (q + 1) rfl (by rw [BS.sl_l]; simp; omega) (by rw [BS.sl_l]; simp; omega) (by simp [h3]) (by simp; omega) (by rw [h5, BS.sl_l, List.take_of_length_le (by simp)])
            simp only [List.map_append, List.map_cons, List.map_nil, Rcd.av] at ih
            simp only [aftB] at ha
            have gg := trivial; repeat' first | simp (maxSteps := 2000000) (disch := omega) only [gg, hf, hg0, hg1, ha, et, lp_head, go_sem] | (refine br ?_ ?_ <;> intro gg <;> try (exfalso; omega)) | (refine And.intro ?_ ?_; focus omega) | omega
theorem s35 (b : BS) (hb : b.l.length ≤ 1000000) : callT AA 35 [b.av] [] = some (pdV (paxD b.l), pdH (paxD b.l)) := by
  refine enter fn35 np35 rfl ?_
  unfold paxD
  by_cases h1 : 65536 < b.l.length
  · rw [if_pos h1]
    unfold pdV pdH
    have gg := trivial; repeat' first | simp (maxSteps := 2000000) (disch := omega) only [gg, b35, go_sem] | (refine br ?_ ?_ <;> intro gg <;> try (exfalso; omega)) | (refine And.intro ?_ ?_; focus omega) | omega
  rw [if_neg h1]
  generalize hr : decP b.l.length none [] b.l = r0
  have gg := trivial; repeat' first | simp (maxSteps := 2000000) (disch := omega) only [gg, b35, lp_head, go_sem] | (refine br ?_ ?_ <;> intro gg <;> try (exfalso; omega)) | (refine And.intro ?_ ?_; focus omega) | omega
  by_cases hl : b.l = []
  · have hl0 : b.l.length = 0 := by rw [hl]; rfl
    rw [hl0] at hr
    unfold decP at hr
    rw [← hr]
    unfold pdV pdH
    refine hd_of (by unfold l35_0; rfl) ?_
    have gg := trivial; repeat' first | simp (maxSteps := 2000000) (disch := omega) only [gg, r35_0, go_sem] | (refine br ?_ ?_ <;> intro gg <;> try (exfalso; omega)) | (refine And.intro ?_ ?_; focus omega) | omega
  · have hl0 : 0 < b.l.length := by
      cases hz : b.l with
      | nil => exact (hl hz).elim
      | cons x y => simp
    have hf := s71f b hb
    have hn := firstP_n b.l
    obtain ⟨k, hk⟩ : ∃ k, b.l.length = k + 1 := ⟨b.l.length - 1, by omega⟩
    rw [hk] at hr
    unfold decP at hr
    rw [if_neg hl] at hr
    generalize firstP b.l = P at *
    obtain ⟨r, n⟩ := P
    simp only [Rcd.av] at hf
    simp only at hr hn
    refine hd_of (by unfold l35_0; rfl) ?_
    by_cases hn0 : n = 0
    · rw [if_pos (.inl hn0)] at hr
      rw [← hr]
      unfold pdV pdH
      have gg := trivial; repeat' first | simp (maxSteps := 2000000) (disch := omega) only [gg, hf, lp_head, go_sem] | (refine br ?_ ?_ <;> intro gg <;> try (exfalso; omega)) | (refine And.intro ?_ ?_; focus omega) | omega
    · rw [if_neg (by simp [hn0, aftB])] at hr
      have ih := h35 r0 k (b.sl n.toNat b.l.length) r [] [r] 1 rfl (by rw [BS.sl_l]; simp; omega) (by rw [BS.sl_l]; simp; omega) rfl (by simp; omega) (by rw [← hr, BS.sl_l, List.take_of_length_le (by simp)]; rfl)
      simp only [List.map_cons, List.map_nil, Rcd.av] at ih
      have gg := trivial; repeat' first | simp (maxSteps := 2000000) (disch := omega) only [gg, hf, lp_head, go_sem] | (refine br ?_ ?_ <;> intro gg <;> try (exfalso; omega)) | (refine And.intro ?_ ?_; focus omega) | omega
end Go.Abs
namespace Go.Abs
open Am
set_option maxRecDepth 10000
set_option linter.unusedSimpArgs false
/-- bytes, as blocks that hold them -/
def wholeN (n : Int) : Int := (n + 511) / 512 * 512
theorem wholeN_le {n : Int} (h : 0 ≤ n) : n ≤ wholeN n ∧ wholeN n ≤ n + 511 ∧ 0 ≤ wholeN n := by
  unfold wholeN
  omega
theorem s143 (b : BS) (n : Int) (h0 : 0 ≤ n) (h1 : n ≤ 8589934592) (hb : b.l.length ≤ 1000000000) (hw : wholeN n ≤ b.l.length) : callT AA 143 [.ptr 0 0, .int .i64 n] [(0, .var [b.av])] = some (.tuple [(b.sl 0 n.toNat).av, .bool true], [(0, .var [(b.sl (wholeN n).toNat b.l.length).av])]) := by
  have hl := wholeN_le h0
  have e1 : (n + 512 - 1).tdiv 512 * 512 = wholeN n := by
    rw [Int.tdiv_eq_ediv_of_nonneg (by omega)]
    unfold wholeN
    rw [show n + 512 - 1 = n + 511 by omega]
  have e2 : (n + 512 - 1).tdiv 512 = (n + 511) / 512 := by
    rw [Int.tdiv_eq_ediv_of_nonneg (by omega)]
    rw [show n + 512 - 1 = n + 511 by omega]
  have e3 : (n + 511) / 512 * 512 = wholeN n := rfl
  refine enter fn143 np143 rfl ?_
  generalize hq : wholeN n = q at *
  have gg := trivial; repeat' first | simp (maxSteps := 2000000) (disch := omega) only [gg, b143, e2, e3, go_sem] | (refine br ?_ ?_ <;> intro gg <;> try (exfalso; omega)) | (refine And.intro ?_ ?_; focus omega) | omega
theorem s143n (b : BS) (n : Int) (h0 : 0 ≤ n) (h1 : n ≤ 8589934592) (hb : b.l.length ≤ 1000000000) (hw : ¬ wholeN n ≤ b.l.length) : callT AA 143 [.ptr 0 0, .int .i64 n] [(0, .var [b.av])] = some (.tuple [.lit (.slice none 0 0), .bool false], [(0, .var [b.av])]) := by
  have hl := wholeN_le h0
  have e2 : (n + 512 - 1).tdiv 512 = (n + 511) / 512 := by
    rw [Int.tdiv_eq_ediv_of_nonneg (by omega)]
    rw [show n + 512 - 1 = n + 511 by omega]
  have e3 : (n + 511) / 512 * 512 = wholeN n := rfl
  refine enter fn143 np143 rfl ?_
  generalize hq : wholeN n = q at *
  have gg := trivial; repeat' first | simp (maxSteps := 2000000) (disch := omega) only [gg, b143, e2, e3, go_sem] | (refine br ?_ ?_ <;> intro gg <;> try (exfalso; omega)) | (refine And.intro ?_ ?_; focus omega) | omega
theorem numF_le : ∀ (r : List UInt8) (acc : Int), 0 ≤ acc → 0 ≤ numF acc r ∧ numF acc r + 1 ≤ (acc + 1) * 8 ^ r.length
  | [], acc, h => by simp [numF, h]
  | c :: r, acc, h => by
    have ih := numF_le r (acc * 8 + (c.toNat : Int) % 8) (by omega)
    have hp := pow8_pos r.length
    unfold numF
    refine ⟨ih.1, Int.le_trans ih.2 ?_⟩
    rw [List.length_cons, Int.pow_succ, show (acc + 1) * (8 ^ r.length * 8) = ((acc + 1) * 8) * 8 ^ r.length by rw [Int.mul_assoc, Int.mul_comm 8]]
    exact Int.mul_le_mul_of_nonneg_right (by omega) (by omega)
theorem size_le (l : List UInt8) : 0 ≤ (decH l).size ∧ (decH l).size ≤ 8589934592 := by
  have h := numF_le ((l.drop 124).take 11) 0 (by omega)
  have hl : ((l.drop 124).take 11).length ≤ 11 := by simp; omega
  refine ⟨h.1, ?_⟩
  show numF 0 ((l.drop 124).take 11) ≤ 8589934592
  have h9 : ∀ k : Nat, k ≤ 11 → (8 : Int) ^ k ≤ 8589934592 := by
    intro k hk
    have hd : (8 : Int) ^ k * 8 ^ (11 - k) = 8589934592 := by
      rw [← Int.pow_add, show k + (11 - k) = 11 by omega]
      rfl
    have h10 := pow8_pos (11 - k)
    have h11 := pow8_pos k
    have := Int.mul_le_mul_of_nonneg_left h10 (show (0 : Int) ≤ 8 ^ k by omega)
    omega
  have := h9 _ hl
  omega
/-- the next header -/
def hdrV (b : BS) : AVal :=
  if b.l.length < 512 ∨ decOk (b.sl 0 512).l = false then .tuple [hd0.av, .lit (.slice none 0 0), .bool false] else
  if wholeN (decH (b.sl 0 512).l).size ≤ (b.sl 512 b.l.length).l.length then .tuple [(decH (b.sl 0 512).l).av, ((b.sl 512 b.l.length).sl 0 (decH (b.sl 0 512).l).size.toNat).av, .bool true]
  else .tuple [(decH (b.sl 0 512).l).av, .lit (.slice none 0 0), .bool false]
/-- what is left behind it -/
def hdrR (b : BS) : BS :=
  if b.l.length < 512 then b else if decOk (b.sl 0 512).l = false then b.sl 512 b.l.length else
  if wholeN (decH (b.sl 0 512).l).size ≤ (b.sl 512 b.l.length).l.length then (b.sl 512 b.l.length).sl (wholeN (decH (b.sl 0 512).l).size).toNat (b.sl 512 b.l.length).l.length
  else b.sl 512 b.l.length
theorem s100 (b : BS) (hb : b.l.length ≤ 1000000000) : callT AA 100 [.ptr 0 0] [(0, .var [b.av])] = some (hdrV b, [(0, .var [(hdrR b).av])]) := by
  have hw : wholeN 512 = 512 := rfl
  refine enter fn100 np100 rfl ?_
  unfold hdrV hdrR
  by_cases c1 : b.l.length < 512
  · have h1 := s143n b 512 (by omega) (by omega) hb (by rw [hw]; omega)
    rw [if_pos (.inl c1), if_pos c1]
    have gg := trivial; repeat' first | simp (maxSteps := 2000000) (disch := omega) only [gg, b100, h1, go_sem] | (refine br ?_ ?_ <;> intro gg <;> try (exfalso; omega)) | (refine And.intro ?_ ?_; focus omega) | omega
    rfl
  · have h1 := s143 b 512 (by omega) (by omega) hb (by rw [hw]; omega)
    rw [hw] at h1
    have e512 : (512 : Int).toNat = 512 := rfl
    rw [e512] at h1
    have hbl : (b.sl 0 512).l.length = 512 := by rw [BS.sl_l]; simp; omega
    have h2 := s34 (b.sl 0 512) hbl
    rw [if_neg c1]
    cases c2 : decOk (b.sl 0 512).l with
    | false =>
      rw [c2] at h2
      rw [if_pos (.inr rfl), if_pos rfl]
      have gg := trivial; repeat' first | simp (maxSteps := 2000000) (disch := omega) only [gg, b100, h1, h2, Bool.false_eq_true, go_sem] | (refine br ?_ ?_ <;> intro gg <;> try (exfalso; omega)) | (refine And.intro ?_ ?_; focus omega) | omega
      rfl
    | true =>
      rw [c2, if_pos rfl] at h2
      rw [if_neg (show ¬ (b.l.length < 512 ∨ true = false) by simp [c1]), if_neg (show ¬ (true = false) by simp)]
      have hs := size_le (b.sl 0 512).l
      have hrl : (b.sl 512 b.l.length).l.length ≤ 1000000000 := by rw [BS.sl_l]; simp; omega
      generalize decH (b.sl 0 512).l = h at *
      simp only [Hd.av] at h2
      by_cases c3 : wholeN h.size ≤ (b.sl 512 b.l.length).l.length
      · have h3 := s143 (b.sl 512 b.l.length) h.size hs.1 hs.2 hrl c3
        rw [if_pos c3, if_pos c3]
        have gg := trivial; repeat' first | simp (maxSteps := 2000000) (disch := omega) only [gg, b100, h1, h2, h3, go_sem] | (refine br ?_ ?_ <;> intro gg <;> try (exfalso; omega)) | (refine And.intro ?_ ?_; focus omega) | omega
      · have h3 := s143n (b.sl 512 b.l.length) h.size hs.1 hs.2 hrl c3
        rw [if_neg c3, if_neg c3]
        have gg := trivial; repeat' first | simp (maxSteps := 2000000) (disch := omega) only [gg, b100, h1, h2, h3, go_sem] | (refine br ?_ ?_ <;> intro gg <;> try (exfalso; omega)) | (refine And.intro ?_ ?_; focus omega) | omega
end Go.Abs
namespace Go.Abs
def l15_0 : ACode := (.seq (rg [oo 9 (.bin .lss .other false (.t 8) (.t 7))]) (.seq (.cond (.t 9) .skip (.exit 0)) (.seq (.block 1 (.seq (rg [oo 10 (.ixa 8 (.t 6) (.t 8)), oo 11 (.ld 8 true (.t 10)), oo 5 (.alloc [(.str []), (.int .i64 0), (.int .i64 0), (.int .i64 0), (.int .i64 0), (.int .i64 0), (.str []), (.lit (.slice none 0 0))]), ⟨none, (.st 8 (.t 5) (.t 11)), none⟩]) (.seq (rg [mv 12 3, oo 13 (.fa 7 (.t 5)), oo 14 (.ld 1 false (.t 13)), oo 15 (.len 1 (.t 14)), oo 16 (.bin .add .other true (ci 512) (.t 15)), oo 17 (.fa 0 (.t 5)), oo 18 (.ld 1 false (.t 17)), oo 19 (.len 0 (.t 18)), oo 20 (.bin .add .other false (.t 16) (.t 19)), oo 21 (.fa 6 (.t 5)), oo 22 (.ld 1 false (.t 21)), oo 23 (.len 0 (.t 22)), oo 24 (.bin .add .other false (.t 20) (.t 23)), oo 25 (.bin .add .other false (.t 12) (.t 24)), mv 3 25]) (.seq (rg [mv 26 3, oo 27 (.bin .gtr .other true (.t 26) (ci 65536))]) (.cond (.t 27) (.seq (rg [oo 2 (.mov (.c (.bool true)))]) .ret) .skip))))) (rg [oo 28 (.bin .add .other true (.t 8) (ci 1)), mv 8 28]))))
def r15_0 : ACode := (.seq (rg [oo 2 (.mov (.c (.bool false)))]) .ret)
def b15 : AFn := ⟨1, 29, [(2, none)], (.seq (rg [oo 2 (.mov (.c (.bool false)))]) (.seq (rg [oo 3 (.mov (ci 0))]) (.seq (.seq (rg [mv 6 0, oo 7 (.len 1 (.t 6)), oo 8 (.mov (ci 0))]) (.block 0 (.loop [2, 3, 6, 7, 8] l15_0))) r15_0)))⟩
def l47_0 : ACode := (.seq (.seq (rg [mv 12 3, oo 13 (.bin .eql .other true (.t 12) (.c (.str []))), mv 14 13, og 15 (.mov (.t 0)) 14 false, og 16 (.bin .gtr .other true (.t 15) (ci 0)) 14 false, oo 17 (.pick (.t 14) (.c (.bool true)) (.t 16))]) (.cond (.t 17) .skip (.exit 0))) (.block 1 (.seq (rg [mv 18 0, oo 19 (.bin .rem .other true (.t 18) (ci 10)), oo 20 (.bin .add .other true (ci 48) (.t 19)), oo 21 (.cvi .u8 (.t 20)), oo 22 (.bslice 1 1 [(.int .u8 0)] [(.t 21)]), oo 23 (.cvbs (.t 22)), mv 24 3, oo 25 (.bin .add .other false (.t 23) (.t 24)), mv 3 25]) (rg [mv 26 0, oo 27 (.bin .quo .other true (.t 26) (ci 10)), mv 0 27]))))
def r47_0 : ACode := (.seq (.seq (rg [mv 28 4]) (.cond (.t 28) (.seq (rg [mv 29 3, oo 30 (.bin .add .other true (.c (.str [45])) (.t 29)), mv 2 30]) .ret) .skip)) (.seq (rg [mv 31 3, mv 2 31]) .ret))
def b47 : AFn := ⟨1, 32, [(2, none)], (.seq (rg [oo 2 (.mov (.c (.str [])))]) (.seq (.seq (rg [mv 5 0, oo 6 (.bin .eql .other true (.t 5) (.c (.int .i64 (-9223372036854775808))))]) (.cond (.t 6) (.seq (rg [oo 2 (.mov (.c (.str [45, 57, 50, 50, 51, 51, 55, 50, 48, 51, 54, 56, 53, 52, 55, 55, 53, 56, 48, 56])))]) .ret) .skip)) (.seq (rg [oo 3 (.mov (.c (.str [])))]) (.seq (rg [mv 7 0, oo 8 (.bin .lss .other true (.t 7) (ci 0)), mv 4 8]) (.seq (.seq (rg [mv 9 4]) (.cond (.t 9) (rg [mv 10 0, oo 11 (.un .neg (.t 10)), mv 0 11]) .skip)) (.seq (.block 0 (.loop [0, 2, 3, 4] l47_0)) r47_0))))))⟩
theorem fn47 : AA.fn 47 = some b47 := by kernel_rfl
theorem np47 : AA.prim 47 = none := rfl
def l7_0 : ACode := (.seq (.seq (rg [mv 49 6, mv 50 5, oo 51 (.bin .lss .other false (.t 49) (.t 50))]) (.cond (.t 51) .skip (.exit 0))) (.block 1 (.seq (rg [mv 53 3, mv 54 6, mv 55 6, oo 56 (.bin .add .other true (.t 55) (ci 512)), oo 57 (.slc 1 (.t 53) (some (.t 54)) (some (.t 56)) none), cl 58 34 [(.t 57)], mv 52 58, oo 59 (.ext (.t 52) 0), oo 60 (.ext (.t 52) 1), oo 10 (.alloc [(.str []), (.int .i64 0), (.int .i64 0), (.int .i64 0), (.int .i64 0), (.int .i64 0), (.int .u8 0), (.str [])]), ⟨none, (.st 8 (.t 10) (.t 59)), none⟩, mv 11 60]) (.seq (rg [mv 61 6, oo 62 (.bin .add .other true (.t 61) (ci 512)), mv 6 62]) (.seq (rg [oo 63 (.fa 4 (.t 10)), oo 64 (.ld 1 false (.t 63)), oo 65 (.bin .add .other true (.t 64) (ci 511)), oo 66 (.bin .quo .other true (.t 65) (ci 512)), oo 67 (.bin .mul .other true (.t 66) (ci 512)), mv 12 67]) (.seq (.seq (rg [mv 68 11, oo 69 (.bin .neq (.iface [58]) true (.t 68) (.c (.lit .nilIface))), mv 70 69, og 71 (.mov (.t 12)) 70 false, og 72 (.mov (.t 5)) 70 false, og 73 (.mov (.t 6)) 70 false, og 74 (.bin .sub .other false (.t 72) (.t 73)) 70 false, og 75 (.bin .gtr .other false (.t 71) (.t 74)) 70 false, oo 76 (.pick (.t 70) (.c (.bool true)) (.t 75)), mv 77 76, og 78 (.mov (.t 3)) 77 false, og 79 (.mov (.t 6)) 77 false, og 80 (.fa 4 (.t 10)) 77 false, og 81 (.ld 1 false (.t 80)) 77 false, og 82 (.bin .add .other false (.t 79) (.t 81)) 77 false, og 83 (.mov (.t 6)) 77 false, og 84 (.mov (.t 12)) 77 false, og 85 (.bin .add .other false (.t 83) (.t 84)) 77 false, og 86 (.slc 1 (.t 78) (some (.t 82)) (some (.t 85)) none) 77 false, og 87 (.call (.c (.func (.func 33) [])) [(.t 86)]) 77 false, og 88 (.un .not (.t 87)) 77 false, oo 89 (.pick (.t 77) (.c (.bool true)) (.t 88)), mv 90 89, og 91 (.mov (.t 7)) 90 false, og 92 (.mov (.t 0)) 90 false, og 93 (.len 1 (.t 92)) 90 false, og 94 (.bin .geq .other false (.t 91) (.t 93)) 90 false, oo 95 (.pick (.t 90) (.c (.bool true)) (.t 94))]) (.cond (.t 95) (.seq (rg [oo 2 (.mov (.c (.bool false)))]) .ret) .skip)) (.seq (rg [mv 96 3, mv 97 6, mv 98 6, oo 99 (.fa 4 (.t 10)), oo 100 (.ld 1 false (.t 99)), oo 101 (.bin .add .other false (.t 98) (.t 100)), oo 102 (.slc 1 (.t 96) (some (.t 97)) (some (.t 101)) none), mv 13 102]) (.seq (rg [mv 103 6, mv 104 12, oo 105 (.bin .add .other false (.t 103) (.t 104)), mv 6 105]) (.seq (.seq (rg [oo 106 (.fa 6 (.t 10)), oo 107 (.ld 1 false (.t 106)), oo 108 (.bin .eql .other true (.t 107) (.c (.int .u8 120)))]) (.cond (.t 108) (.seq (rg [mv 110 13, cl 111 35 [(.t 110)], mv 109 111, oo 112 (.ext (.t 109) 0), oo 113 (.ext (.t 109) 1), mv 14 112, mv 15 113]) (.seq (.seq (rg [mv 114 9, mv 115 114, og 116 (.mov (.t 15)) 115 false, og 117 (.bin .neq (.iface [58]) true (.t 116) (.c (.lit .nilIface))) 115 false, oo 118 (.pick (.t 115) (.c (.bool true)) (.t 117)), mv 119 118, og 120 (.mov (.t 14)) 119 false, og 121 (.len 1 (.t 120)) 119 false, og 122 (.bin .eql .other true (.t 121) (ci 0)) 119 false, oo 123 (.pick (.t 119) (.c (.bool true)) (.t 122))]) (.cond (.t 123) (.seq (rg [oo 2 (.mov (.c (.bool false)))]) .ret) .skip)) (.seq (rg [mv 124 14, mv 8 124, oo 9 (.mov (.c (.bool true)))]) (.exit 1)))) .skip)) (.seq (.seq (.reg true [(0, 1), (0, 2), (0, 3), (0, 4), (0, 5), (0, 6), (1, 6), (2, 6)] [oo 125 (.ld 8 true (.t 10)), mv 126 13, mv 127 8, mv 128 0, mv 129 7, oo 130 (.ixa 8 (.t 128) (.t 129)), oo 131 (.ld 8 true (.t 130)), cl 132 36 [(.t 125), (.t 126), (.t 127), (.t 131)], oo 133 (.un .not (.t 132))]) (.cond (.t 133) (.seq (rg [oo 2 (.mov (.c (.bool false)))]) .ret) .skip)) (.seq (rg [mv 134 7, oo 135 (.bin .add .other true (.t 134) (ci 1)), mv 7 135]) (rg [oo 8 (.mov (.c (.lit (.slice none 0 0)))), oo 9 (.mov (.c (.bool false)))]))))))))))))
def r7_0 : ACode := (.seq (rg [mv 136 9, oo 137 (.un .not (.t 136)), mv 138 137, og 139 (.mov (.t 7)) 138 true, og 140 (.mov (.t 0)) 138 true, og 141 (.len 1 (.t 140)) 138 true, og 142 (.bin .eql .other false (.t 139) (.t 141)) 138 true, oo 143 (.pick (.t 138) (.t 142) (.c (.bool false))), mv 2 143]) .ret)
def b7 : AFn := ⟨1, 144, [(2, none)], (.seq (rg [oo 2 (.mov (.c (.bool false)))]) (.seq (.seq (rg [cl 16 14 [], oo 17 (.un .not (.t 16))]) (.cond (.t 17) (.seq (rg [oo 2 (.mov (.c (.bool false)))]) .ret) .skip)) (.seq (.seq (rg [mv 18 0, cl 19 15 [(.t 18)]]) (.cond (.t 19) (.seq (rg [oo 2 (.mov (.c (.bool true)))]) .ret) .skip)) (.seq (rg [mv 21 0, cl 22 17 [(.t 21)], mv 20 22, oo 23 (.ext (.t 20) 0), oo 24 (.ext (.t 20) 1), mv 3 23, mv 4 24]) (.seq (.seq (rg [mv 25 4, oo 26 (.bin .neq (.iface [58]) true (.t 25) (.c (.lit .nilIface)))]) (.cond (.t 26) (.seq (rg [mv 27 3, oo 28 (.len 1 (.t 27)), oo 29 (.bin .eql .other true (.t 28) (ci 0)), mv 2 29]) .ret) .skip)) (.seq (rg [mv 30 3, oo 31 (.len 1 (.t 30)), oo 32 (.bin .sub .other true (.t 31) (ci 1024)), mv 5 32]) (.seq (.seq (rg [mv 33 5, oo 34 (.bin .lss .other true (.t 33) (ci 0)), mv 35 34, og 36 (.mov (.t 3)) 35 false, og 37 (.len 1 (.t 36)) 35 false, og 38 (.bin .rem .other true (.t 37) (ci 512)) 35 false, og 39 (.bin .neq .other true (.t 38) (ci 0)) 35 false, oo 40 (.pick (.t 35) (.c (.bool true)) (.t 39)), mv 41 40, og 42 (.mov (.t 3)) 41 false, og 43 (.mov (.t 5)) 41 false, og 44 (.slc 1 (.t 42) (some (.t 43)) none none) 41 false, og 45 (.call (.c (.func (.func 33) [])) [(.t 44)]) 41 false, og 46 (.un .not (.t 45)) 41 false, oo 47 (.pick (.t 41) (.c (.bool true)) (.t 46))]) (.cond (.t 47) (.seq (rg [oo 2 (.mov (.c (.bool false)))]) .ret) .skip)) (.seq (rg [oo 6 (.mov (ci 0)), oo 7 (.mov (ci 0))]) (.seq (rg [oo 48 (.bslice 2 0 [(.str []), (.str [])] []), mv 8 48]) (.seq (rg [oo 9 (.mov (.c (.bool false)))]) (.seq (.block 0 (.loop [0, 2, 3, 5, 6, 7, 8, 9] l7_0)) r7_0)))))))))))⟩
end Go.Abs
namespace Go.Abs
open Am
set_option maxRecDepth 10000
set_option linter.unusedSimpArgs false
/-- a list that is too large -/
def largeB : Int → List Ent → Bool
  | _, [] => false
  | n, e :: r => if 65536 < n + (512 + (e.data.l.length : Int) + e.path.length + e.link.length) then true else largeB (n + (512 + (e.data.l.length : Int) + e.path.length + e.link.length)) r
def EntL (e : Ent) : Prop := e.path.length ≤ 140737488351232 ∧ e.link.length ≤ 140737488351232 ∧ e.data.l.length ≤ 140737488351232
theorem h15 (c tmp : Bool) (t : List Ent) (ht : t.length ≤ 140737488351232) (hq : ∀ e ∈ t, EntL e) (r0 : Bool) : ∀ (rest done : List Ent) (acc n i : Int), t = done ++ rest → i = done.length → n = t.length → 0 ≤ acc → acc ≤ 65536 → r0 = largeB acc rest →
    HD AA 0 [2, 3, 6, 7, 8] l15_0 ⟨[.junk, .junk, .bool false, .int .i64 acc, .junk, .junk, .view 8 (t.map Ent.av) c tmp, .int .i64 n, .int .i64 i, .junk, .junk, .junk, .junk, .junk, .junk, .junk, .junk, .junk, .junk, .junk, .junk, .junk, .junk, .junk, .junk, .junk, .junk, .junk, .junk], [], 0⟩ [.blk 0, .code r15_0] (Fin [(2, none)] 0 (.bool r0) [])
  | [], done, acc, n, i, h1, h2, h3, h4, h5, h6 => by
    subst h1
    simp at h3
    refine hd_of (by unfold l15_0; rfl) ?_
    simp only [largeB] at h6
    rw [h6]
    have gg := trivial; repeat' first | simp (maxSteps := 2000000) (disch := omega) only [gg, r15_0, go_sem] | (refine br ?_ ?_ <;> intro gg <;> try (exfalso; omega)) | (refine And.intro ?_ ?_; focus omega) | omega
  | e :: rest, done, acc, n, i, h1, h2, h3, h4, h5, h6 => by
    have hg0 : t[i.toNat]? = some e := by
      rw [h1]
      simp [h2]
    have hl : i.toNat < t.length := by rw [h1]; simp; omega
    obtain ⟨l1, l2, l3⟩ := hq e (by simp [h1])
    unfold largeB at h6
    refine hd_of (by unfold l15_0; rfl) ?_
    by_cases hc : 65536 < acc + (512 + (e.data.l.length : Int) + e.path.length + e.link.length)
    · rw [if_pos hc] at h6
      rw [h6]
      have gg := trivial; repeat' first | simp (maxSteps := 2000000) (disch := omega) only [gg, hg0, lp_head, go_sem] | (refine br ?_ ?_ <;> intro gg <;> try (exfalso; omega)) | (refine And.intro ?_ ?_; focus omega) | omega
    · rw [if_neg hc] at h6
      have ih := h15 c tmp t ht hq r0 rest (done ++ [e]) (acc + (512 + (e.data.l.length : Int) + e.path.length + e.link.length)) n (i + 1) (by simp [h1]) (by first | omega | (simp; omega) | (simp; done)) h3 (by omega) (by omega) h6
      have gg := trivial; repeat' first | simp (maxSteps := 2000000) (disch := omega) only [gg, hg0, lp_head, go_sem] | (refine br ?_ ?_ <;> intro gg <;> try (exfalso; omega)) | (refine And.intro ?_ ?_; focus omega) | omega
inductive RS where
  | nil
  | mk (clip tmp : Bool) (l : List Rcd)
namespace RS
def av : RS → AVal
  | .nil => .lit (.slice none 0 0)
  | .mk c t l => .view 2 (l.map Rcd.av) c t
def l : RS → List Rcd
  | .nil => []
  | .mk _ _ l => l
def isTmp : RS → Bool
  | .nil => false
  | .mk _ t _ => t
end RS
section
variable {r : RS} {f : Nat → Option Nat} {h : Heap}
end
theorem bytesOf_one {x : Int} : bytesOf [.int .u8 x] = some [UInt8.ofNat x.toNat] := rfl
theorem dec_small {n : Int} (h0 : 0 ≤ n) (h : n < 10) : Lib.decDigits n.toNat = [UInt8.ofNat (48 + n % 10).toNat] := by
  rw [Lib.decDigits, dif_pos (by omega)]
  congr 2
  omega
theorem dec_big {n : Int} (h0 : 0 ≤ n) (h : ¬ n < 10) : Lib.decDigits n.toNat = Lib.decDigits (n / 10).toNat ++ [UInt8.ofNat (48 + n % 10).toNat] := by
  rw [Lib.decDigits, dif_neg (by omega)]
  have e1 : n.toNat / 10 = (n / 10).toNat := by omega
  have e2 : 48 + n.toNat % 10 = (48 + n % 10).toNat := by omega
  rw [e1, e2]
theorem h47 (neg : Bool) (r0 : List UInt8) : ∀ (k : Nat) (n : Int) (s : List UInt8), 0 ≤ n → n < 10 ^ k → n ≤ 9223372036854775807 → s.length + k ≤ 20 → (s = [] ∨ 0 < n → r0 = (if neg then [45] else []) ++ (Lib.decDigits n.toNat ++ s)) → (s ≠ [] → n = 0 → r0 = (if neg then [45] else []) ++ s) → (s = [] → 0 < k) →
    HD AA 0 [0, 2, 3, 4] l47_0 ⟨[.int .i64 n, .junk, .str [], .str s, .bool neg, .junk, .junk, .junk, .junk, .junk, .junk, .junk, .junk, .junk, .junk, .junk, .junk, .junk, .junk, .junk, .junk, .junk, .junk, .junk, .junk, .junk, .junk, .junk, .junk, .junk, .junk, .junk], [], 0⟩ [.blk 0, .code r47_0] (Fin [(2, none)] 0 (.str r0) [])
  | k, n, s, h0, h1, h1', h2, h3, h4, h5 => by
    by_cases hs : s = [] ∨ 0 < n
    · have hk : 0 < k := by
        rcases hs with hs | hs
        · exact h5 hs
        · rcases Nat.eq_zero_or_pos k with hk | hk
          · rw [hk] at h1
            simp at h1
            omega
          · exact hk
      obtain ⟨k, rfl⟩ : ∃ j, k = j + 1 := ⟨k - 1, by omega⟩
      have e1 : n.tmod 10 = n % 10 := Int.tmod_eq_emod_of_nonneg h0
      have e2 : n.tdiv 10 = n / 10 := Int.tdiv_eq_ediv_of_nonneg h0
      have hr := h3 hs
      have hp : n / 10 < 10 ^ k := by
        rw [Int.pow_succ] at h1
        omega
      have ih := h47 neg r0 k (n / 10) (UInt8.ofNat (48 + n % 10).toNat :: s) (by omega) hp (by omega) (by simp; omega) (fun h => by
        have hb : ¬ n < 10 := by
          rcases h with h | h
          · cases h
          · omega
        rw [hr, dec_big h0 hb]
        simp) (fun _ h => by
        rw [hr, dec_small h0 (by omega)]
        simp) (fun h => by cases h)
      refine hd_of (by unfold l47_0; rfl) ?_
      by_cases hse : s = []
      · have gg := trivial; repeat' first | simp (maxSteps := 2000000) (disch := omega) only [gg, decide_eq_true hse, e1, e2, bytesOf_one, lp_head, go_sem] | (refine br ?_ ?_ <;> intro gg <;> try (exfalso; omega)) | (refine And.intro ?_ ?_; focus omega) | omega
      · have hn : 0 < n := by
          rcases hs with hs | hs
          · exact (hse hs).elim
          · exact hs
        have gg := trivial; repeat' first | simp (maxSteps := 2000000) (disch := omega) only [gg, decide_eq_false hse, e1, e2, bytesOf_one, lp_head, go_sem] | (refine br ?_ ?_ <;> intro gg <;> try (exfalso; omega)) | (refine And.intro ?_ ?_; focus omega) | omega
    · have hs1 : s ≠ [] := fun h => hs (.inl h)
      have hn : n = 0 := by
        have : ¬ 0 < n := fun h => hs (.inr h)
        omega
      have hr := h4 hs1 hn
      subst hn
      refine hd_of (by unfold l47_0; rfl) ?_
      cases neg
      · rw [hr]
        have gg := trivial; repeat' first | simp (maxSteps := 2000000) (disch := omega) only [gg, decide_eq_false hs1, r47_0, go_sem] | (refine br ?_ ?_ <;> intro gg <;> try (exfalso; omega)) | (refine And.intro ?_ ?_; focus omega) | omega
        all_goals simp
      · rw [hr]
        have gg := trivial; repeat' first | simp (maxSteps := 2000000) (disch := omega) only [gg, decide_eq_false hs1, r47_0, go_sem] | (refine br ?_ ?_ <;> intro gg <;> try (exfalso; omega)) | (refine And.intro ?_ ?_; focus omega) | omega
        all_goals simp
theorem itoa_min : Lib.itoa (-9223372036854775808) = [45, 57, 50, 50, 51, 51, 55, 50, 48, 51, 54, 56, 53, 52, 55, 55, 53, 56, 48, 56] := by
  have h : (-9223372036854775808 : Int).natAbs = 9223372036854775808 := rfl
  unfold Lib.itoa
  rw [if_pos (by omega), h]
  simp [Lib.decDigits]
theorem s47 (n : Int) (h1 : -9223372036854775808 ≤ n) (h2 : n ≤ 9223372036854775807) : callT AA 47 [.int .i64 n] [] = some (.str (Lib.itoa n), []) := by
  refine enter fn47 np47 rfl ?_
  by_cases hm : n = -9223372036854775808
  · subst hm
    rw [itoa_min]
    have gg := trivial; repeat' first | simp (maxSteps := 2000000) (disch := omega) only [gg, b47, go_sem] | (refine br ?_ ?_ <;> intro gg <;> try (exfalso; omega)) | (refine And.intro ?_ ?_; focus omega) | omega
  by_cases hn : n < 0
  · have hh := h47 true (Lib.itoa n) 19 (-n) [] (by omega) (by omega) (by omega) (by simp) (fun _ => by
      unfold Lib.itoa
      rw [if_pos hn]
      have e : n.natAbs = (-n).toNat := by omega
      rw [e]
      simp) (fun h => (h rfl).elim) (fun _ => by omega)
    have e : 0 - n = -n := by omega
    have gg := trivial; repeat' first | simp (maxSteps := 2000000) (disch := omega) only [gg, b47, e, lp_head, go_sem] | (refine br ?_ ?_ <;> intro gg <;> try (exfalso; omega)) | (refine And.intro ?_ ?_; focus omega) | omega
  · have hh := h47 false (Lib.itoa n) 19 n [] (by omega) (by omega) (by omega) (by simp) (fun _ => by
      unfold Lib.itoa
      rw [if_neg hn]
      simp) (fun h => (h rfl).elim) (fun _ => by omega)
    have gg := trivial; repeat' first | simp (maxSteps := 2000000) (disch := omega) only [gg, b47, lp_head, go_sem] | (refine br ?_ ?_ <;> intro gg <;> try (exfalso; omega)) | (refine And.intro ?_ ?_; focus omega) | omega
end Go.Abs
namespace Go.Abs
open Go.Proofs Go.RowKit Go.ChangeShapes Go.WideShapes Go.Deep
set_option maxRecDepth 100000
set_option linter.unusedSimpArgs false
/-- a value that is all old memory's -/
abbrev RepW (w : World) : AVal → Value → Prop := Rep (fun _ => none) (fun b => b < w.heap.size) (fun _ => False) w
section
variable {H : Type} {enc : TypeId × Value → H} {w : World} {n : Nat} {cs : List Value} {x : DataW H × List MemPlace}
theorem lt_of_cell {a : Addr} {v : Value} (h : w.cell? a = some v) : a.block < w.heap.size ∧ a.spot = none := by
  unfold World.cell? at h
  split at h
  · rename_i c e f hb
    refine ⟨(Array.getElem?_eq_some_iff.1 hb).1, ?_⟩
    cases hs : a.spot with
    | none => rfl
    | some k => rw [hs] at h; simp at h
  · cases h
theorem cell_add {b o i : Nat} {sp : Option Nat} {v : Value} (h : w.cell? ((⟨b, o, sp⟩ : Addr).add i) = some v) (hs : sp = none) : w.cell? ⟨b, o + i, none⟩ = some v := by
  subst hs
  rw [← h, Addr.add_none]
/-- no string, slice or map of it is larger than the reach -/
def Light (d : DataW H) (t : TypeId) : Prop := ∀ k ∈ d.weights Tryz.prog t, k ≤ reachBytes
theorem reach_eq : reachBytes = 140737488351232 := by decide
theorem str_of (hw : Light x.1 9) (h : DataW.trod enc Tryz.prog w 0 (fun _ => true) true n 9 cs = some x) : ∃ (l : List UInt8) (v : Value), cs = [v] ∧ RepW w (.str l) v ∧ l.length ≤ 140737488351232 := by
  obtain ⟨s, h1, hx, h2⟩ := DataW.trod_string Tryz.underlying9 h
  have hwl : s.data.toList.length ≤ 140737488351232 := by
    rw [← reach_eq]
    refine hw _ ?_
    rw [hx]
    simp [DataW.weights]
  refine ⟨s.data.toList, .string s, h1, ?_, hwl⟩
  · have := Rep.str (ι := fun _ => none) (S := fun b => b < w.heap.size) (T := fun _ => False) (w := w) s.data.toList
    simpa using this
theorem int_of (h : DataW.trod enc Tryz.prog w 0 (fun _ => true) true n 3 cs = some x) : ∃ (z : Int) (v : Value), cs = [v] ∧ RepW w (.int .i64 z) v ∧ -9223372036854775808 ≤ z ∧ z ≤ 9223372036854775807 := by
  obtain ⟨z, h1, _, h2⟩ := DataW.trod_int Tryz.underlying3 h
  simp only [Lit.wf, Bool.and_eq_true, decide_eq_true_eq] at h2
  exact ⟨z, _, h1, .int _ _, h2.1, h2.2⟩
theorem bytes_of (hw : Light x.1 26) (h : DataW.trod enc Tryz.prog w 0 (fun _ => true) true n 26 cs = some x) : ∃ (b : BS) (v : Value), cs = [v] ∧ RepW w b.av v ∧ b.isTmp = false ∧ b.l.length ≤ 140737488351232 := by
  rcases open_ints Tryz.underlying26 Tryz.underlying5 (by kernel_rfl) h with ⟨hcs, _⟩ | ⟨a, l, c, zs, hcs, _, hl, hm, hz, hx, hcell, hwz⟩
  · exact ⟨.nil, _, hcs, .lit _, rfl, by simp [BS.l]⟩
  · simp only [if_true] at hz
    have hwt : zs.length ≤ 140737488351232 := by
      have hb : Tryz.prog.bytesOf 5 = 1 := by kernel_rfl
      rw [← reach_eq]
      refine hw _ ?_
      rw [hx]
      simp only [DataW.weights, Tryz.underlying26, hb, lits, List.length_map, List.length_take, List.length_drop]
      refine List.mem_cons.2 (.inl ?_)
      omega
    have hw : ∀ i, i < zs.length → 0 ≤ zs.getD i 0 ∧ zs.getD i 0 ≤ 255 := by
      intro i hi
      have := hwz (zs.getD i 0) (by rw [List.getD, List.getElem?_eq_getElem hi]; exact List.getElem_mem hi)
      simpa [Lit.wf, IntKind.min, IntKind.max, IntKind.signed, IntKind.bits] using this
    obtain ⟨b, o, sp⟩ := a
    have hsp : sp = none ∨ c = 0 := by
      rcases Nat.eq_zero_or_pos c with h0 | h0
      · exact .inr h0
      · exact .inl (by simpa [Addr.add] using (lt_of_cell (hcell 0 (by omega))).2)
    let bs := (zs.take l).map fun z => UInt8.ofNat z.toNat
    have hlen : bs.length = l := by simp [bs]; omega
    have hget : ∀ (i : Nat) (e : AVal), (bs.map AVal.byte)[i]? = some e → i < l ∧ e = .int .u8 (zs.getD i 0) := by
      intro i e he
      have hi : i < l := by
        have := (List.getElem?_eq_some_iff.1 he).1
        simpa [hlen] using this
      refine ⟨hi, ?_⟩
      have hiz : i < zs.length := by omega
      have e1 : zs[i]? = some zs[i] := List.getElem?_eq_getElem hiz
      have e2 : zs.getD i 0 = zs[i] := by rw [List.getD, e1]; rfl
      have hb := hw i hiz
      rw [e2] at hb ⊢
      have e3 : (bs.map AVal.byte)[i]? = some (AVal.byte (UInt8.ofNat zs[i].toNat)) := by
        simp only [bs, List.getElem?_map, List.getElem?_take, hi, if_true, e1, Option.map_some]
      rw [e3] at he
      cases he
      unfold AVal.byte
      congr 1
      simp
      omega
    have hcl : ∀ i, i < zs.length → w.cell? ⟨b, o + i, none⟩ = some (.int .u8 (zs.getD i 0)) := by
      intro i hi
      refine cell_add (hcell i hi) ?_
      rcases hsp with h | h
      · exact h
      · omega
    have hcl1 : ∀ i, i < zs.length → w.cell? ⟨b, o + i * 1, none⟩ = some (.int .u8 (zs.getD i 0)) := by
      intro i hi
      rw [Nat.mul_one]
      exact hcl i hi
    have := Rep.view (ι := fun _ => none) (S := fun b => b < w.heap.size) (T := fun _ => False) (w := w) 1 (bs.map AVal.byte) false false b o c sp (fun i _ => .int .u8 (zs.getD i 0)) hsp (by simp [hlen]; omega) (by simp)
      (fun i e he => by
        obtain ⟨hi, rfl⟩ := hget i e he
        exact (lt_of_cell (hcl i (by omega))).1)
      (fun i e he => by
        obtain ⟨hi, rfl⟩ := hget i e he
        rfl)
      (fun i e he => by
        obtain ⟨hi, rfl⟩ := hget i e he
        rfl)
      (fun i e j y he hy => by
        obtain ⟨hi, rfl⟩ := hget i e he
        match j, hy with
        | 0, _ => exact hcl1 i (by omega)
        | j + 1, hy => simp [AVal.cells] at hy)
      (fun i e j y he hy => by
        obtain ⟨hi, rfl⟩ := hget i e he
        match j, hy with
        | 0, hy =>
          simp [AVal.cells] at hy
          subst hy
          exact .int _ _
        | j + 1, hy => simp [AVal.cells] at hy)
    refine ⟨.mk false false bs, _, hcs, ?_, rfl, ?_⟩
    · rw [List.length_map, hlen] at this
      exact this
    · simp only [BS.l, hlen]
      omega
structure EntW (e : Ent) : Prop where
  kind : -9223372036854775808 ≤ e.kind ∧ e.kind ≤ 9223372036854775807
  mode : -9223372036854775808 ≤ e.mode ∧ e.mode ≤ 9223372036854775807
  uid : -9223372036854775808 ≤ e.uid ∧ e.uid ≤ 9223372036854775807
  gid : -9223372036854775808 ≤ e.gid ∧ e.gid ≤ 9223372036854775807
  time : -9223372036854775808 ≤ e.time ∧ e.time ≤ 9223372036854775807
  path : e.path.length ≤ 140737488351232
  link : e.link.length ≤ 140737488351232
  data : e.data.l.length ≤ 140737488351232
  tmp : e.data.isTmp = false
theorem ent_of (hw : Light x.1 36) (h : DataW.trod enc Tryz.prog w 0 (fun _ => true) true n 36 cs = some x) : ∃ e : Ent, cs.length = 8 ∧ EntW e ∧ ∀ (j : Nat) (c : AVal) (v : Value), e.av.cells[j]? = some c → cs[j]? = some v → RepW w c v := by
  obtain ⟨xs, m, _, hx, hl, hxl, hf⟩ := DataW.trod_struct Tryz.underlying36 h
  have h8 : Tryz.prog.cellsOf 36 = 8 := by kernel_rfl
  have h9 : Tryz.prog.cellsOf 9 = 1 := by kernel_rfl
  have h3 : Tryz.prog.cellsOf 3 = 1 := by kernel_rfl
  have h26 : Tryz.prog.cellsOf 26 = 1 := by kernel_rfl
  rw [h8] at hl
  match cs, hl, xs, hxl with
  | [c0, c1, c2, c3, c4, c5, c6, c7], _, [y0, y1, y2, y3, y4, y5, y6, y7], _ =>
    have hws : (DataW.agg [y0.1, y1.1, y2.1, y3.1, y4.1, y5.1, y6.1, y7.1] : DataW H).weights Tryz.prog 36 = y0.1.weights Tryz.prog 9 ++ (y1.1.weights Tryz.prog 3 ++ (y2.1.weights Tryz.prog 3 ++ (y3.1.weights Tryz.prog 3 ++ (y4.1.weights Tryz.prog 3 ++ (y5.1.weights Tryz.prog 3 ++ (y6.1.weights Tryz.prog 9 ++ (y7.1.weights Tryz.prog 26 ++ []))))))) := by
      simp only [DataW.weights, Tryz.underlying36, List.map_cons, List.map_nil, DataW.weightsEach]
    have hw8 : ∀ k ∈ y0.1.weights Tryz.prog 9 ++ (y1.1.weights Tryz.prog 3 ++ (y2.1.weights Tryz.prog 3 ++ (y3.1.weights Tryz.prog 3 ++ (y4.1.weights Tryz.prog 3 ++ (y5.1.weights Tryz.prog 3 ++ (y6.1.weights Tryz.prog 9 ++ (y7.1.weights Tryz.prog 26 ++ []))))))), k ≤ reachBytes := by
      rw [← hws]
      intro k hk
      refine hw k ?_
      rw [hx]
      exact hk
    have w0 : Light y0.1 9 := fun k hk => hw8 k (by simp [hk])
    have w6 : Light y6.1 9 := fun k hk => hw8 k (by simp [hk])
    have w7 : Light y7.1 26 := fun k hk => hw8 k (by simp [hk])
    have g0 := hf 0 _ rfl
    have g1 := hf 1 _ rfl
    have g2 := hf 2 _ rfl
    have g3 := hf 3 _ rfl
    have g4 := hf 4 _ rfl
    have g5 := hf 5 _ rfl
    have g6 := hf 6 _ rfl
    have g7 := hf 7 _ rfl
    simp only [h9, h3, h26, List.drop_zero, List.drop_succ_cons, List.take_succ_cons, List.take_zero, List.getElem?_cons_zero, List.getElem?_cons_succ] at g0 g1 g2 g3 g4 g5 g6 g7
    obtain ⟨p, v0, e0, r0, b0⟩ := str_of w0 g0
    obtain ⟨k, v1, e1, r1, b1⟩ := int_of g1
    obtain ⟨md, v2, e2, r2, b2⟩ := int_of g2
    obtain ⟨u, v3, e3, r3, b3⟩ := int_of g3
    obtain ⟨gd, v4, e4, r4, b4⟩ := int_of g4
    obtain ⟨t, v5, e5, r5, b5⟩ := int_of g5
    obtain ⟨lk, v6, e6, r6, b6⟩ := str_of w6 g6
    obtain ⟨d, v7, e7, r7, b7, b8⟩ := bytes_of w7 g7
    cases e0; cases e1; cases e2; cases e3; cases e4; cases e5; cases e6; cases e7
    refine ⟨⟨p, k, md, u, gd, t, lk, d⟩, rfl, ⟨b1, b2, b3, b4, b5, b0, b6, b8, b7⟩, fun j c v hc hv => ?_⟩
    match j, hc, hv with
    | 0, hc, hv => cases hc; cases hv; exact r0
    | 1, hc, hv => cases hc; cases hv; exact r1
    | 2, hc, hv => cases hc; cases hv; exact r2
    | 3, hc, hv => cases hc; cases hv; exact r3
    | 4, hc, hv => cases hc; cases hv; exact r4
    | 5, hc, hv => cases hc; cases hv; exact r5
    | 6, hc, hv => cases hc; cases hv; exact r6
    | 7, hc, hv => cases hc; cases hv; exact r7
    | j + 8, hc, hv => cases hv
instance : Inhabited Ent := ⟨⟨[], 0, 0, 0, 0, 0, [], .nil⟩⟩
/-- a list of entries: nil, or a row -/
def esAv : Option (List Ent) → AVal
  | none => .lit (.slice none 0 0)
  | some t => .view 8 (t.map Ent.av) false false
def esL : Option (List Ent) → List Ent
  | none => []
  | some t => t
theorem weightsAll_mem : ∀ (l : List (DataW H)) (t : TypeId) (d : DataW H), d ∈ l → ∀ k ∈ d.weights Tryz.prog t, k ∈ DataW.weightsAll Tryz.prog t l
  | [], _, d, hd => by cases hd
  | a :: r, t, d, hd => by
    intro k hk
    simp only [DataW.weightsAll, List.mem_append]
    rcases List.mem_cons.1 hd with rfl | hd
    · exact .inl hk
    · exact .inr (weightsAll_mem r t d hd k hk)
theorem ents_of (hw : Light x.1 22) (h : DataW.trod enc Tryz.prog w 0 (fun _ => true) true n 22 cs = some x) : ∃ (t : Option (List Ent)) (v : Value), cs = [v] ∧ RepW w (esAv t) v ∧ (∀ e ∈ esL t, EntW e) ∧ (esL t).length ≤ 140737488351232 := by
  rcases open_slice Tryz.underlying22 h with ⟨hcs, _⟩ | ⟨a, len, cap, m, n', D, Pl, hcs, _, hl, hm, hmm, hx, hi⟩
  · exact ⟨none, _, hcs, .lit _, by simp [esL], by simp [esL]⟩
  · have h8 : Tryz.prog.cellsOf 36 = 8 := by kernel_rfl
    simp only [if_true] at hmm
    subst hmm
    rw [h8] at hi
    have hb : Tryz.prog.bytesOf 36 = 96 := by kernel_rfl
    have hws : x.1.weights Tryz.prog 22 = (((List.range len).map D).length + ((List.range (m - len)).map fun j => D (len + j)).length) * 96 :: (DataW.weightsAll Tryz.prog 36 ((List.range len).map D) ++ DataW.weightsAll Tryz.prog 36 ((List.range (m - len)).map fun j => D (len + j))) := by
      rw [hx]
      simp only [DataW.weights, Tryz.underlying22, hb]
    have hm96 : m * 96 ≤ 140737488351232 := by
      rw [← reach_eq]
      refine hw _ ?_
      rw [hws]
      simp only [List.length_map, List.length_range]
      refine List.mem_cons.2 (.inl ?_)
      congr 1
      omega
    have hwD : ∀ i, i < m → Light (D i) 36 := by
      intro i him k hk
      refine hw k ?_
      rw [hws]
      refine List.mem_cons.2 (.inr (List.mem_append.2 ?_))
      by_cases hil : i < len
      · exact .inl (weightsAll_mem _ _ _ (List.mem_map.2 ⟨i, List.mem_range.2 hil, rfl⟩) k hk)
      · refine .inr (weightsAll_mem _ _ (D i) (List.mem_map.2 ⟨i - len, List.mem_range.2 (by omega), ?_⟩) k hk)
        show D (len + (i - len)) = D i
        congr 1
        omega
    obtain ⟨V, hV⟩ := choose_lt (α := Ent × List Value) (n := m) (p := fun i z => w.cells? 0 (a.add (i * 8)) 8 = some z.2 ∧ z.2.length = 8 ∧ EntW z.1 ∧ ∀ (j : Nat) (c : AVal) (v : Value), z.1.av.cells[j]? = some c → z.2[j]? = some v → RepW w c v) (fun i him => by
      obtain ⟨cs', h1, h2⟩ := hi i him
      obtain ⟨e, e1, e2, e3⟩ := ent_of (hwD i him) h2
      exact ⟨(e, cs'), h1, e1, e2, e3⟩)
    obtain ⟨b, o, sp⟩ := a
    have hsp : sp = none ∨ m = 0 := by
      rcases Nat.eq_zero_or_pos m with h0 | h0
      · exact .inr h0
      · obtain ⟨h1, h2, _⟩ := hV 0 h0
        obtain ⟨_, _, h3⟩ := World.cells?_some h1
        have h4 := h3 0 (by omega)
        rw [List.getElem?_eq_getElem (by omega)] at h4
        exact .inl (by simpa [Addr.add] using (lt_of_cell h4).2)
    let t := (List.range len).map fun i => (V i).1
    have hlen : t.length = len := by simp [t]
    have hget : ∀ (i : Nat) (e : AVal), (t.map Ent.av)[i]? = some e → i < len ∧ e = (V i).1.av := by
      intro i e he
      have hi : i < len := by
        have := (List.getElem?_eq_some_iff.1 he).1
        simpa [hlen] using this
      refine ⟨hi, ?_⟩
      simp [t, hi] at he
      exact he.symm
    have hcell : ∀ (i j : Nat), i < len → j < 8 → w.cell? ⟨b, o + i * 8 + j, none⟩ = some ((V i).2.getD j undef) := by
      intro i j hi hj
      obtain ⟨h1, h2, _⟩ := hV i (by omega)
      obtain ⟨_, _, h3⟩ := World.cells?_some h1
      have h4 := h3 j hj
      have hs : sp = none := by
        rcases hsp with h | h
        · exact h
        · omega
      subst hs
      rw [Addr.add_none, Addr.add_none] at h4
      rw [h4, List.getD, List.getElem?_eq_getElem (by omega)]
      rfl
    have hcn : ∀ e : Ent, e.av.cells.length = 8 := fun _ => rfl
    have := Rep.view (ι := fun _ => none) (S := fun b => b < w.heap.size) (T := fun _ => False) (w := w) 8 (t.map Ent.av) false false b o m sp (fun i j => (V i).2.getD j undef) hsp (by simp [hlen]; omega) (by simp)
      (fun i e he => by
        obtain ⟨hi, rfl⟩ := hget i e he
        exact (lt_of_cell (hcell i 0 hi (by omega))).1)
      (fun i e he => by
        obtain ⟨hi, rfl⟩ := hget i e he
        rfl)
      (fun i e he => by
        obtain ⟨hi, rfl⟩ := hget i e he
        have ht := (hV i (by omega)).2.2.1.tmp
        have hf : (V i).1.data.av.flat = true := by rw [flat_bs, ht]; rfl
        simp only [AVal.closed, cells_ent, List.all_cons, List.all_nil, flat_str, flat_int, hf, Bool.and_true])
      (fun i e j y he hy => by
        obtain ⟨hi, rfl⟩ := hget i e he
        have hj : j < 8 := by
          have := (List.getElem?_eq_some_iff.1 hy).1
          rwa [hcn] at this
        exact hcell i j hi hj)
      (fun i e j y he hy => by
        obtain ⟨hi, rfl⟩ := hget i e he
        have hj : j < 8 := by
          have := (List.getElem?_eq_some_iff.1 hy).1
          rwa [hcn] at this
        obtain ⟨_, h2, _, h4⟩ := hV i (by omega)
        refine h4 j y _ hy ?_
        rw [List.getD, List.getElem?_eq_getElem (by omega)]
        rfl)
    refine ⟨some t, _, hcs, ?_, ?_, ?_⟩
    · rw [List.length_map, hlen] at this
      exact this
    · intro e he
      simp only [esL, t, List.mem_map, List.mem_range] at he
      obtain ⟨i, hi, rfl⟩ := he
      exact (hV i (by omega)).2.2.1
    · simp only [esL, hlen]
      omega
end
end Go.Abs
namespace Go.Abs
open Am
set_option maxRecDepth 10000
set_option linter.unusedSimpArgs false
theorem large_small : ∀ (t : List Ent) (n : Int), 0 ≤ n → largeB n t = false → n + 512 * t.length ≤ 65536 + (if t = [] then n else 0) ∧ ∀ e ∈ t, e.data.l.length ≤ 65536 ∧ e.path.length ≤ 65536 ∧ e.link.length ≤ 65536
  | [], n, _, _ => by simp; omega
  | e :: t, n, h0, h => by
    unfold largeB at h
    by_cases hc : 65536 < n + (512 + (e.data.l.length : Int) + e.path.length + e.link.length)
    · rw [if_pos hc] at h; cases h
    rw [if_neg hc] at h
    obtain ⟨h1, h2⟩ := large_small t _ (by omega) h
    refine ⟨?_, fun x hx => ?_⟩
    · simp only [List.length_cons, reduceCtorEq, if_false]
      split at h1
      · rename_i ht
        subst ht
        simp
        omega
      · omega
    · rcases List.mem_cons.1 hx with rfl | hx
      · omega
      · exact h2 x hx
theorem large_len {t : List Ent} (h : largeB 0 t = false) : t.length ≤ 128 := by
  have := (large_small t 0 (by omega) h).1
  split at this <;> omega
theorem entL_of {e : Ent} (h : EntW e) : EntL e := ⟨h.path, h.link, h.data⟩
theorem entOk_of {e : Ent} (h : EntW e) (h1 : e.data.l.length ≤ 65536 ∧ e.path.length ≤ 65536 ∧ e.link.length ≤ 65536) : EntOk e := ⟨by omega, by omega, by omega, h.tmp⟩
end Go.Abs
namespace Go.Abs
open Am
set_option maxRecDepth 10000
set_option linter.unusedSimpArgs false
abbrev zs (n : Nat) : List UInt8 := List.replicate n 0
/-- digits in octal -/
def octD : Nat → Int → List UInt8
  | 0, _ => []
  | k + 1, n => octD k (n / 8) ++ [UInt8.ofNat (48 + n % 8).toNat]
theorem octD_length : ∀ (k : Nat) (n : Int), (octD k n).length = k
  | 0, _ => rfl
  | k + 1, n => by simp [octD, octD_length k]
theorem set_split {α : Type} {a r : List α} {x y : α} {n : Nat} (h : n = a.length) : (a ++ x :: r).set n y = a ++ y :: r := by subst h; simp
theorem zs_add (m n : Nat) : zs (m + n) = zs m ++ zs n := (List.replicate_append_replicate ..).symm
theorem zs_split {m n : Nat} (h : m ≤ n) : zs n = zs m ++ zs (n - m) := by
  rw [← zs_add]
  congr 1
  omega
theorem octW_mid : ∀ (k : Nat) (a x c : List UInt8) (pos : Nat) (n : Int), pos = a.length → x.length = k → octW (a ++ x ++ c) pos k n = a ++ octD k n ++ c
  | 0, a, x, c, pos, n, h1, h2 => by
    have : x = [] := List.eq_nil_of_length_eq_zero h2
    subst this
    rfl
  | k + 1, a, x, c, pos, n, h1, h2 => by
    obtain ⟨y, z, rfl⟩ : ∃ y z, x = y ++ [z] := by
      refine ⟨x.take k, x.getD k 0, ?_⟩
      have hlt : k < x.length := by omega
      have e : x.getD k 0 = x[k] := by rw [List.getD, List.getElem?_eq_getElem hlt]; rfl
      rw [e, List.take_append_getElem hlt, List.take_of_length_le (by omega)]
    have hy : y.length = k := by simpa using h2
    have hs : (a ++ (y ++ [z]) ++ c).set (pos + k) (UInt8.ofNat (48 + n % 8).toNat) = a ++ y ++ (UInt8.ofNat (48 + n % 8).toNat :: c) := by
      have : a ++ (y ++ [z]) ++ c = (a ++ y) ++ z :: c := by simp
      rw [this, set_split (by simp [h1, hy])]
    unfold octW
    rw [hs, octW_mid k a y _ pos _ h1 hy]
    simp [octD]
theorem octW_tail {A : List UInt8} {n pos k : Nat} {v : Int} (j : Nat) (h1 : pos = A.length + j) (h2 : j + k ≤ n) : octW (A ++ zs n) pos k v = (A ++ zs j ++ octD k v) ++ zs (n - j - k) := by
  have e : A ++ zs n = (A ++ zs j) ++ zs k ++ zs (n - j - k) := by
    rw [zs_split (m := j) (n := n) (by omega), zs_split (m := k) (n := n - j) (by omega)]
    simp only [List.append_assoc]
  rw [e, octW_mid k _ _ _ pos v (by simp [h1]) (by simp)]
theorem putA_tail {A xs : List UInt8} {n pos k : Nat} (j : Nat) (h1 : pos = A.length + j) (h2 : j + k ≤ n) (h3 : xs.length ≤ k) : putA (A ++ zs n) pos k xs = (A ++ zs j ++ xs) ++ zs (n - j - xs.length) := by
  have e : A ++ zs n = (A ++ zs j) ++ (zs xs.length ++ zs (n - j - xs.length)) := by
    rw [zs_split (m := j) (n := n) (by omega), zs_split (m := xs.length) (n := n - j) (by omega)]
    simp only [List.append_assoc]
  have hm : min xs.length k = xs.length := by omega
  unfold putA
  rw [hm, List.take_of_length_le (Nat.le_refl _), e]
  have h4 : ((A ++ zs j) ++ (zs xs.length ++ zs (n - j - xs.length))).take pos = A ++ zs j := by
    rw [List.take_left' (by simp [h1])]
  have h5 : ((A ++ zs j) ++ (zs xs.length ++ zs (n - j - xs.length))).drop (pos + xs.length) = zs (n - j - xs.length) := by
    rw [← List.append_assoc, List.drop_left' (by simp [h1]; omega)]
  rw [h4, h5]
theorem set_tail {A : List UInt8} {n pos : Nat} {v : UInt8} (j : Nat) (h1 : pos = A.length + j) (h2 : j + 1 ≤ n) : (A ++ zs n).set pos v = (A ++ zs j ++ [v]) ++ zs (n - j - 1) := by
  have e : A ++ zs n = (A ++ zs j) ++ 0 :: zs (n - j - 1) := by
    rw [zs_split (m := j) (n := n) (by omega), zs_split (m := 1) (n := n - j) (by omega)]
    simp only [List.append_assoc]
    rfl
  rw [e, set_split (by simp [h1])]
  simp
/-- a text, filled up -/
def fillT (s : List UInt8) (n : Nat) : List UInt8 := s ++ zs (n - s.length)
theorem fillT_length {s : List UInt8} {n : Nat} (h : s.length ≤ n) : (fillT s n).length = n := by
  simp [fillT]
  omega
/-- the fields ahead of the sum; behind it -/
def blkA (h : Hd) (name : List UInt8) : List UInt8 := fillT name 100 ++ octD 7 h.mode ++ [0] ++ octD 7 h.uid ++ [0] ++ octD 7 h.gid ++ [0] ++ octD 11 h.size ++ [0] ++ octD 11 h.time ++ [0]
def blkZ (h : Hd) (pre : List UInt8) : List UInt8 := [h.type] ++ fillT h.link 100 ++ magicB ++ zs 64 ++ octD 7 0 ++ [0] ++ octD 7 0 ++ [0] ++ fillT pre 155 ++ zs 12
theorem blkA_length {h : Hd} {name : List UInt8} (h1 : name.length ≤ 100) : (blkA h name).length = 148 := by
  simp [blkA, fillT_length h1, octD_length]
theorem blkZ_length {h : Hd} {pre : List UInt8} (h1 : pre.length ≤ 155) (h2 : h.link.length ≤ 100) : (blkZ h pre).length = 356 := by
  simp [blkZ, fillT_length h1, fillT_length h2, octD_length, magicB]
theorem zs_one : ([0] : List UInt8) = zs 1 := rfl
theorem encH_eq {h : Hd} {pre name : List UInt8} (h1 : name.length ≤ 100) (h2 : pre.length ≤ 155) (h3 : h.link.length ≤ 100) : encH h pre name = blkA h name ++ zs 8 ++ blkZ h pre := by
  have e0 : zeros512 = [] ++ zs 512 := rfl
  have hm : magicB.length = 8 := rfl
  unfold encH
  simp only []
  rw [e0, putA_tail 0 (by simp) (by omega) (by omega)]
  rw [octW_tail (100 - name.length) (by simp; omega) (by omega)]
  rw [octW_tail 1 (by simp [octD_length]; omega) (by omega)]
  rw [octW_tail 1 (by simp [octD_length]; omega) (by omega)]
  rw [octW_tail 1 (by simp [octD_length]; omega) (by omega)]
  rw [octW_tail 1 (by simp [octD_length]; omega) (by omega)]
  rw [set_tail 9 (by simp [octD_length]; omega) (by omega)]
  rw [putA_tail 0 (by simp [octD_length]; omega) (by omega) (by omega)]
  rw [putA_tail (100 - h.link.length) (by simp [octD_length]; omega) (by omega) (by rw [hm]; omega)]
  rw [octW_tail 64 (by simp [octD_length, hm]; omega) (by rw [hm]; omega)]
  rw [octW_tail 1 (by simp [octD_length, hm]; omega) (by rw [hm]; omega)]
  rw [putA_tail 1 (by simp [octD_length, hm]; omega) (by rw [hm]; omega) (by omega)]
  have e9 : zs 9 = [0] ++ zs 8 := rfl
  have en : 512 - 0 - name.length - (100 - name.length) - 7 - 1 - 7 - 1 - 7 - 1 - 11 - 1 - 11 - 9 - 1 - 0 - h.link.length - (100 - h.link.length) - magicB.length - 64 - 7 - 1 - 7 - 1 - pre.length = (155 - pre.length) + 12 := by rw [hm]; omega
  rw [en]
  have e0' : zs 0 = [] := rfl
  unfold blkA blkZ fillT
  rw [e9, zs_add (155 - pre.length) 12, ← zs_one, e0']
  simp only [List.append_assoc, List.nil_append, List.append_nil]
/-- the sum -/
def sumV (h : Hd) (pre name : List UInt8) : Int := 256 + sumL 0 (blkA h name ++ zs 8 ++ blkZ h pre)
def sumD (n : Int) : List UInt8 := octD 6 n ++ [0, 32]
/-- a block, field by field -/
def blk (h : Hd) (pre name : List UInt8) : List UInt8 := blkA h name ++ sumD (sumV h pre name) ++ blkZ h pre
theorem encB_blk {h : Hd} (h1 : (splitN h.path).2.1.length ≤ 100) (h2 : (splitN h.path).1.length ≤ 155) (h3 : h.link.length ≤ 100) : encB h = blk h (splitN h.path).1 (splitN h.path).2.1 := by
  unfold encB
  simp only []
  rw [encH_eq h1 h2 h3]
  generalize (splitN h.path).1 = pre at *
  generalize (splitN h.path).2.1 = name at *
  have e : blkA h name ++ zs 8 ++ blkZ h pre = blkA h name ++ zs 6 ++ ([0, 0] ++ blkZ h pre) := by
    have : zs 8 = zs 6 ++ [0, 0] := rfl
    rw [this]
    simp
  show (octW _ 148 6 (sumV h pre name)).set 155 32 = _
  rw [e, octW_mid 6 _ _ _ 148 _ (blkA_length h1).symm (by simp)]
  have e2 : blkA h name ++ octD 6 (sumV h pre name) ++ ([0, 0] ++ blkZ h pre) = (blkA h name ++ octD 6 (sumV h pre name) ++ [0]) ++ 0 :: blkZ h pre := by simp
  rw [e2, set_split (by simp [blkA_length h1, octD_length])]
  simp [blk, sumD]
theorem aheadOf_app (x : UInt8) : ∀ (s r : List UInt8), (∀ c ∈ s, c ≠ x) → aheadOf x (s ++ r) = s ++ aheadOf x r
  | [], r, _ => rfl
  | c :: s, r, h => by
    have hc : c ≠ x := h c (by simp)
    show (if c = x then [] else c :: aheadOf x (s ++ r)) = _
    rw [if_neg hc, aheadOf_app x s r fun y hy => h y (by simp [hy])]
    rfl
theorem aheadOf_zs (n : Nat) : aheadOf 0 (zs n) = [] := by
  cases n <;> simp [zs, aheadOf, List.replicate_succ]
theorem aheadOf_fill {s : List UInt8} {n : Nat} (h : ∀ c ∈ s, c ≠ 0) : aheadOf 0 (fillT s n) = s := by
  unfold fillT
  rw [aheadOf_app 0 s _ h, aheadOf_zs, List.append_nil]
theorem numF_app : ∀ (a b : List UInt8) (acc : Int), numF acc (a ++ b) = numF (numF acc a) b
  | [], b, acc => rfl
  | c :: a, b, acc => by
    show numF (acc * 8 + (c.toNat : Int) % 8) (a ++ b) = _
    rw [numF_app a b]
    rfl
theorem oct_digit (n : Int) : ((UInt8.ofNat (48 + n % 8).toNat).toNat : Int) % 8 = n % 8 := by
  have h : (UInt8.ofNat (48 + n % 8).toNat).toNat = (48 + n % 8).toNat := UInt8.toNat_ofNat_of_lt' (by simp [UInt8.size]; omega)
  rw [h]
  omega
theorem numF_oct : ∀ (k : Nat) (n : Int), 0 ≤ n → n < 8 ^ k → numF 0 (octD k n) = n
  | 0, n, h0, h1 => by
    simp at h1
    have : n = 0 := by omega
    rw [this]
    rfl
  | k + 1, n, h0, h1 => by
    have hd : n / 8 < 8 ^ k := by
      rw [Int.pow_succ] at h1
      omega
    unfold octD
    rw [numF_app, numF_oct k (n / 8) (by omega) hd]
    show n / 8 * 8 + ((UInt8.ofNat (48 + n % 8).toNat).toNat : Int) % 8 = n
    rw [oct_digit]
    omega
theorem dt_mid {α : Type} {a x c : List α} {i n : Nat} (h1 : i = a.length) (h2 : n = x.length) : ((a ++ (x ++ c)).drop i).take n = x := by
  rw [List.drop_left' h1.symm, List.take_left' h2.symm]
theorem ascii_ne {s : List UInt8} (h : asciiB s = true) : ∀ c ∈ s, c ≠ 0 := by
  intro c hc
  unfold asciiB at h
  have := List.all_eq_true.1 h c hc
  unfold okByte at this
  rintro rfl
  simp at this
theorem spAt_ok {p : List UInt8} : ∀ (k i : Nat), (spAt p k i).2.2 = true → ∃ j, spOk p j = true ∧ spAt p k i = (p.take j, p.drop (j + 1), true)
  | 0, _, h => by cases h
  | k + 1, i, h => by
    unfold spAt at h ⊢
    by_cases c : spOk p i = true
    · rw [if_pos c]
      exact ⟨i, c, rfl⟩
    · rw [if_neg c] at h ⊢
      exact spAt_ok k (i + 1) h
/-- a path's parts -/
theorem splitN_ok {p : List UInt8} (h : (splitN p).2.2 = true) : asciiB p = true ∧ (splitN p).1.length ≤ 155 ∧ (splitN p).2.1.length ≤ 100 ∧ (splitN p).2.1 ≠ [] ∧
    ((splitN p).1 = [] ∧ (splitN p).2.1 = p ∨ (splitN p).1 ≠ [] ∧ p = (splitN p).1 ++ [47] ++ (splitN p).2.1) := by
  unfold splitN at h ⊢
  by_cases c1 : p = [] ∨ asciiB p = false
  · rw [if_pos c1] at h; cases h
  rw [if_neg c1] at h ⊢
  have ha : asciiB p = true := by
    cases ha : asciiB p with
    | true => rfl
    | false => exact (c1 (.inr ha)).elim
  have hn : p ≠ [] := fun hp => c1 (.inl hp)
  by_cases c2 : p.length ≤ 100
  · rw [if_pos c2]
    exact ⟨ha, by simp, c2, hn, .inl ⟨rfl, rfl⟩⟩
  rw [if_neg c2] at h ⊢
  obtain ⟨j, hj, he⟩ := spAt_ok _ _ h
  rw [he]
  unfold spOk at hj
  simp only [Bool.and_eq_true, decide_eq_true_eq] at hj
  obtain ⟨⟨⟨⟨j1, j2⟩, j3⟩, j4⟩, j5⟩ := hj
  refine ⟨ha, by simp; omega, by simp; omega, ?_, .inr ⟨?_, ?_⟩⟩
  · intro hd
    have := congrArg List.length hd
    rw [List.length_drop, List.length_nil] at this
    omega
  · intro hd
    have := congrArg List.length hd
    rw [List.length_take, List.length_nil] at this
    omega
  · have hlt : j < p.length := by omega
    have hg : p[j] = 47 := by
      have := List.getElem?_eq_getElem hlt
      rw [this] at j1
      exact Option.some.inj j1
    have : p = p.take j ++ p.drop j := (List.take_append_drop j p).symm
    rw [List.drop_eq_getElem_cons hlt, hg] at this
    simpa using this
structure FitsH (h : Hd) : Prop where
  mode : 0 ≤ h.mode ∧ h.mode < 2097152
  uid : 0 ≤ h.uid ∧ h.uid < 2097152
  gid : 0 ≤ h.gid ∧ h.gid < 2097152
  size : 0 ≤ h.size ∧ h.size < 8589934592
  time : 0 ≤ h.time ∧ h.time < 8589934592
  link : h.link.length ≤ 100 ∧ asciiB h.link = true
theorem linkB_iff {l : List UInt8} (h : linkB l = true) : l ≠ [] ∧ l.length ≤ 100 ∧ asciiB l = true := by
  unfold linkB at h
  simp only [Bool.and_eq_true, decide_eq_true_eq] at h
  exact ⟨h.1.1, by omega, h.2⟩
theorem fitsH_of {h : Hd} (hf : fitsB h = true) : FitsH h := by
  unfold fitsB at hf
  simp only [Bool.and_eq_true] at hf
  obtain ⟨⟨⟨⟨⟨f1, f2⟩, f3⟩, f4⟩, f5⟩, f6⟩ := hf
  refine ⟨idB_iff.1 f1, idB_iff.1 f2, idB_iff.1 f3, timeB_iff.1 f4, timeB_iff.1 f5, ?_⟩
  have hn : h.link = [] → h.link.length ≤ 100 ∧ asciiB h.link = true := by
    intro hl
    rw [hl]
    exact ⟨by simp, rfl⟩
  split at f6
  · simp only [Bool.and_eq_true] at f6
    exact (linkB_iff f6.1).2
  · split at f6
    · simp only [Bool.and_eq_true, decide_eq_true_eq] at f6
      exact hn f6.1
    · split at f6
      · exact hn (by simpa using f6)
      · cases f6
theorem decH_blk {h : Hd} {pre name : List UInt8} (s : List UInt8) (hs : s.length = 8) (hf : FitsH h) (h1 : name.length ≤ 100) (h2 : pre.length ≤ 155) (h3 : ∀ c ∈ name, c ≠ 0) (h4 : ∀ c ∈ pre, c ≠ 0) : decH (blkA h name ++ s ++ blkZ h pre) = ⟨if pre = [] then name else pre ++ [47] ++ name, h.mode, h.uid, h.gid, h.size, h.time, h.type, h.link⟩ := by
  have l1 := fillT_length h1
  have l2 := fillT_length h2
  have l3 := fillT_length hf.link.1
  have o7 := octD_length 7
  have o11 := octD_length 11
  have hm : magicB.length = 8 := rfl
  have p7 : (8 : Int) ^ 7 = 2097152 := rfl
  have p11 : (8 : Int) ^ 11 = 8589934592 := rfl
  have c1 : textF (blkA h name ++ s ++ blkZ h pre) 0 100 = name := by
    unfold textF blkA
    have e : ((fillT name 100 ++ octD 7 h.mode ++ [0] ++ octD 7 h.uid ++ [0] ++ octD 7 h.gid ++ [0] ++ octD 11 h.size ++ [0] ++ octD 11 h.time ++ [0] ++ s ++ blkZ h pre).drop 0).take 100 = fillT name 100 := by
      simp only [List.append_assoc]
      exact dt_mid (a := []) (by simp) l1.symm
    rw [e, aheadOf_fill h3]
  have c2 : numF 0 (((blkA h name ++ s ++ blkZ h pre).drop 100).take 7) = h.mode := by
    have e : ((blkA h name ++ s ++ blkZ h pre).drop 100).take 7 = octD 7 h.mode := by
      unfold blkA
      simp only [List.append_assoc]
      exact dt_mid (a := fillT name 100) (by simp [l1]) (o7 _).symm
    rw [e, numF_oct 7 _ hf.mode.1 (by rw [p7]; exact hf.mode.2)]
  have c3 : numF 0 (((blkA h name ++ s ++ blkZ h pre).drop 108).take 7) = h.uid := by
    have e : ((blkA h name ++ s ++ blkZ h pre).drop 108).take 7 = octD 7 h.uid := by
      unfold blkA
      have := dt_mid (a := fillT name 100 ++ octD 7 h.mode ++ [0]) (x := octD 7 h.uid) (c := [0] ++ octD 7 h.gid ++ [0] ++ octD 11 h.size ++ [0] ++ octD 11 h.time ++ [0] ++ s ++ blkZ h pre) (i := 108) (n := 7) (by simp [l1, o7]) (o7 _).symm
      simpa only [List.append_assoc] using this
    rw [e, numF_oct 7 _ hf.uid.1 (by rw [p7]; exact hf.uid.2)]
  have c4 : numF 0 (((blkA h name ++ s ++ blkZ h pre).drop 116).take 7) = h.gid := by
    have e : ((blkA h name ++ s ++ blkZ h pre).drop 116).take 7 = octD 7 h.gid := by
      unfold blkA
      have := dt_mid (a := fillT name 100 ++ octD 7 h.mode ++ [0] ++ octD 7 h.uid ++ [0]) (x := octD 7 h.gid) (c := [0] ++ octD 11 h.size ++ [0] ++ octD 11 h.time ++ [0] ++ s ++ blkZ h pre) (i := 116) (n := 7) (by simp [l1, o7]) (o7 _).symm
      simpa only [List.append_assoc] using this
    rw [e, numF_oct 7 _ hf.gid.1 (by rw [p7]; exact hf.gid.2)]
  have c5 : numF 0 (((blkA h name ++ s ++ blkZ h pre).drop 124).take 11) = h.size := by
    have e : ((blkA h name ++ s ++ blkZ h pre).drop 124).take 11 = octD 11 h.size := by
      unfold blkA
      have := dt_mid (a := fillT name 100 ++ octD 7 h.mode ++ [0] ++ octD 7 h.uid ++ [0] ++ octD 7 h.gid ++ [0]) (x := octD 11 h.size) (c := [0] ++ octD 11 h.time ++ [0] ++ s ++ blkZ h pre) (i := 124) (n := 11) (by simp [l1, o7]) (o11 _).symm
      simpa only [List.append_assoc] using this
    rw [e, numF_oct 11 _ hf.size.1 (by rw [p11]; exact hf.size.2)]
  have c6 : numF 0 (((blkA h name ++ s ++ blkZ h pre).drop 136).take 11) = h.time := by
    have e : ((blkA h name ++ s ++ blkZ h pre).drop 136).take 11 = octD 11 h.time := by
      unfold blkA
      have := dt_mid (a := fillT name 100 ++ octD 7 h.mode ++ [0] ++ octD 7 h.uid ++ [0] ++ octD 7 h.gid ++ [0] ++ octD 11 h.size ++ [0]) (x := octD 11 h.time) (c := [0] ++ s ++ blkZ h pre) (i := 136) (n := 11) (by simp [l1, o7, o11]) (o11 _).symm
      simpa only [List.append_assoc] using this
    rw [e, numF_oct 11 _ hf.time.1 (by rw [p11]; exact hf.time.2)]
  have hA : (blkA h name ++ s).length = 156 := by simp [blkA_length h1, hs]
  have c7 : (blkA h name ++ s ++ blkZ h pre).getD 156 0 = h.type := by
    rw [List.getD, List.getElem?_append_right (by omega), hA]
    rfl
  have c8 : textF (blkA h name ++ s ++ blkZ h pre) 157 100 = h.link := by
    have e : ((blkA h name ++ s ++ blkZ h pre).drop 157).take 100 = fillT h.link 100 := by
      have := dt_mid (a := blkA h name ++ s ++ [h.type]) (x := fillT h.link 100) (c := magicB ++ zs 64 ++ octD 7 0 ++ [0] ++ octD 7 0 ++ [0] ++ fillT pre 155 ++ zs 12) (i := 157) (n := 100) (by rw [List.length_append, hA]; rfl) l3.symm
      unfold blkZ
      simpa only [List.append_assoc] using this
    unfold textF
    rw [e, aheadOf_fill (ascii_ne hf.link.2)]
  have c9 : textF (blkA h name ++ s ++ blkZ h pre) 345 155 = pre := by
    have e : ((blkA h name ++ s ++ blkZ h pre).drop 345).take 155 = fillT pre 155 := by
      have := dt_mid (a := blkA h name ++ s ++ ([h.type] ++ fillT h.link 100 ++ magicB ++ zs 64 ++ octD 7 0 ++ [0] ++ octD 7 0 ++ [0])) (x := fillT pre 155) (c := zs 12) (i := 345) (n := 155) (by rw [List.length_append, hA]; simp [l3, hm, o7]) l2.symm
      unfold blkZ
      simpa only [List.append_assoc] using this
    unfold textF
    rw [e, aheadOf_fill h4]
  unfold decH
  rw [c1, c2, c3, c4, c5, c6, c7, c8, c9]
theorem encOk_parts {h : Hd} (hok : encOk h = true) : (splitN h.path).2.2 = true ∧ FitsH h := by
  unfold encOk at hok
  simp only [Bool.and_eq_true] at hok
  exact ⟨hok.1, fitsH_of hok.2⟩
/-- THERE AND BACK: headers -/
theorem decH_encB {h : Hd} (hok : encOk h = true) : decH (encB h) = h := by
  obtain ⟨k1, hf⟩ := encOk_parts hok
  obtain ⟨ha, s1, s2, s3, s4⟩ := splitN_ok k1
  rw [encB_blk s2 s1 hf.link.1]
  have ne := ascii_ne ha
  have n1 : ∀ c ∈ (splitN h.path).2.1, c ≠ 0 := by
    intro c hc
    rcases s4 with ⟨_, e⟩ | ⟨_, e⟩
    · exact ne c (by rw [← e]; exact hc)
    · exact ne c (by rw [e]; simp [hc])
  have n2 : ∀ c ∈ (splitN h.path).1, c ≠ 0 := by
    intro c hc
    rcases s4 with ⟨e, _⟩ | ⟨_, e⟩
    · rw [e] at hc; cases hc
    · exact ne c (by rw [e]; simp [hc])
  unfold blk
  rw [decH_blk _ (by simp [sumD, octD_length]) hf s2 s1 n1 n2]
  rcases s4 with ⟨e1, e2⟩ | ⟨e1, e2⟩
  · rw [if_pos e1, e2]
  · rw [if_neg e1, ← e2]
theorem decOk_encB {h : Hd} (hok : encOk h = true) : decOk (encB h) = true := by
  unfold decOk
  rw [decH_encB hok, hok]
  simp
end Go.Abs
namespace Go.Abs
open Am
set_option maxRecDepth 10000
set_option linter.unusedSimpArgs false
/-- what an entry's place holds: its data nil, or a row of one's own -/
def entCs (e : Ent) (d : AVal) : List AVal := [.str e.path, .int .i64 e.kind, .int .i64 e.mode, .int .i64 e.uid, .int .i64 e.gid, .int .i64 e.time, .str e.link, d]
attribute [go_sem] entCs
theorem numErr_eq : numErr = .iface 227 .junk := rfl
theorem s144_3n (e : Ent) (s : List UInt8) (hs : s.length ≤ 1000000) : callT AA 144 [.ptr 0 3, .str s] [(0, .var (entCs e (.lit (.slice none 0 0))))] = some (.bool (atoiOk s), [(0, .var (entCs { e with uid := atoiV s } (.lit (.slice none 0 0))))]) := by
  have h := call118 (s := s) (by omega)
  rw [numErr_eq] at h
  generalize atoiV s = N at *
  refine enter fn144 np144 rfl ?_
  cases c : atoiOk s with
  | true =>
    rw [c] at h
    have gg := trivial; repeat' first | simp (maxSteps := 2000000) (disch := omega) only [gg, b144, h, go_sem] | (refine br ?_ ?_ <;> intro gg <;> try (exfalso; omega)) | (refine And.intro ?_ ?_; focus omega) | omega
  | false =>
    rw [c] at h
    have gg := trivial; repeat' first | simp (maxSteps := 2000000) (disch := omega) only [gg, b144, h, Bool.false_eq_true, go_sem] | (refine br ?_ ?_ <;> intro gg <;> try (exfalso; omega)) | (refine And.intro ?_ ?_; focus omega) | omega
theorem s144_3o (e : Ent) (s : List UInt8) (n : Nat) (ds : List AVal) (hs : s.length ≤ 1000000) : callT AA 144 [.ptr 0 3, .str s] [(0, .var (entCs e (.own 1 1 0 n false))), (1, .row ds 1)] = some (.bool (atoiOk s), [(0, .var (entCs { e with uid := atoiV s } (.own 1 1 0 n false))), (1, .row ds 1)]) := by
  have h := call118 (s := s) (by omega)
  rw [numErr_eq] at h
  generalize atoiV s = N at *
  refine enter fn144 np144 rfl ?_
  cases c : atoiOk s with
  | true =>
    rw [c] at h
    have gg := trivial; repeat' first | simp (maxSteps := 2000000) (disch := omega) only [gg, b144, h, go_sem] | (refine br ?_ ?_ <;> intro gg <;> try (exfalso; omega)) | (refine And.intro ?_ ?_; focus omega) | omega
  | false =>
    rw [c] at h
    have gg := trivial; repeat' first | simp (maxSteps := 2000000) (disch := omega) only [gg, b144, h, Bool.false_eq_true, go_sem] | (refine br ?_ ?_ <;> intro gg <;> try (exfalso; omega)) | (refine And.intro ?_ ?_; focus omega) | omega
theorem s144_4n (e : Ent) (s : List UInt8) (hs : s.length ≤ 1000000) : callT AA 144 [.ptr 0 4, .str s] [(0, .var (entCs e (.lit (.slice none 0 0))))] = some (.bool (atoiOk s), [(0, .var (entCs { e with gid := atoiV s } (.lit (.slice none 0 0))))]) := by
  have h := call118 (s := s) (by omega)
  rw [numErr_eq] at h
  generalize atoiV s = N at *
  refine enter fn144 np144 rfl ?_
  cases c : atoiOk s with
  | true =>
    rw [c] at h
    have gg := trivial; repeat' first | simp (maxSteps := 2000000) (disch := omega) only [gg, b144, h, go_sem] | (refine br ?_ ?_ <;> intro gg <;> try (exfalso; omega)) | (refine And.intro ?_ ?_; focus omega) | omega
  | false =>
    rw [c] at h
    have gg := trivial; repeat' first | simp (maxSteps := 2000000) (disch := omega) only [gg, b144, h, Bool.false_eq_true, go_sem] | (refine br ?_ ?_ <;> intro gg <;> try (exfalso; omega)) | (refine And.intro ?_ ?_; focus omega) | omega
theorem s144_4o (e : Ent) (s : List UInt8) (n : Nat) (ds : List AVal) (hs : s.length ≤ 1000000) : callT AA 144 [.ptr 0 4, .str s] [(0, .var (entCs e (.own 1 1 0 n false))), (1, .row ds 1)] = some (.bool (atoiOk s), [(0, .var (entCs { e with gid := atoiV s } (.own 1 1 0 n false))), (1, .row ds 1)]) := by
  have h := call118 (s := s) (by omega)
  rw [numErr_eq] at h
  generalize atoiV s = N at *
  refine enter fn144 np144 rfl ?_
  cases c : atoiOk s with
  | true =>
    rw [c] at h
    have gg := trivial; repeat' first | simp (maxSteps := 2000000) (disch := omega) only [gg, b144, h, go_sem] | (refine br ?_ ?_ <;> intro gg <;> try (exfalso; omega)) | (refine And.intro ?_ ?_; focus omega) | omega
  | false =>
    rw [c] at h
    have gg := trivial; repeat' first | simp (maxSteps := 2000000) (disch := omega) only [gg, b144, h, Bool.false_eq_true, go_sem] | (refine br ?_ ?_ <;> intro gg <;> try (exfalso; omega)) | (refine And.intro ?_ ?_; focus omega) | omega
theorem s144_5n (e : Ent) (s : List UInt8) (hs : s.length ≤ 1000000) : callT AA 144 [.ptr 0 5, .str s] [(0, .var (entCs e (.lit (.slice none 0 0))))] = some (.bool (atoiOk s), [(0, .var (entCs { e with time := atoiV s } (.lit (.slice none 0 0))))]) := by
  have h := call118 (s := s) (by omega)
  rw [numErr_eq] at h
  generalize atoiV s = N at *
  refine enter fn144 np144 rfl ?_
  cases c : atoiOk s with
  | true =>
    rw [c] at h
    have gg := trivial; repeat' first | simp (maxSteps := 2000000) (disch := omega) only [gg, b144, h, go_sem] | (refine br ?_ ?_ <;> intro gg <;> try (exfalso; omega)) | (refine And.intro ?_ ?_; focus omega) | omega
  | false =>
    rw [c] at h
    have gg := trivial; repeat' first | simp (maxSteps := 2000000) (disch := omega) only [gg, b144, h, Bool.false_eq_true, go_sem] | (refine br ?_ ?_ <;> intro gg <;> try (exfalso; omega)) | (refine And.intro ?_ ?_; focus omega) | omega
theorem s144_5o (e : Ent) (s : List UInt8) (n : Nat) (ds : List AVal) (hs : s.length ≤ 1000000) : callT AA 144 [.ptr 0 5, .str s] [(0, .var (entCs e (.own 1 1 0 n false))), (1, .row ds 1)] = some (.bool (atoiOk s), [(0, .var (entCs { e with time := atoiV s } (.own 1 1 0 n false))), (1, .row ds 1)]) := by
  have h := call118 (s := s) (by omega)
  rw [numErr_eq] at h
  generalize atoiV s = N at *
  refine enter fn144 np144 rfl ?_
  cases c : atoiOk s with
  | true =>
    rw [c] at h
    have gg := trivial; repeat' first | simp (maxSteps := 2000000) (disch := omega) only [gg, b144, h, go_sem] | (refine br ?_ ?_ <;> intro gg <;> try (exfalso; omega)) | (refine And.intro ?_ ?_; focus omega) | omega
  | false =>
    rw [c] at h
    have gg := trivial; repeat' first | simp (maxSteps := 2000000) (disch := omega) only [gg, b144, h, Bool.false_eq_true, go_sem] | (refine br ?_ ?_ <;> intro gg <;> try (exfalso; omega)) | (refine And.intro ?_ ?_; focus omega) | omega
end Go.Abs
namespace Go.Abs
open Am
set_option maxRecDepth 10000
set_option linter.unusedSimpArgs false
/-- what a record tells -/
def tellE (e : Ent) (r : Rcd) : Ent × Bool :=
  if r.key = [103, 105, 100] then ({ e with gid := atoiV r.value }, atoiOk r.value) else
  if r.key = [108, 105, 110, 107, 112, 97, 116, 104] then ({ e with link := r.value }, true) else
  if r.key = [109, 116, 105, 109, 101] then ({ e with time := atoiV r.value }, atoiOk r.value) else
  if r.key = [112, 97, 116, 104] then ({ e with path := r.value }, true) else
  if r.key = [117, 105, 100] then ({ e with uid := atoiV r.value }, atoiOk r.value) else (e, false)
def toldE (e : Ent) : List Rcd → Ent × Bool
  | [] => (e, true)
  | r :: rs => if (tellE e r).2 = true then toldE (tellE e r).1 rs else ((tellE e r).1, false)
set_option maxHeartbeats 4000000 in
theorem h103n (c t : Bool) (rs : List Rcd) (hs : rs.length ≤ 1000000) (hb : ∀ r ∈ rs, RcdOk r) (r0 : Ent × Bool) : ∀ (rest done : List Rcd) (e : Ent) (n i : Int), rs = done ++ rest → i = done.length → n = rs.length → r0 = toldE e rest →
    HD AA 1 [0, 4, 5, 9, 10, 11] l103_0 ⟨[.ptr 0 0, .junk, .junk, .junk, .bool false, .func (.func 144) [], .junk, .junk, .junk, .view 2 (rs.map Rcd.av) c t, .int .i64 n, .int .i64 i, .junk, .junk, .junk, .junk, .junk, .junk, .junk, .junk, .junk, .junk, .junk, .junk, .junk, .junk, .junk, .junk, .junk, .junk, .junk, .junk, .junk, .junk, .junk, .junk, .junk, .junk, .junk, .junk, .junk, .junk, .junk, .junk, .junk, .junk, .junk, .junk, .junk, .junk, .junk, .junk, .junk, .junk, .junk, .junk, .junk, .junk, .junk, .junk, .junk], [(0, .var (entCs e (.lit (.slice none 0 0))))], 2⟩ [.blk 0, .code r103_0] (Fin [(4, none)] 1 (.bool r0.2) [(0, .var (entCs r0.1 (.lit (.slice none 0 0))))])
  | [], done, e, n, i, h1, h2, h3, h4 => by
    subst h1
    simp at h3
    refine hd_of (by unfold l103_0; rfl) ?_
    simp only [toldE] at h4
    rw [h4]
    have gg := trivial; repeat' first | simp (maxSteps := 2000000) (disch := omega) only [gg, r103_0, go_sem] | (refine br ?_ ?_ <;> intro gg <;> try (exfalso; omega)) | (refine And.intro ?_ ?_; focus omega) | omega
  | r :: rest, done, e, n, i, h1, h2, h3, h4 => by
    have hg0 : rs[i.toNat]? = some r := by
      rw [h1]
      simp [h2]
    have hl : i.toNat < rs.length := by rw [h1]; simp; omega
    obtain ⟨hk, hv⟩ := hb r (by simp [h1])
    have c3 := s144_3n e r.value hv
    have c4 := s144_4n e r.value hv
    have c5 := s144_5n e r.value hv
    simp only [entCs] at c3 c4 c5
    unfold toldE at h4
    have ih := h103n c t rs hs hb r0 rest (done ++ [r]) (tellE e r).1 n (i + 1) (by simp [h1]) (by first | omega | (simp; omega) | (simp; done)) h3
    refine hd_of (by unfold l103_0; rfl) ?_
    unfold tellE at h4 ih
    by_cases k0 : r.key = [103, 105, 100]
    · simp only [if_pos k0] at h4 ih
      cases hok : atoiOk r.value with
      | true =>
        rw [hok, if_pos rfl] at h4
        rw [hok] at c4
        have ih := ih h4
        simp only [entCs] at ih
        have gg := trivial; repeat' first | simp (maxSteps := 2000000) (disch := omega) only [gg, hg0, decide_eq_true k0, c4, lp_head, go_sem] | (refine br ?_ ?_ <;> intro gg <;> try (exfalso; omega)) | (refine And.intro ?_ ?_; focus omega) | omega
        all_goals first | exact ih | skip
      | false =>
        rw [hok, if_neg (by simp)] at h4
        rw [hok] at c4
        rw [h4]
        have gg := trivial; repeat' first | simp (maxSteps := 2000000) (disch := omega) only [gg, hg0, decide_eq_true k0, c4, lp_head, go_sem] | (refine br ?_ ?_ <;> intro gg <;> try (exfalso; omega)) | (refine And.intro ?_ ?_; focus omega) | omega
        all_goals first | rfl | skip
    by_cases k1 : r.key = [108, 105, 110, 107, 112, 97, 116, 104]
    · simp only [if_neg k0, if_pos k1, if_true] at h4 ih
      have ih := ih h4
      simp only [entCs] at ih
      have gg := trivial; repeat' first | simp (maxSteps := 2000000) (disch := omega) only [gg, hg0, decide_eq_false k0, decide_eq_true k1, lp_head, go_sem] | (refine br ?_ ?_ <;> intro gg <;> try (exfalso; omega)) | (refine And.intro ?_ ?_; focus omega) | omega
      all_goals first | exact ih | skip
    by_cases k2 : r.key = [109, 116, 105, 109, 101]
    · simp only [if_neg k0, if_neg k1, if_pos k2] at h4 ih
      cases hok : atoiOk r.value with
      | true =>
        rw [hok, if_pos rfl] at h4
        rw [hok] at c5
        have ih := ih h4
        simp only [entCs] at ih
        have gg := trivial; repeat' first | simp (maxSteps := 2000000) (disch := omega) only [gg, hg0, decide_eq_false k0, decide_eq_false k1, decide_eq_true k2, c5, lp_head, go_sem] | (refine br ?_ ?_ <;> intro gg <;> try (exfalso; omega)) | (refine And.intro ?_ ?_; focus omega) | omega
        all_goals first | exact ih | skip
      | false =>
        rw [hok, if_neg (by simp)] at h4
        rw [hok] at c5
        rw [h4]
        have gg := trivial; repeat' first | simp (maxSteps := 2000000) (disch := omega) only [gg, hg0, decide_eq_false k0, decide_eq_false k1, decide_eq_true k2, c5, lp_head, go_sem] | (refine br ?_ ?_ <;> intro gg <;> try (exfalso; omega)) | (refine And.intro ?_ ?_; focus omega) | omega
        all_goals first | rfl | skip
    by_cases k3 : r.key = [112, 97, 116, 104]
    · simp only [if_neg k0, if_neg k1, if_neg k2, if_pos k3, if_true] at h4 ih
      have ih := ih h4
      simp only [entCs] at ih
      have gg := trivial; repeat' first | simp (maxSteps := 2000000) (disch := omega) only [gg, hg0, decide_eq_false k0, decide_eq_false k1, decide_eq_false k2, decide_eq_true k3, lp_head, go_sem] | (refine br ?_ ?_ <;> intro gg <;> try (exfalso; omega)) | (refine And.intro ?_ ?_; focus omega) | omega
      all_goals first | exact ih | skip
    by_cases k4 : r.key = [117, 105, 100]
    · simp only [if_neg k0, if_neg k1, if_neg k2, if_neg k3, if_pos k4] at h4 ih
      cases hok : atoiOk r.value with
      | true =>
        rw [hok, if_pos rfl] at h4
        rw [hok] at c3
        have ih := ih h4
        simp only [entCs] at ih
        have gg := trivial; repeat' first | simp (maxSteps := 2000000) (disch := omega) only [gg, hg0, decide_eq_false k0, decide_eq_false k1, decide_eq_false k2, decide_eq_false k3, decide_eq_true k4, c3, lp_head, go_sem] | (refine br ?_ ?_ <;> intro gg <;> try (exfalso; omega)) | (refine And.intro ?_ ?_; focus omega) | omega
        all_goals first | exact ih | skip
      | false =>
        rw [hok, if_neg (by simp)] at h4
        rw [hok] at c3
        rw [h4]
        have gg := trivial; repeat' first | simp (maxSteps := 2000000) (disch := omega) only [gg, hg0, decide_eq_false k0, decide_eq_false k1, decide_eq_false k2, decide_eq_false k3, decide_eq_true k4, c3, lp_head, go_sem] | (refine br ?_ ?_ <;> intro gg <;> try (exfalso; omega)) | (refine And.intro ?_ ?_; focus omega) | omega
        all_goals first | rfl | skip
    simp only [if_neg k0, if_neg k1, if_neg k2, if_neg k3, if_neg k4, Bool.false_eq_true, if_false] at h4
    rw [h4]
    have gg := trivial; repeat' first | simp (maxSteps := 2000000) (disch := omega) only [gg, hg0, decide_eq_false k0, decide_eq_false k1, decide_eq_false k2, decide_eq_false k3, decide_eq_false k4, lp_head, go_sem] | (refine br ?_ ?_ <;> intro gg <;> try (exfalso; omega)) | (refine And.intro ?_ ?_; focus omega) | omega
    all_goals first | rfl | skip
set_option maxHeartbeats 4000000 in
theorem h103o (c t : Bool) (rs : List Rcd) (hs : rs.length ≤ 1000000) (hb : ∀ r ∈ rs, RcdOk r) (q : Nat) (ds : List AVal) (r0 : Ent × Bool) : ∀ (rest done : List Rcd) (e : Ent) (n i : Int), rs = done ++ rest → i = done.length → n = rs.length → r0 = toldE e rest →
    HD AA 2 [0, 4, 5, 9, 10, 11] l103_0 ⟨[.ptr 0 0, .junk, .junk, .junk, .bool false, .func (.func 144) [], .junk, .junk, .junk, .view 2 (rs.map Rcd.av) c t, .int .i64 n, .int .i64 i, .junk, .junk, .junk, .junk, .junk, .junk, .junk, .junk, .junk, .junk, .junk, .junk, .junk, .junk, .junk, .junk, .junk, .junk, .junk, .junk, .junk, .junk, .junk, .junk, .junk, .junk, .junk, .junk, .junk, .junk, .junk, .junk, .junk, .junk, .junk, .junk, .junk, .junk, .junk, .junk, .junk, .junk, .junk, .junk, .junk, .junk, .junk, .junk, .junk], [(0, .var (entCs e (.own 1 1 0 q false))), (1, .row ds 1)], 4⟩ [.blk 0, .code r103_0] (Fin [(4, none)] 2 (.bool r0.2) [(0, .var (entCs r0.1 (.own 1 1 0 q false))), (1, .row ds 1)])
  | [], done, e, n, i, h1, h2, h3, h4 => by
    subst h1
    simp at h3
    refine hd_of (by unfold l103_0; rfl) ?_
    simp only [toldE] at h4
    rw [h4]
    have gg := trivial; repeat' first | simp (maxSteps := 2000000) (disch := omega) only [gg, r103_0, go_sem] | (refine br ?_ ?_ <;> intro gg <;> try (exfalso; omega)) | (refine And.intro ?_ ?_; focus omega) | omega
  | r :: rest, done, e, n, i, h1, h2, h3, h4 => by
    have hg0 : rs[i.toNat]? = some r := by
      rw [h1]
      simp [h2]
    have hl : i.toNat < rs.length := by rw [h1]; simp; omega
    obtain ⟨hk, hv⟩ := hb r (by simp [h1])
    have c3 := s144_3o e r.value q ds hv
    have c4 := s144_4o e r.value q ds hv
    have c5 := s144_5o e r.value q ds hv
    simp only [entCs] at c3 c4 c5
    unfold toldE at h4
    have ih := h103o c t rs hs hb q ds r0 rest (done ++ [r]) (tellE e r).1 n (i + 1) (by simp [h1]) (by first | omega | (simp; omega) | (simp; done)) h3
    refine hd_of (by unfold l103_0; rfl) ?_
    unfold tellE at h4 ih
    by_cases k0 : r.key = [103, 105, 100]
    · simp only [if_pos k0] at h4 ih
      cases hok : atoiOk r.value with
      | true =>
        rw [hok, if_pos rfl] at h4
        rw [hok] at c4
        have ih := ih h4
        simp only [entCs] at ih
        have gg := trivial; repeat' first | simp (maxSteps := 2000000) (disch := omega) only [gg, hg0, decide_eq_true k0, c4, lp_head, go_sem] | (refine br ?_ ?_ <;> intro gg <;> try (exfalso; omega)) | (refine And.intro ?_ ?_; focus omega) | omega
        all_goals first | exact ih | skip
      | false =>
        rw [hok, if_neg (by simp)] at h4
        rw [hok] at c4
        rw [h4]
        have gg := trivial; repeat' first | simp (maxSteps := 2000000) (disch := omega) only [gg, hg0, decide_eq_true k0, c4, lp_head, go_sem] | (refine br ?_ ?_ <;> intro gg <;> try (exfalso; omega)) | (refine And.intro ?_ ?_; focus omega) | omega
        all_goals first | rfl | skip
    by_cases k1 : r.key = [108, 105, 110, 107, 112, 97, 116, 104]
    · simp only [if_neg k0, if_pos k1, if_true] at h4 ih
      have ih := ih h4
      simp only [entCs] at ih
      have gg := trivial; repeat' first | simp (maxSteps := 2000000) (disch := omega) only [gg, hg0, decide_eq_false k0, decide_eq_true k1, lp_head, go_sem] | (refine br ?_ ?_ <;> intro gg <;> try (exfalso; omega)) | (refine And.intro ?_ ?_; focus omega) | omega
      all_goals first | exact ih | skip
    by_cases k2 : r.key = [109, 116, 105, 109, 101]
    · simp only [if_neg k0, if_neg k1, if_pos k2] at h4 ih
      cases hok : atoiOk r.value with
      | true =>
        rw [hok, if_pos rfl] at h4
        rw [hok] at c5
        have ih := ih h4
        simp only [entCs] at ih
        have gg := trivial; repeat' first | simp (maxSteps := 2000000) (disch := omega) only [gg, hg0, decide_eq_false k0, decide_eq_false k1, decide_eq_true k2, c5, lp_head, go_sem] | (refine br ?_ ?_ <;> intro gg <;> try (exfalso; omega)) | (refine And.intro ?_ ?_; focus omega) | omega
        all_goals first | exact ih | skip
      | false =>
        rw [hok, if_neg (by simp)] at h4
        rw [hok] at c5
        rw [h4]
        have gg := trivial; repeat' first | simp (maxSteps := 2000000) (disch := omega) only [gg, hg0, decide_eq_false k0, decide_eq_false k1, decide_eq_true k2, c5, lp_head, go_sem] | (refine br ?_ ?_ <;> intro gg <;> try (exfalso; omega)) | (refine And.intro ?_ ?_; focus omega) | omega
        all_goals first | rfl | skip
    by_cases k3 : r.key = [112, 97, 116, 104]
    · simp only [if_neg k0, if_neg k1, if_neg k2, if_pos k3, if_true] at h4 ih
      have ih := ih h4
      simp only [entCs] at ih
      have gg := trivial; repeat' first | simp (maxSteps := 2000000) (disch := omega) only [gg, hg0, decide_eq_false k0, decide_eq_false k1, decide_eq_false k2, decide_eq_true k3, lp_head, go_sem] | (refine br ?_ ?_ <;> intro gg <;> try (exfalso; omega)) | (refine And.intro ?_ ?_; focus omega) | omega
      all_goals first | exact ih | skip
    by_cases k4 : r.key = [117, 105, 100]
    · simp only [if_neg k0, if_neg k1, if_neg k2, if_neg k3, if_pos k4] at h4 ih
      cases hok : atoiOk r.value with
      | true =>
        rw [hok, if_pos rfl] at h4
        rw [hok] at c3
        have ih := ih h4
        simp only [entCs] at ih
        have gg := trivial; repeat' first | simp (maxSteps := 2000000) (disch := omega) only [gg, hg0, decide_eq_false k0, decide_eq_false k1, decide_eq_false k2, decide_eq_false k3, decide_eq_true k4, c3, lp_head, go_sem] | (refine br ?_ ?_ <;> intro gg <;> try (exfalso; omega)) | (refine And.intro ?_ ?_; focus omega) | omega
        all_goals first | exact ih | skip
      | false =>
        rw [hok, if_neg (by simp)] at h4
        rw [hok] at c3
        rw [h4]
        have gg := trivial; repeat' first | simp (maxSteps := 2000000) (disch := omega) only [gg, hg0, decide_eq_false k0, decide_eq_false k1, decide_eq_false k2, decide_eq_false k3, decide_eq_true k4, c3, lp_head, go_sem] | (refine br ?_ ?_ <;> intro gg <;> try (exfalso; omega)) | (refine And.intro ?_ ?_; focus omega) | omega
        all_goals first | rfl | skip
    simp only [if_neg k0, if_neg k1, if_neg k2, if_neg k3, if_neg k4, Bool.false_eq_true, if_false] at h4
    rw [h4]
    have gg := trivial; repeat' first | simp (maxSteps := 2000000) (disch := omega) only [gg, hg0, decide_eq_false k0, decide_eq_false k1, decide_eq_false k2, decide_eq_false k3, decide_eq_false k4, lp_head, go_sem] | (refine br ?_ ?_ <;> intro gg <;> try (exfalso; omega)) | (refine And.intro ?_ ?_; focus omega) | omega
    all_goals first | rfl | skip
end Go.Abs
namespace Go.Abs
open Am
set_option maxRecDepth 10000
set_option linter.unusedSimpArgs false
theorem s103n (c t : Bool) (rs : List Rcd) (hs : rs.length ≤ 1000000) (hb : ∀ r ∈ rs, RcdOk r) (e : Ent) : callT AA 103 [.ptr 0 0, .view 2 (rs.map Rcd.av) c t] [(0, .var (entCs e (.lit (.slice none 0 0))))] = some (.bool (toldE e rs).2, [(0, .var (entCs (toldE e rs).1 (.lit (.slice none 0 0))))]) := by
  have hh := h103n c t rs hs hb (toldE e rs) rs [] e rs.length 0 rfl rfl rfl rfl
  simp only [entCs] at hh
  refine enter fn103 np103 rfl ?_
  have gg := trivial; repeat' first | simp (maxSteps := 2000000) (disch := omega) only [gg, b103, lp_head, go_sem] | (refine br ?_ ?_ <;> intro gg <;> try (exfalso; omega)) | (refine And.intro ?_ ?_; focus omega) | omega
  all_goals first | exact hh | skip
theorem s103o (c t : Bool) (rs : List Rcd) (hs : rs.length ≤ 1000000) (hb : ∀ r ∈ rs, RcdOk r) (q : Nat) (ds : List AVal) (e : Ent) : callT AA 103 [.ptr 0 0, .view 2 (rs.map Rcd.av) c t] [(0, .var (entCs e (.own 1 1 0 q false))), (1, .row ds 1)] = some (.bool (toldE e rs).2, [(0, .var (entCs (toldE e rs).1 (.own 1 1 0 q false))), (1, .row ds 1)]) := by
  have hh := h103o c t rs hs hb q ds (toldE e rs) rs [] e rs.length 0 rfl rfl rfl rfl
  simp only [entCs] at hh
  refine enter fn103 np103 rfl ?_
  have gg := trivial; repeat' first | simp (maxSteps := 2000000) (disch := omega) only [gg, b103, lp_head, go_sem] | (refine br ?_ ?_ <;> intro gg <;> try (exfalso; omega)) | (refine And.intro ?_ ?_; focus omega) | omega
  all_goals first | exact hh | skip
theorem s103on (q : Nat) (ds : List AVal) (e : Ent) : callT AA 103 [.ptr 0 0, .lit (.slice none 0 0)] [(0, .var (entCs e (.own 1 1 0 q false))), (1, .row ds 1)] = some (.bool true, [(0, .var (entCs e (.own 1 1 0 q false))), (1, .row ds 1)]) := by
  refine enter fn103 np103 rfl ?_
  have gg := trivial; repeat' first | simp (maxSteps := 2000000) (disch := omega) only [gg, b103, lp_head, go_sem] | (refine br ?_ ?_ <;> intro gg <;> try (exfalso; omega)) | (refine And.intro ?_ ?_; focus omega) | omega
  refine hd_of (by unfold l103_0; rfl) ?_
  have gg := trivial; repeat' first | simp (maxSteps := 2000000) (disch := omega) only [gg, r103_0, go_sem] | (refine br ?_ ?_ <;> intro gg <;> try (exfalso; omega)) | (refine And.intro ?_ ?_; focus omega) | omega
end Go.Abs
