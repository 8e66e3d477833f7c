import Derived.Test.YtambgnjkakdoeaaGreatDoorA8
import Derived.Lib.TrimAscii
import Derived.Lib.TrimUEq
/- PART OF A PROOF (texts joined by a program): F6 F7 F8 F9 F10. -/
set_option linter.unusedVariables false
set_option linter.unusedSimpArgs false
set_option linter.unusedSectionVars false
/- HEADERS: what fits. -/
namespace Go.Abs
open Am
set_option maxRecDepth 10000
set_option linter.unusedSimpArgs false
theorem s46 (n : Int) : callT AA 46 [.int .i64 n] [] = some (.bool (decide (0 ≤ n ∧ n < 2097152)), []) := by
  refine enter fn46 np46 rfl ?_
  (simp (maxSteps := 2000000) (disch := omega) only [b46, go_sem, Nat.reduceAdd, Nat.reduceSub, Nat.reduceMul, Nat.reduceLT, Nat.reduceLeDiff, Nat.reduceEqDiff, Nat.reduceBEq, Int.reduceLT, Int.reduceLE, Int.reduceEq, Int.reduceToNat, ↓reduceIte, reduceCtorEq]) <;> repeat' (first | ((first | refine gd_dec ?_ ?_ | refine gd_ndec ?_ ?_ | refine cd_dec ?_ ?_ | refine cd_ndec ?_ ?_ | refine gdd_dec ?_ ?_ | refine gdd_ndec ?_ ?_ | refine gd_of ?_ ?_ | refine cd_of ?_ ?_ | refine gdd_of ?_ ?_) <;> intro hg <;> first | (exfalso; omega) | (simp (maxSteps := 2000000) (disch := omega) only [hg, b46, go_sem, Nat.reduceAdd, Nat.reduceSub, Nat.reduceMul, Nat.reduceLT, Nat.reduceLeDiff, Nat.reduceEqDiff, Nat.reduceBEq, Int.reduceLT, Int.reduceLE, Int.reduceEq, Int.reduceToNat, ↓reduceIte, reduceCtorEq])) | (refine And.intro ?_ ?_; focus omega) | omega)
  (all_goals (first | (simp_all []; done) | (simp_all []; omega) | (simp_all []; intros; omega) | (simp_all []; rw [Bool.eq_iff_iff]; simp; done) | (simp_all []; rw [Bool.eq_iff_iff]; simp; omega)))
theorem s48 (n : Int) : callT AA 48 [.int .i64 n] [] = some (.bool (decide (0 ≤ n ∧ n < 8589934592)), []) := by
  refine enter fn48 np48 rfl ?_
  (simp (maxSteps := 2000000) (disch := omega) only [b48, go_sem, Nat.reduceAdd, Nat.reduceSub, Nat.reduceMul, Nat.reduceLT, Nat.reduceLeDiff, Nat.reduceEqDiff, Nat.reduceBEq, Int.reduceLT, Int.reduceLE, Int.reduceEq, Int.reduceToNat, ↓reduceIte, reduceCtorEq]) <;> repeat' (first | ((first | refine gd_dec ?_ ?_ | refine gd_ndec ?_ ?_ | refine cd_dec ?_ ?_ | refine cd_ndec ?_ ?_ | refine gdd_dec ?_ ?_ | refine gdd_ndec ?_ ?_ | refine gd_of ?_ ?_ | refine cd_of ?_ ?_ | refine gdd_of ?_ ?_) <;> intro hg <;> first | (exfalso; omega) | (simp (maxSteps := 2000000) (disch := omega) only [hg, b48, go_sem, Nat.reduceAdd, Nat.reduceSub, Nat.reduceMul, Nat.reduceLT, Nat.reduceLeDiff, Nat.reduceEqDiff, Nat.reduceBEq, Int.reduceLT, Int.reduceLE, Int.reduceEq, Int.reduceToNat, ↓reduceIte, reduceCtorEq])) | (refine And.intro ?_ ?_; focus omega) | omega)
  (all_goals (first | (simp_all []; done) | (simp_all []; omega) | (simp_all []; intros; omega) | (simp_all []; rw [Bool.eq_iff_iff]; simp; done) | (simp_all []; rw [Bool.eq_iff_iff]; simp; omega)))
theorem s127 (n : Int) : callT AA 127 [.int .i32 n] [] = some (.bool (decide (n = 0 ∨ 127 < n)), []) := by
  refine enter fn127 np127 rfl ?_
  (simp (maxSteps := 2000000) (disch := omega) only [b127, go_sem, Nat.reduceAdd, Nat.reduceSub, Nat.reduceMul, Nat.reduceLT, Nat.reduceLeDiff, Nat.reduceEqDiff, Nat.reduceBEq, Int.reduceLT, Int.reduceLE, Int.reduceEq, Int.reduceToNat, ↓reduceIte, reduceCtorEq]) <;> repeat' (first | ((first | refine gd_dec ?_ ?_ | refine gd_ndec ?_ ?_ | refine cd_dec ?_ ?_ | refine cd_ndec ?_ ?_ | refine gdd_dec ?_ ?_ | refine gdd_ndec ?_ ?_ | refine gd_of ?_ ?_ | refine cd_of ?_ ?_ | refine gdd_of ?_ ?_) <;> intro hg <;> first | (exfalso; omega) | (simp (maxSteps := 2000000) (disch := omega) only [hg, b127, go_sem, Nat.reduceAdd, Nat.reduceSub, Nat.reduceMul, Nat.reduceLT, Nat.reduceLeDiff, Nat.reduceEqDiff, Nat.reduceBEq, Int.reduceLT, Int.reduceLE, Int.reduceEq, Int.reduceToNat, ↓reduceIte, reduceCtorEq])) | (refine And.intro ?_ ?_; focus omega) | omega)
  (all_goals (first | (simp_all []; done) | (simp_all []; omega) | (simp_all []; intros; omega) | (simp_all []; rw [Bool.eq_iff_iff]; simp; done) | (simp_all []; rw [Bool.eq_iff_iff]; simp; omega)))
def okByte (b : UInt8) : Bool := decide (b.toNat ≠ 0 ∧ b.toNat < 128)
theorem decode_high (b : UInt8) (t : List UInt8) (h : 128 ≤ b.toNat) : 128 ≤ (Lib.decodeL (b :: t)).1 := by
  rw [Lib.decodeL_N]
  have h0 : ((b :: t).getD 0 0).toNat = b.toNat := rfl
  rw [h0]
  have hb := b.toNat_lt
  unfold Lib.decodeN
  repeat' split
  all_goals (simp only []; omega)
/-- the place of the first byte that is none of 1..127 -/
def badByte : Int → List UInt8 → Int
  | _, [] => -1
  | i, b :: r => if okByte b = true then badByte (i + 1) r else i
theorem badByte_neg : ∀ (s : List UInt8) (i : Int), 0 ≤ i → (decide (badByte i s < 0) = s.all okByte)
  | [], i, _ => by simp [badByte]
  | b :: r, i, h => by
    unfold badByte
    have ih := badByte_neg r (i + 1) (by omega)
    by_cases hp : okByte b = true
    · simp [hp, ih]
    · simp [hp]; omega
theorem h161 (s : List UInt8) (hs : s.length ≤ 1000000) (r0 : Int) : ∀ (rest done : List UInt8) (pos : Nat), s = done ++ rest → pos = done.length → r0 = badByte pos rest →
    HD AA 0 [1, 2, 6, 10] l161_0 ⟨[.junk, .func (.func 127) [], .bool true, .junk, .junk, .junk, .int .i64 0, .junk, .junk, .junk, .ptr 0 0, .junk, .junk, .junk, .junk, .junk, .junk, .junk, .junk, .junk, .junk], [(0, .iter s pos)], 1⟩ [.blk 0, .code r161_0] (Fin [(6, none)] 0 (.int .i64 r0) [])
  | [], done, pos, h1, h2, h3 => by
    subst h1
    have hn : ¬ pos < done.length := by omega
    refine hd_of (by unfold l161_0; rfl) ?_
    (simp (maxSteps := 2000000) (disch := omega) only [r161_0, List.append_nil, hn, go_sem, Nat.reduceAdd, Nat.reduceSub, Nat.reduceMul, Nat.reduceLT, Nat.reduceLeDiff, Nat.reduceEqDiff, Nat.reduceBEq, Int.reduceLT, Int.reduceLE, Int.reduceEq, Int.reduceToNat, ↓reduceIte, reduceCtorEq]) <;> repeat' (first | ((first | refine gd_dec ?_ ?_ | refine gd_ndec ?_ ?_ | refine cd_dec ?_ ?_ | refine cd_ndec ?_ ?_ | refine gdd_dec ?_ ?_ | refine gdd_ndec ?_ ?_ | refine gd_of ?_ ?_ | refine cd_of ?_ ?_ | refine gdd_of ?_ ?_) <;> intro hg <;> first | (exfalso; omega) | (simp (maxSteps := 2000000) (disch := omega) only [hg, r161_0, List.append_nil, hn, go_sem, Nat.reduceAdd, Nat.reduceSub, Nat.reduceMul, Nat.reduceLT, Nat.reduceLeDiff, Nat.reduceEqDiff, Nat.reduceBEq, Int.reduceLT, Int.reduceLE, Int.reduceEq, Int.reduceToNat, ↓reduceIte, reduceCtorEq])) | (refine And.intro ?_ ?_; focus omega) | omega)
    simp [h3, badByte]
  | b :: r, done, pos, h1, h2, h3 => by
    have hp : pos < s.length := by rw [h1, h2]; simp
    have hd : Utf8.decode ⟨s.toArray⟩ pos = Lib.decodeL (b :: r) := by
      rw [← Lib.decodeL_drop]
      have : (ByteArray.mk s.toArray).data.toList.drop pos = b :: r := by
        rw [h1, h2]; simp
      rw [this]
    refine hd_of (by unfold l161_0; rfl) ?_
    unfold badByte at h3
    by_cases hb : b.toNat < 128
    · have ha := Lib.decodeL_ascii b r hb
      rw [ha] at hd
      by_cases hz : b.toNat = 0
      · rw [if_neg (by simp [okByte, hz])] at h3
        have hf := s127 (b.toNat : Int)
        rw [decide_eq_true (by omega)] at hf
        (simp (maxSteps := 2000000) (disch := omega) only [hp, hd, hf, lp_head, go_sem, Nat.reduceAdd, Nat.reduceSub, Nat.reduceMul, Nat.reduceLT, Nat.reduceLeDiff, Nat.reduceEqDiff, Nat.reduceBEq, Int.reduceLT, Int.reduceLE, Int.reduceEq, Int.reduceToNat, ↓reduceIte, reduceCtorEq]) <;> repeat' (first | ((first | refine gd_dec ?_ ?_ | refine gd_ndec ?_ ?_ | refine cd_dec ?_ ?_ | refine cd_ndec ?_ ?_ | refine gdd_dec ?_ ?_ | refine gdd_ndec ?_ ?_ | refine gd_of ?_ ?_ | refine cd_of ?_ ?_ | refine gdd_of ?_ ?_) <;> intro hg <;> first | (exfalso; omega) | (simp (maxSteps := 2000000) (disch := omega) only [hg, hp, hd, hf, lp_head, go_sem, Nat.reduceAdd, Nat.reduceSub, Nat.reduceMul, Nat.reduceLT, Nat.reduceLeDiff, Nat.reduceEqDiff, Nat.reduceBEq, Int.reduceLT, Int.reduceLE, Int.reduceEq, Int.reduceToNat, ↓reduceIte, reduceCtorEq])) | (refine And.intro ?_ ?_; focus omega) | omega)
        simp [h3]
      · rw [if_pos (by simp [okByte, hz, hb])] at h3
        have ih := h161 s hs r0 r (done ++ [b]) (pos + 1) (by simp [h1]) (by first | omega | (simp; omega) | (simp; done)) (by rw [h3]; simp)
        have hf := s127 (b.toNat : Int)
        rw [decide_eq_false (by omega)] at hf
        (simp (maxSteps := 2000000) (disch := omega) only [hp, hd, hf, lp_head, go_sem, Nat.reduceAdd, Nat.reduceSub, Nat.reduceMul, Nat.reduceLT, Nat.reduceLeDiff, Nat.reduceEqDiff, Nat.reduceBEq, Int.reduceLT, Int.reduceLE, Int.reduceEq, Int.reduceToNat, ↓reduceIte, reduceCtorEq]) <;> repeat' (first | ((first | refine gd_dec ?_ ?_ | refine gd_ndec ?_ ?_ | refine cd_dec ?_ ?_ | refine cd_ndec ?_ ?_ | refine gdd_dec ?_ ?_ | refine gdd_ndec ?_ ?_ | refine gd_of ?_ ?_ | refine cd_of ?_ ?_ | refine gdd_of ?_ ?_) <;> intro hg <;> first | (exfalso; omega) | (simp (maxSteps := 2000000) (disch := omega) only [hg, hp, hd, hf, lp_head, go_sem, Nat.reduceAdd, Nat.reduceSub, Nat.reduceMul, Nat.reduceLT, Nat.reduceLeDiff, Nat.reduceEqDiff, Nat.reduceBEq, Int.reduceLT, Int.reduceLE, Int.reduceEq, Int.reduceToNat, ↓reduceIte, reduceCtorEq])) | (refine And.intro ?_ ?_; focus omega) | omega)
    · rw [if_neg (by simp [okByte]; omega)] at h3
      have hh := decode_high b r (by omega)
      generalize Lib.decodeL (b :: r) = dd at hd hh
      obtain ⟨d1, d2⟩ := dd
      simp only at hh
      have hf := s127 (d1 : Int)
      rw [decide_eq_true (by omega)] at hf
      (simp (maxSteps := 2000000) (disch := omega) only [hp, hd, hf, lp_head, go_sem, Nat.reduceAdd, Nat.reduceSub, Nat.reduceMul, Nat.reduceLT, Nat.reduceLeDiff, Nat.reduceEqDiff, Nat.reduceBEq, Int.reduceLT, Int.reduceLE, Int.reduceEq, Int.reduceToNat, ↓reduceIte, reduceCtorEq]) <;> repeat' (first | ((first | refine gd_dec ?_ ?_ | refine gd_ndec ?_ ?_ | refine cd_dec ?_ ?_ | refine cd_ndec ?_ ?_ | refine gdd_dec ?_ ?_ | refine gdd_ndec ?_ ?_ | refine gd_of ?_ ?_ | refine cd_of ?_ ?_ | refine gdd_of ?_ ?_) <;> intro hg <;> first | (exfalso; omega) | (simp (maxSteps := 2000000) (disch := omega) only [hg, hp, hd, hf, lp_head, go_sem, Nat.reduceAdd, Nat.reduceSub, Nat.reduceMul, Nat.reduceLT, Nat.reduceLeDiff, Nat.reduceEqDiff, Nat.reduceBEq, Int.reduceLT, Int.reduceLE, Int.reduceEq, Int.reduceToNat, ↓reduceIte, reduceCtorEq])) | (refine And.intro ?_ ?_; focus omega) | omega)
      simp [h3]
def asciiB (s : List UInt8) : Bool := s.all okByte
theorem s82 (s : List UInt8) (hs : s.length ≤ 1000000) : callT AA 82 [.str s] [] = some (.bool (asciiB s), []) := by
  have h1 : callT AA 161 [.str s, .func (.func 127) [], .bool true] [] = some (.int .i64 (badByte 0 s), []) := by
    refine enter fn161 np161 rfl ?_
    (simp (maxSteps := 2000000) (disch := omega) only [b161, lp_head, go_sem, Nat.reduceAdd, Nat.reduceSub, Nat.reduceMul, Nat.reduceLT, Nat.reduceLeDiff, Nat.reduceEqDiff, Nat.reduceBEq, Int.reduceLT, Int.reduceLE, Int.reduceEq, Int.reduceToNat, ↓reduceIte, reduceCtorEq]) <;> repeat' (first | ((first | refine gd_dec ?_ ?_ | refine gd_ndec ?_ ?_ | refine cd_dec ?_ ?_ | refine cd_ndec ?_ ?_ | refine gdd_dec ?_ ?_ | refine gdd_ndec ?_ ?_ | refine gd_of ?_ ?_ | refine cd_of ?_ ?_ | refine gdd_of ?_ ?_) <;> intro hg <;> first | (exfalso; omega) | (simp (maxSteps := 2000000) (disch := omega) only [hg, b161, lp_head, go_sem, Nat.reduceAdd, Nat.reduceSub, Nat.reduceMul, Nat.reduceLT, Nat.reduceLeDiff, Nat.reduceEqDiff, Nat.reduceBEq, Int.reduceLT, Int.reduceLE, Int.reduceEq, Int.reduceToNat, ↓reduceIte, reduceCtorEq])) | (refine And.intro ?_ ?_; focus omega) | omega)
    exact h161 s hs _ s [] 0 rfl rfl rfl
  have h2 : callT AA 126 [.str s, .func (.func 127) []] [] = some (.int .i64 (badByte 0 s), []) := by
    refine enter fn126 np126 rfl ?_
    (simp (maxSteps := 2000000) (disch := omega) only [b126, h1, go_sem, Nat.reduceAdd, Nat.reduceSub, Nat.reduceMul, Nat.reduceLT, Nat.reduceLeDiff, Nat.reduceEqDiff, Nat.reduceBEq, Int.reduceLT, Int.reduceLE, Int.reduceEq, Int.reduceToNat, ↓reduceIte, reduceCtorEq]) <;> repeat' (first | ((first | refine gd_dec ?_ ?_ | refine gd_ndec ?_ ?_ | refine cd_dec ?_ ?_ | refine cd_ndec ?_ ?_ | refine gdd_dec ?_ ?_ | refine gdd_ndec ?_ ?_ | refine gd_of ?_ ?_ | refine cd_of ?_ ?_ | refine gdd_of ?_ ?_) <;> intro hg <;> first | (exfalso; omega) | (simp (maxSteps := 2000000) (disch := omega) only [hg, b126, h1, go_sem, Nat.reduceAdd, Nat.reduceSub, Nat.reduceMul, Nat.reduceLT, Nat.reduceLeDiff, Nat.reduceEqDiff, Nat.reduceBEq, Int.reduceLT, Int.reduceLE, Int.reduceEq, Int.reduceToNat, ↓reduceIte, reduceCtorEq])) | (refine And.intro ?_ ?_; focus omega) | omega)
  have h3 := badByte_neg s 0 (by omega)
  refine enter fn82 np82 rfl ?_
  (simp (maxSteps := 2000000) (disch := omega) only [b82, h2, h3, asciiB, go_sem, Nat.reduceAdd, Nat.reduceSub, Nat.reduceMul, Nat.reduceLT, Nat.reduceLeDiff, Nat.reduceEqDiff, Nat.reduceBEq, Int.reduceLT, Int.reduceLE, Int.reduceEq, Int.reduceToNat, ↓reduceIte, reduceCtorEq]) <;> repeat' (first | ((first | refine gd_dec ?_ ?_ | refine gd_ndec ?_ ?_ | refine cd_dec ?_ ?_ | refine cd_ndec ?_ ?_ | refine gdd_dec ?_ ?_ | refine gdd_ndec ?_ ?_ | refine gd_of ?_ ?_ | refine cd_of ?_ ?_ | refine gdd_of ?_ ?_) <;> intro hg <;> first | (exfalso; omega) | (simp (maxSteps := 2000000) (disch := omega) only [hg, b82, h2, h3, asciiB, go_sem, Nat.reduceAdd, Nat.reduceSub, Nat.reduceMul, Nat.reduceLT, Nat.reduceLeDiff, Nat.reduceEqDiff, Nat.reduceBEq, Int.reduceLT, Int.reduceLE, Int.reduceEq, Int.reduceToNat, ↓reduceIte, reduceCtorEq])) | (refine And.intro ?_ ?_; focus omega) | omega)
theorem s45 (s : List UInt8) (hs : s.length ≤ 1000000) : callT AA 45 [.str s] [] = some (.bool (decide (s ≠ []) && decide ((s.length : Int) ≤ 100) && asciiB s), []) := by
  have h1 := s82 s hs
  refine enter fn45 np45 rfl ?_
  (simp (maxSteps := 2000000) (disch := omega) only [b45, h1, go_sem, Nat.reduceAdd, Nat.reduceSub, Nat.reduceMul, Nat.reduceLT, Nat.reduceLeDiff, Nat.reduceEqDiff, Nat.reduceBEq, Int.reduceLT, Int.reduceLE, Int.reduceEq, Int.reduceToNat, ↓reduceIte, reduceCtorEq]) <;> repeat' (first | ((first | refine gd_dec ?_ ?_ | refine gd_ndec ?_ ?_ | refine cd_dec ?_ ?_ | refine cd_ndec ?_ ?_ | refine gdd_dec ?_ ?_ | refine gdd_ndec ?_ ?_ | refine gd_of ?_ ?_ | refine cd_of ?_ ?_ | refine gdd_of ?_ ?_) <;> intro hg <;> first | (exfalso; omega) | (simp (maxSteps := 2000000) (disch := omega) only [hg, b45, h1, go_sem, Nat.reduceAdd, Nat.reduceSub, Nat.reduceMul, Nat.reduceLT, Nat.reduceLeDiff, Nat.reduceEqDiff, Nat.reduceBEq, Int.reduceLT, Int.reduceLE, Int.reduceEq, Int.reduceToNat, ↓reduceIte, reduceCtorEq])) | (refine And.intro ?_ ?_; focus omega) | omega)
  (all_goals (first | (simp_all []; done) | (simp_all []; omega) | (simp_all []; intros; omega) | (simp_all []; rw [Bool.eq_iff_iff]; simp; done) | (simp_all []; rw [Bool.eq_iff_iff]; simp; omega)))
end Go.Abs
/- HEADERS: a path's parts; numbers in octal; sums. -/
namespace Go.Abs
open Am
set_option maxRecDepth 10000
set_option linter.unusedSimpArgs false
def spOk (p : List UInt8) (i : Nat) : Bool := decide (p[i]? = some 47) && decide (1 ≤ i) && decide (i ≤ 155) && decide (i + 2 ≤ p.length) && decide (p.length ≤ i + 101)
def spAt (p : List UInt8) : Nat → Nat → List UInt8 × List UInt8 × Bool
  | 0, _ => ([], [], false)
  | k + 1, i => if spOk p i = true then (p.take i, p.drop (i + 1), true) else spAt p k (i + 1)
def splitN (p : List UInt8) : List UInt8 × List UInt8 × Bool :=
  if p = [] ∨ asciiB p = false then ([], [], false) else if p.length ≤ 100 then ([], p, true) else spAt p p.length 0
theorem h81 (p : List UInt8) (hp : p.length ≤ 1000000) (r0 : List UInt8 × List UInt8 × Bool) : ∀ (k i : Nat) (n j : Int), i + k = p.length → j = i → n = p.length → r0 = spAt p k i →
    HD AA 0 [0, 2, 3, 4, 18, 19] l81_0 ⟨[.str p, .junk, .str [], .str [], .bool false, .junk, .junk, .junk, .junk, .junk, .junk, .junk, .junk, .junk, .junk, .junk, .junk, .junk, .int .i64 n, .int .i64 j, .junk, .junk, .junk, .junk, .junk, .junk, .junk, .junk, .junk, .junk, .junk, .junk, .junk, .junk, .junk, .junk, .junk, .junk, .junk, .junk, .junk, .junk, .junk, .junk, .junk, .junk, .junk, .junk, .junk, .junk, .junk, .junk, .junk, .junk, .junk, .junk, .junk, .junk], [], 0⟩ [.blk 0, .code r81_0] (Fin [(2, none), (3, none), (4, none)] 0 (.tuple [.str r0.1, .str r0.2.1, .bool r0.2.2]) [])
  | 0, i, n, j, h1, h2, h3, h4 => by
    refine hd_of (by unfold l81_0; rfl) ?_
    (simp (maxSteps := 2000000) (disch := omega) only [r81_0, go_sem, Nat.reduceAdd, Nat.reduceSub, Nat.reduceMul, Nat.reduceLT, Nat.reduceLeDiff, Nat.reduceEqDiff, Nat.reduceBEq, Int.reduceLT, Int.reduceLE, Int.reduceEq, Int.reduceToNat, ↓reduceIte, reduceCtorEq]) <;> repeat' (first | ((first | refine gd_dec ?_ ?_ | refine gd_ndec ?_ ?_ | refine cd_dec ?_ ?_ | refine cd_ndec ?_ ?_ | refine gdd_dec ?_ ?_ | refine gdd_ndec ?_ ?_ | refine gd_of ?_ ?_ | refine cd_of ?_ ?_ | refine gdd_of ?_ ?_) <;> intro hg <;> first | (exfalso; omega) | (simp (maxSteps := 2000000) (disch := omega) only [hg, r81_0, go_sem, Nat.reduceAdd, Nat.reduceSub, Nat.reduceMul, Nat.reduceLT, Nat.reduceLeDiff, Nat.reduceEqDiff, Nat.reduceBEq, Int.reduceLT, Int.reduceLE, Int.reduceEq, Int.reduceToNat, ↓reduceIte, reduceCtorEq])) | (refine And.intro ?_ ?_; focus omega) | omega)
    simp [h4, spAt]
  | k + 1, i, n, j, h1, h2, h3, h4 => by
    have hl : i < p.length := by omega
    have hg : p[i]? = some p[i] := List.getElem?_eq_getElem hl
    have hj : j.toNat = i := by omega
    refine hd_of (by unfold l81_0; rfl) ?_
    unfold spAt at h4
    by_cases hok : spOk p i = true
    · rw [if_pos hok] at h4
      simp only [spOk, hg, Bool.and_eq_true, decide_eq_true_eq, Option.some.injEq] at hok
      have h47 : (p[i].toNat : Int) = 47 := by rw [hok.1.1.1.1]; rfl
      (simp (maxSteps := 2000000) (disch := omega) only [hg, hj, h47, go_sem, Nat.reduceAdd, Nat.reduceSub, Nat.reduceMul, Nat.reduceLT, Nat.reduceLeDiff, Nat.reduceEqDiff, Nat.reduceBEq, Int.reduceLT, Int.reduceLE, Int.reduceEq, Int.reduceToNat, ↓reduceIte, reduceCtorEq]) <;> repeat' (first | ((first | refine gd_dec ?_ ?_ | refine gd_ndec ?_ ?_ | refine cd_dec ?_ ?_ | refine cd_ndec ?_ ?_ | refine gdd_dec ?_ ?_ | refine gdd_ndec ?_ ?_ | refine gd_of ?_ ?_ | refine cd_of ?_ ?_ | refine gdd_of ?_ ?_) <;> intro hg <;> first | (exfalso; omega) | (simp (maxSteps := 2000000) (disch := omega) only [hg, hg, hj, h47, go_sem, Nat.reduceAdd, Nat.reduceSub, Nat.reduceMul, Nat.reduceLT, Nat.reduceLeDiff, Nat.reduceEqDiff, Nat.reduceBEq, Int.reduceLT, Int.reduceLE, Int.reduceEq, Int.reduceToNat, ↓reduceIte, reduceCtorEq])) | (refine And.intro ?_ ?_; focus omega) | omega)
      simp [h4]
    · rw [if_neg hok] at h4
      have ih := h81 p hp r0 k (i + 1) n (j + 1) (by first | omega | (simp; omega) | (simp; done)) (by first | omega | (simp; omega) | (simp; done)) h3 h4
      simp only [spOk, hg, Bool.and_eq_true, decide_eq_true_eq, Option.some.injEq] at hok
      have hne : ¬ ((p[i].toNat : Int) = 47 ∧ 1 ≤ i ∧ i ≤ 155 ∧ i + 2 ≤ p.length ∧ p.length ≤ i + 101) := by
        rintro ⟨a, b⟩
        refine hok ⟨⟨⟨⟨UInt8.toNat_inj.1 (by rw [show (47 : UInt8).toNat = 47 from rfl]; omega), b.1⟩, b.2.1⟩, b.2.2.1⟩, b.2.2.2⟩
      (simp (maxSteps := 2000000) (disch := omega) only [hg, hj, lp_head, go_sem, Nat.reduceAdd, Nat.reduceSub, Nat.reduceMul, Nat.reduceLT, Nat.reduceLeDiff, Nat.reduceEqDiff, Nat.reduceBEq, Int.reduceLT, Int.reduceLE, Int.reduceEq, Int.reduceToNat, ↓reduceIte, reduceCtorEq]) <;> repeat' (first | ((first | refine gd_dec ?_ ?_ | refine gd_ndec ?_ ?_ | refine cd_dec ?_ ?_ | refine cd_ndec ?_ ?_ | refine gdd_dec ?_ ?_ | refine gdd_ndec ?_ ?_ | refine gd_of ?_ ?_ | refine cd_of ?_ ?_ | refine gdd_of ?_ ?_) <;> intro hg <;> first | (exfalso; omega) | (simp (maxSteps := 2000000) (disch := omega) only [hg, hg, hj, lp_head, go_sem, Nat.reduceAdd, Nat.reduceSub, Nat.reduceMul, Nat.reduceLT, Nat.reduceLeDiff, Nat.reduceEqDiff, Nat.reduceBEq, Int.reduceLT, Int.reduceLE, Int.reduceEq, Int.reduceToNat, ↓reduceIte, reduceCtorEq])) | (refine And.intro ?_ ?_; focus omega) | omega)
theorem s81 (p : List UInt8) (hp : p.length ≤ 1000000) : callT AA 81 [.str p] [] = some (.tuple [.str (splitN p).1, .str (splitN p).2.1, .bool (splitN p).2.2], []) := by
  have h1 := s82 p hp
  refine enter fn81 np81 rfl ?_
  unfold splitN
  by_cases h0 : p = [] ∨ asciiB p = false
  · rw [if_pos h0]
    by_cases he : p = []
    · (simp (maxSteps := 2000000) (disch := omega) only [b81, h1, he, go_sem, Nat.reduceAdd, Nat.reduceSub, Nat.reduceMul, Nat.reduceLT, Nat.reduceLeDiff, Nat.reduceEqDiff, Nat.reduceBEq, Int.reduceLT, Int.reduceLE, Int.reduceEq, Int.reduceToNat, ↓reduceIte, reduceCtorEq]) <;> repeat' (first | ((first | refine gd_dec ?_ ?_ | refine gd_ndec ?_ ?_ | refine cd_dec ?_ ?_ | refine cd_ndec ?_ ?_ | refine gdd_dec ?_ ?_ | refine gdd_ndec ?_ ?_ | refine gd_of ?_ ?_ | refine cd_of ?_ ?_ | refine gdd_of ?_ ?_) <;> intro hg <;> first | (exfalso; omega) | (simp (maxSteps := 2000000) (disch := omega) only [hg, b81, h1, he, go_sem, Nat.reduceAdd, Nat.reduceSub, Nat.reduceMul, Nat.reduceLT, Nat.reduceLeDiff, Nat.reduceEqDiff, Nat.reduceBEq, Int.reduceLT, Int.reduceLE, Int.reduceEq, Int.reduceToNat, ↓reduceIte, reduceCtorEq])) | (refine And.intro ?_ ?_; focus omega) | omega)
    · have ha : asciiB p = false := by simpa [he] using h0
      (simp (maxSteps := 2000000) (disch := omega) only [b81, h1, he, ha, go_sem, Nat.reduceAdd, Nat.reduceSub, Nat.reduceMul, Nat.reduceLT, Nat.reduceLeDiff, Nat.reduceEqDiff, Nat.reduceBEq, Int.reduceLT, Int.reduceLE, Int.reduceEq, Int.reduceToNat, ↓reduceIte, reduceCtorEq]) <;> repeat' (first | ((first | refine gd_dec ?_ ?_ | refine gd_ndec ?_ ?_ | refine cd_dec ?_ ?_ | refine cd_ndec ?_ ?_ | refine gdd_dec ?_ ?_ | refine gdd_ndec ?_ ?_ | refine gd_of ?_ ?_ | refine cd_of ?_ ?_ | refine gdd_of ?_ ?_) <;> intro hg <;> first | (exfalso; omega) | (simp (maxSteps := 2000000) (disch := omega) only [hg, b81, h1, he, ha, go_sem, Nat.reduceAdd, Nat.reduceSub, Nat.reduceMul, Nat.reduceLT, Nat.reduceLeDiff, Nat.reduceEqDiff, Nat.reduceBEq, Int.reduceLT, Int.reduceLE, Int.reduceEq, Int.reduceToNat, ↓reduceIte, reduceCtorEq])) | (refine And.intro ?_ ?_; focus omega) | omega)
  · rw [if_neg h0]
    have he : ¬ p = [] := fun h => h0 (.inl h)
    have ha : asciiB p = true := by
      cases hx : asciiB p with
      | true => rfl
      | false => exact (h0 (.inr hx)).elim
    by_cases hl : p.length ≤ 100
    · rw [if_pos hl]
      (simp (maxSteps := 2000000) (disch := omega) only [b81, h1, he, ha, go_sem, Nat.reduceAdd, Nat.reduceSub, Nat.reduceMul, Nat.reduceLT, Nat.reduceLeDiff, Nat.reduceEqDiff, Nat.reduceBEq, Int.reduceLT, Int.reduceLE, Int.reduceEq, Int.reduceToNat, ↓reduceIte, reduceCtorEq]) <;> repeat' (first | ((first | refine gd_dec ?_ ?_ | refine gd_ndec ?_ ?_ | refine cd_dec ?_ ?_ | refine cd_ndec ?_ ?_ | refine gdd_dec ?_ ?_ | refine gdd_ndec ?_ ?_ | refine gd_of ?_ ?_ | refine cd_of ?_ ?_ | refine gdd_of ?_ ?_) <;> intro hg <;> first | (exfalso; omega) | (simp (maxSteps := 2000000) (disch := omega) only [hg, b81, h1, he, ha, go_sem, Nat.reduceAdd, Nat.reduceSub, Nat.reduceMul, Nat.reduceLT, Nat.reduceLeDiff, Nat.reduceEqDiff, Nat.reduceBEq, Int.reduceLT, Int.reduceLE, Int.reduceEq, Int.reduceToNat, ↓reduceIte, reduceCtorEq])) | (refine And.intro ?_ ?_; focus omega) | omega)
    · rw [if_neg hl]
      (simp (maxSteps := 2000000) (disch := omega) only [b81, h1, he, ha, lp_head, go_sem, Nat.reduceAdd, Nat.reduceSub, Nat.reduceMul, Nat.reduceLT, Nat.reduceLeDiff, Nat.reduceEqDiff, Nat.reduceBEq, Int.reduceLT, Int.reduceLE, Int.reduceEq, Int.reduceToNat, ↓reduceIte, reduceCtorEq]) <;> repeat' (first | ((first | refine gd_dec ?_ ?_ | refine gd_ndec ?_ ?_ | refine cd_dec ?_ ?_ | refine cd_ndec ?_ ?_ | refine gdd_dec ?_ ?_ | refine gdd_ndec ?_ ?_ | refine gd_of ?_ ?_ | refine cd_of ?_ ?_ | refine gdd_of ?_ ?_) <;> intro hg <;> first | (exfalso; omega) | (simp (maxSteps := 2000000) (disch := omega) only [hg, b81, h1, he, ha, lp_head, go_sem, Nat.reduceAdd, Nat.reduceSub, Nat.reduceMul, Nat.reduceLT, Nat.reduceLeDiff, Nat.reduceEqDiff, Nat.reduceBEq, Int.reduceLT, Int.reduceLE, Int.reduceEq, Int.reduceToNat, ↓reduceIte, reduceCtorEq])) | (refine And.intro ?_ ?_; focus omega) | omega)
      exact h81 p hp _ p.length 0 _ _ (by omega) rfl rfl rfl
theorem s44 (p : List UInt8) (hp : p.length ≤ 1000000) : callT AA 44 [.str p] [] = some (.bool (splitN p).2.2, []) := by
  have h1 := s81 p hp
  refine enter fn44 np44 rfl ?_
  (simp (maxSteps := 2000000) (disch := omega) only [b44, h1, go_sem, Nat.reduceAdd, Nat.reduceSub, Nat.reduceMul, Nat.reduceLT, Nat.reduceLeDiff, Nat.reduceEqDiff, Nat.reduceBEq, Int.reduceLT, Int.reduceLE, Int.reduceEq, Int.reduceToNat, ↓reduceIte, reduceCtorEq]) <;> repeat' (first | ((first | refine gd_dec ?_ ?_ | refine gd_ndec ?_ ?_ | refine cd_dec ?_ ?_ | refine cd_ndec ?_ ?_ | refine gdd_dec ?_ ?_ | refine gdd_ndec ?_ ?_ | refine gd_of ?_ ?_ | refine cd_of ?_ ?_ | refine gdd_of ?_ ?_) <;> intro hg <;> first | (exfalso; omega) | (simp (maxSteps := 2000000) (disch := omega) only [hg, b44, h1, go_sem, Nat.reduceAdd, Nat.reduceSub, Nat.reduceMul, Nat.reduceLT, Nat.reduceLeDiff, Nat.reduceEqDiff, Nat.reduceBEq, Int.reduceLT, Int.reduceLE, Int.reduceEq, Int.reduceToNat, ↓reduceIte, reduceCtorEq])) | (refine And.intro ?_ ?_; focus omega) | omega)
def idB (n : Int) : Bool := decide (0 ≤ n ∧ n < 2097152)
def timeB (n : Int) : Bool := decide (0 ≤ n ∧ n < 8589934592)
def linkB (s : List UInt8) : Bool := decide (s ≠ []) && decide ((s.length : Int) ≤ 100) && asciiB s
theorem i46 (n : Int) : callT AA 46 [.int .i64 n] [] = some (.bool (idB n), []) := s46 n
theorem i48 (n : Int) : callT AA 48 [.int .i64 n] [] = some (.bool (timeB n), []) := s48 n
theorem i45 (s : List UInt8) (hs : s.length ≤ 1000000) : callT AA 45 [.str s] [] = some (.bool (linkB s), []) := s45 s hs
theorem idB_iff {n : Int} : idB n = true ↔ 0 ≤ n ∧ n < 2097152 := by simp [idB]
theorem timeB_iff {n : Int} : timeB n = true ↔ 0 ≤ n ∧ n < 8589934592 := by simp [timeB]
attribute [irreducible] idB timeB linkB
def fitsB (h : Hd) : Bool :=
  idB h.mode && idB h.uid && idB h.gid && timeB h.size && timeB h.time &&
  (if h.type = 49 ∨ h.type = 50 then linkB h.link && decide (h.size = 0) else
   if h.type = 53 then decide (h.link = []) && decide (h.size = 0) else
   if h.type = 48 ∨ h.type = 120 then decide (h.link = []) else false)
theorem ty_eq (t : UInt8) (n : Nat) (hn : n < 256) : ((t.toNat : Int) = n) = (t = UInt8.ofNat n) := by
  apply propext
  constructor
  · intro h
    have : t.toNat = n := by omega
    rw [← this]; simp
  · rintro rfl
    simp; omega
theorem s115 (h : Hd) (hl : h.link.length ≤ 1000000) : callT AA 115 [h.av] [] = some (.bool (fitsB h), []) := by
  have h1 := i45 h.link hl
  have t49 : ((h.type.toNat : Int) = 49) = (h.type = 49) := ty_eq _ 49 (by omega)
  have t50 : ((h.type.toNat : Int) = 50) = (h.type = 50) := ty_eq _ 50 (by omega)
  have t53 : ((h.type.toNat : Int) = 53) = (h.type = 53) := ty_eq _ 53 (by omega)
  have t48 : ((h.type.toNat : Int) = 48) = (h.type = 48) := ty_eq _ 48 (by omega)
  have t120 : ((h.type.toNat : Int) = 120) = (h.type = 120) := ty_eq _ 120 (by omega)
  refine enter fn115 np115 rfl ?_
  (simp (maxSteps := 2000000) (disch := omega) only [b115, h1, i46, i48, t49, t50, t53, t48, t120, go_sem, Nat.reduceAdd, Nat.reduceSub, Nat.reduceMul, Nat.reduceLT, Nat.reduceLeDiff, Nat.reduceEqDiff, Nat.reduceBEq, Int.reduceLT, Int.reduceLE, Int.reduceEq, Int.reduceToNat, ↓reduceIte, reduceCtorEq]) <;> repeat' (first | ((first | refine gd_dec ?_ ?_ | refine gd_ndec ?_ ?_ | refine cd_dec ?_ ?_ | refine cd_ndec ?_ ?_ | refine gdd_dec ?_ ?_ | refine gdd_ndec ?_ ?_ | refine gd_of ?_ ?_ | refine cd_of ?_ ?_ | refine gdd_of ?_ ?_) <;> intro hg <;> first | (exfalso; omega) | (simp (maxSteps := 2000000) (disch := omega) only [hg, b115, h1, i46, i48, t49, t50, t53, t48, t120, go_sem, Nat.reduceAdd, Nat.reduceSub, Nat.reduceMul, Nat.reduceLT, Nat.reduceLeDiff, Nat.reduceEqDiff, Nat.reduceBEq, Int.reduceLT, Int.reduceLE, Int.reduceEq, Int.reduceToNat, ↓reduceIte, reduceCtorEq])) | (refine And.intro ?_ ?_; focus omega) | omega)
  all_goals (clear h1 t49 t50 t53 t48 t120)
  (all_goals (first | (simp_all [fitsB]; done) | (simp_all [fitsB]; omega) | (simp_all [fitsB]; intros; omega) | (simp_all [fitsB]; rw [Bool.eq_iff_iff]; simp; done) | (simp_all [fitsB]; rw [Bool.eq_iff_iff]; simp; omega)))
end Go.Abs
/- HEADERS, WRITTEN. -/
namespace Go.Abs
open Am
set_option maxRecDepth 10000
set_option linter.unusedSimpArgs false
@[go_sem high] theorem aBin_and7 {e : EqK} {c : Bool} {x : Int} (h0 : 0 ≤ x) (h1 : x ≤ 9223372036854775807) : aBin .and e c (.int .i64 x) (.int .i64 7) = some (.int .i64 (x % 8)) := by
  rw [aBin_and]
  have e : ((BitVec.ofInt IntKind.i64.bits x &&& BitVec.ofInt IntKind.i64.bits 7).toNat : Int) = x % 8 := and7 h0 h1
  rw [e, wrap_i64 (by omega) (by omega)]
/-- digits in octal, from the last on -/
def octW (bs : List UInt8) (pos : Nat) : Nat → Int → List UInt8
  | 0, _ => bs
  | k + 1, n => octW (bs.set (pos + k) (UInt8.ofNat (48 + n % 8).toNat)) pos k (n / 8)
theorem octW_length (pos : Nat) : ∀ (k : Nat) (bs : List UInt8) (n : Int), (octW bs pos k n).length = bs.length
  | 0, bs, n => rfl
  | k + 1, bs, n => by
    unfold octW
    rw [octW_length pos k]
    simp
theorem h116 (pos : Nat) (r0 : List UInt8) : ∀ (k : Nat) (bs : List UInt8) (q : Nat) (n i p : Int), p = pos → i = (k : Int) - 1 → q = bs.length → bs.length ≤ 1000000 → pos + k ≤ bs.length → 0 ≤ n → n ≤ 9223372036854775807 → r0 = octW bs pos k n →
    HD AA 1 [0, 1, 3, 8] l116_0 ⟨[.own 0 1 0 q false, .int .i64 p, .junk, .int .i64 n, .junk, .junk, .junk, .junk, .int .i64 i, .junk, .junk, .junk, .junk, .junk, .junk, .junk, .junk, .junk, .junk, .junk, .junk, .junk, .junk, .junk, .junk, .junk], [(0, .row (bs.map .byte) 1)], 2⟩ [.blk 0] (Fin [] 1 (.tuple []) [(0, .row (r0.map .byte) 1)])
  | 0, bs, q, n, i, p, h1, h2, h3, h4, h5, h6, h7, h8 => by
    refine hd_of (by unfold l116_0; rfl) ?_
    (simp (maxSteps := 2000000) (disch := omega) only [go_sem, Nat.reduceAdd, Nat.reduceSub, Nat.reduceMul, Nat.reduceLT, Nat.reduceLeDiff, Nat.reduceEqDiff, Nat.reduceBEq, Int.reduceLT, Int.reduceLE, Int.reduceEq, Int.reduceToNat, ↓reduceIte, reduceCtorEq]) <;> repeat' (first | ((first | refine gd_dec ?_ ?_ | refine gd_ndec ?_ ?_ | refine cd_dec ?_ ?_ | refine cd_ndec ?_ ?_ | refine gdd_dec ?_ ?_ | refine gdd_ndec ?_ ?_ | refine gd_of ?_ ?_ | refine cd_of ?_ ?_ | refine gdd_of ?_ ?_) <;> intro hg <;> first | (exfalso; omega) | (simp (maxSteps := 2000000) (disch := omega) only [hg, go_sem, Nat.reduceAdd, Nat.reduceSub, Nat.reduceMul, Nat.reduceLT, Nat.reduceLeDiff, Nat.reduceEqDiff, Nat.reduceBEq, Int.reduceLT, Int.reduceLE, Int.reduceEq, Int.reduceToNat, ↓reduceIte, reduceCtorEq])) | (refine And.intro ?_ ?_; focus omega) | omega)
    simp [h8, octW]
  | k + 1, bs, q, n, i, p, h1, h2, h3, h4, h5, h6, h7, h8 => by
    have ih := h116 pos r0 k (bs.set (pos + k) (UInt8.ofNat (48 + n % 8).toNat)) q (n / 8) (i - 1) p h1 (by first | omega | (simp; omega) | (simp; done)) (by simp [h3]) (by simp [h4]) (by simp; omega) (by omega) (by omega) h8
    have hi : (p + i).toNat = pos + k := by omega
    refine hd_of (by unfold l116_0; rfl) ?_
    (simp (maxSteps := 2000000) (disch := omega) only [and7, hi, lp_head, go_sem, Nat.reduceAdd, Nat.reduceSub, Nat.reduceMul, Nat.reduceLT, Nat.reduceLeDiff, Nat.reduceEqDiff, Nat.reduceBEq, Int.reduceLT, Int.reduceLE, Int.reduceEq, Int.reduceToNat, ↓reduceIte, reduceCtorEq]) <;> repeat' (first | ((first | refine gd_dec ?_ ?_ | refine gd_ndec ?_ ?_ | refine cd_dec ?_ ?_ | refine cd_ndec ?_ ?_ | refine gdd_dec ?_ ?_ | refine gdd_ndec ?_ ?_ | refine gd_of ?_ ?_ | refine cd_of ?_ ?_ | refine gdd_of ?_ ?_) <;> intro hg <;> first | (exfalso; omega) | (simp (maxSteps := 2000000) (disch := omega) only [hg, and7, hi, lp_head, go_sem, Nat.reduceAdd, Nat.reduceSub, Nat.reduceMul, Nat.reduceLT, Nat.reduceLeDiff, Nat.reduceEqDiff, Nat.reduceBEq, Int.reduceLT, Int.reduceLE, Int.reduceEq, Int.reduceToNat, ↓reduceIte, reduceCtorEq])) | (refine And.intro ?_ ?_; focus omega) | omega)
theorem s116 (bs : List UInt8) (p digits n : Int) (pos k q : Nat) (h1 : p = pos) (h2 : digits = k) (h3 : q = bs.length) (h4 : bs.length ≤ 1000000) (h5 : pos + k ≤ bs.length) (h6 : 0 ≤ n) (h7 : n ≤ 9223372036854775807) :
    callT AA 116 [.own 0 1 0 q false, .int .i64 p, .int .i64 digits, .int .i64 n] [(0, .row (bs.map .byte) 1)] = some (.tuple [], [(0, .row ((octW bs pos k n).map .byte) 1)]) := by
  refine enter fn116 np116 rfl ?_
  (simp (maxSteps := 2000000) (disch := omega) only [b116, lp_head, go_sem, Nat.reduceAdd, Nat.reduceSub, Nat.reduceMul, Nat.reduceLT, Nat.reduceLeDiff, Nat.reduceEqDiff, Nat.reduceBEq, Int.reduceLT, Int.reduceLE, Int.reduceEq, Int.reduceToNat, ↓reduceIte, reduceCtorEq]) <;> repeat' (first | ((first | refine gd_dec ?_ ?_ | refine gd_ndec ?_ ?_ | refine cd_dec ?_ ?_ | refine cd_ndec ?_ ?_ | refine gdd_dec ?_ ?_ | refine gdd_ndec ?_ ?_ | refine gd_of ?_ ?_ | refine cd_of ?_ ?_ | refine gdd_of ?_ ?_) <;> intro hg <;> first | (exfalso; omega) | (simp (maxSteps := 2000000) (disch := omega) only [hg, b116, lp_head, go_sem, Nat.reduceAdd, Nat.reduceSub, Nat.reduceMul, Nat.reduceLT, Nat.reduceLeDiff, Nat.reduceEqDiff, Nat.reduceBEq, Int.reduceLT, Int.reduceLE, Int.reduceEq, Int.reduceToNat, ↓reduceIte, reduceCtorEq])) | (refine And.intro ?_ ?_; focus omega) | omega)
  exact h116 pos _ k bs q n (digits - 1) p h1 (by omega) h3 h4 h5 h6 h7 rfl
def sumL : Nat → List UInt8 → Int
  | _, [] => 0
  | i, c :: r => (if i < 148 ∨ 156 ≤ i then (c.toNat : Int) else 0) + sumL (i + 1) r
theorem sumL_le : ∀ (r : List UInt8) (i : Nat), 0 ≤ sumL i r ∧ sumL i r ≤ 255 * r.length
  | [], i => by simp [sumL]
  | c :: r, i => by
    have ih := sumL_le r (i + 1)
    have hc := c.toNat_lt
    unfold sumL
    simp only [List.length_cons]
    split <;> omega
theorem h117 (c t : Bool) (bs : List UInt8) (hb : bs.length ≤ 1000000) (r0 : Int) : ∀ (rest done : List UInt8) (acc n i : Int), bs = done ++ rest → i = done.length → n = bs.length → (0 ≤ acc ∧ acc ≤ 256 + 255 * done.length) → r0 = acc + sumL done.length rest →
    HD AA 0 [2, 3, 6, 7, 8] l117_0 ⟨[.junk, .junk, .int .i64 0, .int .i64 acc, .junk, .junk, .view 1 (bs.map .byte) c t, .int .i64 n, .int .i64 i, .junk, .junk, .junk, .junk, .junk, .junk, .junk, .junk, .junk, .junk, .junk, .junk, .junk, .junk, .junk, .junk], [], 0⟩ [.blk 0, .code r117_0] (Fin [(2, none)] 0 (.int .i64 r0) [])
  | [], done, acc, n, i, h1, h2, h3, h4, h5 => by
    subst h1
    simp at h3
    refine hd_of (by unfold l117_0; rfl) ?_
    (simp (maxSteps := 2000000) (disch := omega) only [r117_0, go_sem, Nat.reduceAdd, Nat.reduceSub, Nat.reduceMul, Nat.reduceLT, Nat.reduceLeDiff, Nat.reduceEqDiff, Nat.reduceBEq, Int.reduceLT, Int.reduceLE, Int.reduceEq, Int.reduceToNat, ↓reduceIte, reduceCtorEq]) <;> repeat' (first | ((first | refine gd_dec ?_ ?_ | refine gd_ndec ?_ ?_ | refine cd_dec ?_ ?_ | refine cd_ndec ?_ ?_ | refine gdd_dec ?_ ?_ | refine gdd_ndec ?_ ?_ | refine gd_of ?_ ?_ | refine cd_of ?_ ?_ | refine gdd_of ?_ ?_) <;> intro hg <;> first | (exfalso; omega) | (simp (maxSteps := 2000000) (disch := omega) only [hg, r117_0, go_sem, Nat.reduceAdd, Nat.reduceSub, Nat.reduceMul, Nat.reduceLT, Nat.reduceLeDiff, Nat.reduceEqDiff, Nat.reduceBEq, Int.reduceLT, Int.reduceLE, Int.reduceEq, Int.reduceToNat, ↓reduceIte, reduceCtorEq])) | (refine And.intro ?_ ?_; focus omega) | omega)
    simp [h5, sumL]
  | x :: r, done, acc, n, i, h1, h2, h3, h4, h5 => by
    have hg : bs[i.toNat]? = some x := by
      rw [h1]
      simp [h2]
    have hl : i.toNat < bs.length := by rw [h1]; simp; omega
    have hx := x.toNat_lt
    refine hd_of (by unfold l117_0; rfl) ?_
    unfold sumL at h5
    by_cases hs : done.length < 148 ∨ 156 ≤ done.length
    · rw [if_pos hs] at h5
      have ih := h117 c t bs hb r0 r (done ++ [x]) (acc + x.toNat) n (i + 1) (by simp [h1]) (by first | omega | (simp; omega) | (simp; done)) h3 (by first | omega | (simp; omega) | (simp; done)) (by rw [h5]; simp; omega)
      (simp (maxSteps := 2000000) (disch := omega) only [hg, lp_head, go_sem, Nat.reduceAdd, Nat.reduceSub, Nat.reduceMul, Nat.reduceLT, Nat.reduceLeDiff, Nat.reduceEqDiff, Nat.reduceBEq, Int.reduceLT, Int.reduceLE, Int.reduceEq, Int.reduceToNat, ↓reduceIte, reduceCtorEq]) <;> repeat' (first | ((first | refine gd_dec ?_ ?_ | refine gd_ndec ?_ ?_ | refine cd_dec ?_ ?_ | refine cd_ndec ?_ ?_ | refine gdd_dec ?_ ?_ | refine gdd_ndec ?_ ?_ | refine gd_of ?_ ?_ | refine cd_of ?_ ?_ | refine gdd_of ?_ ?_) <;> intro hg <;> first | (exfalso; omega) | (simp (maxSteps := 2000000) (disch := omega) only [hg, hg, lp_head, go_sem, Nat.reduceAdd, Nat.reduceSub, Nat.reduceMul, Nat.reduceLT, Nat.reduceLeDiff, Nat.reduceEqDiff, Nat.reduceBEq, Int.reduceLT, Int.reduceLE, Int.reduceEq, Int.reduceToNat, ↓reduceIte, reduceCtorEq])) | (refine And.intro ?_ ?_; focus omega) | omega)
    · rw [if_neg hs] at h5
      have ih := h117 c t bs hb r0 r (done ++ [x]) acc n (i + 1) (by simp [h1]) (by first | omega | (simp; omega) | (simp; done)) h3 (by first | omega | (simp; omega) | (simp; done)) (by rw [h5]; simp)
      (simp (maxSteps := 2000000) (disch := omega) only [hg, lp_head, go_sem, Nat.reduceAdd, Nat.reduceSub, Nat.reduceMul, Nat.reduceLT, Nat.reduceLeDiff, Nat.reduceEqDiff, Nat.reduceBEq, Int.reduceLT, Int.reduceLE, Int.reduceEq, Int.reduceToNat, ↓reduceIte, reduceCtorEq]) <;> repeat' (first | ((first | refine gd_dec ?_ ?_ | refine gd_ndec ?_ ?_ | refine cd_dec ?_ ?_ | refine cd_ndec ?_ ?_ | refine gdd_dec ?_ ?_ | refine gdd_ndec ?_ ?_ | refine gd_of ?_ ?_ | refine cd_of ?_ ?_ | refine gdd_of ?_ ?_) <;> intro hg <;> first | (exfalso; omega) | (simp (maxSteps := 2000000) (disch := omega) only [hg, hg, lp_head, go_sem, Nat.reduceAdd, Nat.reduceSub, Nat.reduceMul, Nat.reduceLT, Nat.reduceLeDiff, Nat.reduceEqDiff, Nat.reduceBEq, Int.reduceLT, Int.reduceLE, Int.reduceEq, Int.reduceToNat, ↓reduceIte, reduceCtorEq])) | (refine And.intro ?_ ?_; focus omega) | omega)
theorem s117 (c t : Bool) (bs : List UInt8) (hb : bs.length ≤ 1000000) : callT AA 117 [.view 1 (bs.map .byte) c t] [] = some (.int .i64 (256 + sumL 0 bs), []) := by
  refine enter fn117 np117 rfl ?_
  (simp (maxSteps := 2000000) (disch := omega) only [b117, lp_head, go_sem, Nat.reduceAdd, Nat.reduceSub, Nat.reduceMul, Nat.reduceLT, Nat.reduceLeDiff, Nat.reduceEqDiff, Nat.reduceBEq, Int.reduceLT, Int.reduceLE, Int.reduceEq, Int.reduceToNat, ↓reduceIte, reduceCtorEq]) <;> repeat' (first | ((first | refine gd_dec ?_ ?_ | refine gd_ndec ?_ ?_ | refine cd_dec ?_ ?_ | refine cd_ndec ?_ ?_ | refine gdd_dec ?_ ?_ | refine gdd_ndec ?_ ?_ | refine gd_of ?_ ?_ | refine cd_of ?_ ?_ | refine gdd_of ?_ ?_) <;> intro hg <;> first | (exfalso; omega) | (simp (maxSteps := 2000000) (disch := omega) only [hg, b117, lp_head, go_sem, Nat.reduceAdd, Nat.reduceSub, Nat.reduceMul, Nat.reduceLT, Nat.reduceLeDiff, Nat.reduceEqDiff, Nat.reduceBEq, Int.reduceLT, Int.reduceLE, Int.reduceEq, Int.reduceToNat, ↓reduceIte, reduceCtorEq])) | (refine And.intro ?_ ?_; focus omega) | omega)
  exact h117 c t bs hb _ bs [] _ _ _ rfl rfl rfl (by simp) rfl
end Go.Abs
/- HEADERS, WRITTEN: Encode. -/
namespace Go.Abs
open Am
set_option maxRecDepth 10000
set_option linter.unusedSimpArgs false
def putA (bs : List UInt8) (off n : Nat) (xs : List UInt8) : List UInt8 := bs.take off ++ xs.take (min xs.length n) ++ bs.drop (off + min xs.length n)
theorem putA_length {bs xs : List UInt8} {off n : Nat} (h : off + n ≤ bs.length) : (putA bs off n xs).length = bs.length := by
  unfold putA
  simp
  omega
@[go_sem high] theorem row_put {off n : Nat} {bs xs : List UInt8} : List.take off (bs.map AVal.byte) ++ List.take (min xs.length n) (xs.map AVal.byte) ++ List.drop (off + min xs.length n) (bs.map AVal.byte) = (putA bs off n xs).map .byte := by
  simp [putA]
@[go_sem high] theorem row_put0 {n : Nat} {bs xs : List UInt8} : List.take (min xs.length n) (xs.map AVal.byte) ++ List.drop (min xs.length n) (bs.map AVal.byte) = (putA bs 0 n xs).map .byte := by
  simp [putA]
def zeros512 : List UInt8 := List.replicate 512 0
theorem zeros512_eq : List.replicate 512 (0 : UInt8) = zeros512 := rfl
theorem zeros512_length : zeros512.length = 512 := by simp [zeros512]
def magicB : List UInt8 := [117, 115, 116, 97, 114, 0, 48, 48]
theorem magic_eq : AVal.str [117, 115, 116, 97, 114, 0, 48, 48] = AVal.str magicB := rfl
/-- the block ahead of its sum -/
def encH (h : Hd) (pre name : List UInt8) : List UInt8 :=
  let b1 := putA zeros512 0 512 name
  let b2 := octW b1 100 7 h.mode
  let b3 := octW b2 108 7 h.uid
  let b4 := octW b3 116 7 h.gid
  let b5 := octW b4 124 11 h.size
  let b6 := octW b5 136 11 h.time
  let b7 := b6.set 156 h.type
  let b8 := putA b7 157 355 h.link
  let b9 := putA b8 257 255 magicB
  let b10 := octW b9 329 7 0
  let b11 := octW b10 337 7 0
  putA b11 345 167 pre
def encB (h : Hd) : List UInt8 :=
  let b := encH h (splitN h.path).1 (splitN h.path).2.1
  (octW b 148 6 (256 + sumL 0 b)).set 155 32
def encOk (h : Hd) : Bool := (splitN h.path).2.2 && fitsB h
set_option maxHeartbeats 2000000 in
theorem s70 (h : Hd) (hp : h.path.length ≤ 1000000) (hl : h.link.length ≤ 1000000) (hok : encOk h = true) : callT AA 70 [h.av] [] = some (.tuple [.own 0 1 0 512 false, .lit .nilIface], [(0, .row ((encB h).map .byte) 1)]) := by
  have h1 := s81 h.path hp
  have h2 := s115 h hl
  simp only [encOk, Bool.and_eq_true] at hok
  obtain ⟨k1, k2⟩ := hok
  rw [k1] at h1
  rw [k2] at h2
  simp only [Hd.av] at h2
  have f : idB h.mode = true ∧ idB h.uid = true ∧ idB h.gid = true ∧ timeB h.size = true ∧ timeB h.time = true := by
    simp only [fitsB, Bool.and_eq_true] at k2
    exact ⟨k2.1.1.1.1.1, k2.1.1.1.1.2, k2.1.1.1.2, k2.1.1.2, k2.1.2⟩
  simp only [idB_iff, timeB_iff] at f
  obtain ⟨f1, f2, f3, f4, f5⟩ := f
  unfold encB encH
  simp only []
  generalize (splitN h.path).1 = pre at *
  generalize (splitN h.path).2.1 = name at *
  have l0 := zeros512_length
  generalize e1 : putA zeros512 0 512 name = b1
  have l1 : b1.length = 512 := by rw [← e1, putA_length (by omega)]; exact l0
  have c2 := s116 b1 100 7 h.mode 100 7 512 rfl rfl l1.symm (by omega) (by omega) f1.1 (by omega)
  generalize e2 : octW b1 100 7 h.mode = b2 at c2
  have l2 : b2.length = 512 := by rw [← e2, octW_length]; exact l1
  have c3 := s116 b2 108 7 h.uid 108 7 512 rfl rfl l2.symm (by omega) (by omega) f2.1 (by omega)
  generalize e3 : octW b2 108 7 h.uid = b3 at c3
  have l3 : b3.length = 512 := by rw [← e3, octW_length]; exact l2
  have c4 := s116 b3 116 7 h.gid 116 7 512 rfl rfl l3.symm (by omega) (by omega) f3.1 (by omega)
  generalize e4 : octW b3 116 7 h.gid = b4 at c4
  have l4 : b4.length = 512 := by rw [← e4, octW_length]; exact l3
  have c5 := s116 b4 124 11 h.size 124 11 512 rfl rfl l4.symm (by omega) (by omega) f4.1 (by omega)
  generalize e5 : octW b4 124 11 h.size = b5 at c5
  have l5 : b5.length = 512 := by rw [← e5, octW_length]; exact l4
  have c6 := s116 b5 136 11 h.time 136 11 512 rfl rfl l5.symm (by omega) (by omega) f5.1 (by omega)
  generalize e6 : octW b5 136 11 h.time = b6 at c6
  have l6 : b6.length = 512 := by rw [← e6, octW_length]; exact l5
  generalize e7 : b6.set 156 h.type = b7
  have l7 : b7.length = 512 := by rw [← e7, List.length_set]; exact l6
  generalize e8 : putA b7 157 355 h.link = b8
  have l8 : b8.length = 512 := by rw [← e8, putA_length (by omega)]; exact l7
  generalize e9 : putA b8 257 255 magicB = b9
  have l9 : b9.length = 512 := by rw [← e9, putA_length (by omega)]; exact l8
  have c10 := s116 b9 329 7 0 329 7 512 rfl rfl l9.symm (by omega) (by omega) (by omega) (by omega)
  generalize e10 : octW b9 329 7 0 = b10 at c10
  have l10 : b10.length = 512 := by rw [← e10, octW_length]; exact l9
  have c11 := s116 b10 337 7 0 337 7 512 rfl rfl l10.symm (by omega) (by omega) (by omega) (by omega)
  generalize e11 : octW b10 337 7 0 = b11 at c11
  have l11 : b11.length = 512 := by rw [← e11, octW_length]; exact l10
  generalize e12 : putA b11 345 167 pre = b12
  have l12 : b12.length = 512 := by rw [← e12, putA_length (by omega)]; exact l11
  have hs := sumL_le b12 0
  have c12 := fun c t => s117 c t b12 (by omega)
  have c13 := s116 b12 148 6 (256 + sumL 0 b12) 148 6 512 rfl rfl l12.symm (by omega) (by omega) (by omega) (by omega)
  generalize e13 : octW b12 148 6 (256 + sumL 0 b12) = b13 at c13
  have l13 : b13.length = 512 := by rw [← e13, octW_length]; exact l12
  have ht := h.type.toNat_lt
  have t8 : UInt8.ofNat (h.type.toNat : Int).toNat = h.type := by simp
  have t12 : (b12.map AVal.byte).take 512 = b12.map AVal.byte := List.take_of_length_le (by simp; omega)
  refine enter fn70 np70 rfl ?_
  (simp (maxSteps := 2000000) (disch := omega) only [b70, h1, h2, t12, magic_eq, zeros512_eq, e1, c2, c3, c4, c5, c6, t8, e7, e8, e9, c10, c11, e12, c12, c13, go_sem, Nat.reduceAdd, Nat.reduceSub, Nat.reduceMul, Nat.reduceLT, Nat.reduceLeDiff, Nat.reduceEqDiff, Nat.reduceBEq, Int.reduceLT, Int.reduceLE, Int.reduceEq, Int.reduceToNat, ↓reduceIte, reduceCtorEq]) <;> repeat' (first | ((first | refine gd_dec ?_ ?_ | refine gd_ndec ?_ ?_ | refine cd_dec ?_ ?_ | refine cd_ndec ?_ ?_ | refine gdd_dec ?_ ?_ | refine gdd_ndec ?_ ?_ | refine gd_of ?_ ?_ | refine cd_of ?_ ?_ | refine gdd_of ?_ ?_) <;> intro hg <;> first | (exfalso; omega) | (simp (maxSteps := 2000000) (disch := omega) only [hg, b70, h1, h2, t12, magic_eq, zeros512_eq, e1, c2, c3, c4, c5, c6, t8, e7, e8, e9, c10, c11, e12, c12, c13, go_sem, Nat.reduceAdd, Nat.reduceSub, Nat.reduceMul, Nat.reduceLT, Nat.reduceLeDiff, Nat.reduceEqDiff, Nat.reduceBEq, Int.reduceLT, Int.reduceLE, Int.reduceEq, Int.reduceToNat, ↓reduceIte, reduceCtorEq])) | (refine And.intro ?_ ?_; focus omega) | omega)
  rfl
theorem s70no (h : Hd) (hp : h.path.length ≤ 1000000) (hl : h.link.length ≤ 1000000) (hok : encOk h = false) : callT AA 70 [h.av] [] = some (.tuple [.lit (.slice none 0 0), .iface 58 (.int .i64 14)], []) := by
  have h1 := s81 h.path hp
  have h2 := s115 h hl
  simp only [Hd.av] at h2
  unfold encOk at hok
  refine enter fn70 np70 rfl ?_
  cases hk : (splitN h.path).2.2 with
  | false =>
    rw [hk] at h1
    (simp (maxSteps := 2000000) (disch := omega) only [b70, h1, h2, go_sem, Nat.reduceAdd, Nat.reduceSub, Nat.reduceMul, Nat.reduceLT, Nat.reduceLeDiff, Nat.reduceEqDiff, Nat.reduceBEq, Int.reduceLT, Int.reduceLE, Int.reduceEq, Int.reduceToNat, ↓reduceIte, reduceCtorEq]) <;> repeat' (first | ((first | refine gd_dec ?_ ?_ | refine gd_ndec ?_ ?_ | refine cd_dec ?_ ?_ | refine cd_ndec ?_ ?_ | refine gdd_dec ?_ ?_ | refine gdd_ndec ?_ ?_ | refine gd_of ?_ ?_ | refine cd_of ?_ ?_ | refine gdd_of ?_ ?_) <;> intro hg <;> first | (exfalso; omega) | (simp (maxSteps := 2000000) (disch := omega) only [hg, b70, h1, h2, go_sem, Nat.reduceAdd, Nat.reduceSub, Nat.reduceMul, Nat.reduceLT, Nat.reduceLeDiff, Nat.reduceEqDiff, Nat.reduceBEq, Int.reduceLT, Int.reduceLE, Int.reduceEq, Int.reduceToNat, ↓reduceIte, reduceCtorEq])) | (refine And.intro ?_ ?_; focus omega) | omega)
  | true =>
    rw [hk] at h1
    have hf : fitsB h = false := by simpa [hk] using hok
    rw [hf] at h2
    (simp (maxSteps := 2000000) (disch := omega) only [b70, h1, h2, go_sem, Nat.reduceAdd, Nat.reduceSub, Nat.reduceMul, Nat.reduceLT, Nat.reduceLeDiff, Nat.reduceEqDiff, Nat.reduceBEq, Int.reduceLT, Int.reduceLE, Int.reduceEq, Int.reduceToNat, ↓reduceIte, reduceCtorEq]) <;> repeat' (first | ((first | refine gd_dec ?_ ?_ | refine gd_ndec ?_ ?_ | refine cd_dec ?_ ?_ | refine cd_ndec ?_ ?_ | refine gdd_dec ?_ ?_ | refine gdd_ndec ?_ ?_ | refine gd_of ?_ ?_ | refine cd_of ?_ ?_ | refine gdd_of ?_ ?_) <;> intro hg <;> first | (exfalso; omega) | (simp (maxSteps := 2000000) (disch := omega) only [hg, b70, h1, h2, go_sem, Nat.reduceAdd, Nat.reduceSub, Nat.reduceMul, Nat.reduceLT, Nat.reduceLeDiff, Nat.reduceEqDiff, Nat.reduceBEq, Int.reduceLT, Int.reduceLE, Int.reduceEq, Int.reduceToNat, ↓reduceIte, reduceCtorEq])) | (refine And.intro ?_ ?_; focus omega) | omega)
end Go.Abs
/- RECORDS: numbers as texts; a line's length; keywords; lines. -/
namespace Go.Abs
open Am
set_option maxRecDepth 10000
set_option linter.unusedSimpArgs false
@[go_sem high] theorem aBin_saddc {e : EqK} {c : Bool} {s t : List UInt8} (h : s.length + t.length ≤ 4611686018427387904) : aBin .add e c (.str s) (.str t) = some (.str (s ++ t)) := by
  rw [aBin_sadd]
  exact if_pos h
theorem s56 (n : Int) (h1 : -9223372036854775808 ≤ n) (h2 : n ≤ 9223372036854775807) : callT AA 56 [.int .i64 n] [] = some (.str (Lib.itoa n), []) := by
  have h := call98 h1 h2
  refine enter fn56 np56 rfl ?_
  (simp (maxSteps := 2000000) (disch := omega) only [b56, h, go_sem, Nat.reduceAdd, Nat.reduceSub, Nat.reduceMul, Nat.reduceLT, Nat.reduceLeDiff, Nat.reduceEqDiff, Nat.reduceBEq, Int.reduceLT, Int.reduceLE, Int.reduceEq, Int.reduceToNat, ↓reduceIte, reduceCtorEq]) <;> repeat' (first | ((first | refine gd_dec ?_ ?_ | refine gd_ndec ?_ ?_ | refine cd_dec ?_ ?_ | refine cd_ndec ?_ ?_ | refine gdd_dec ?_ ?_ | refine gdd_ndec ?_ ?_ | refine gd_of ?_ ?_ | refine cd_of ?_ ?_ | refine gdd_of ?_ ?_) <;> intro hg <;> first | (exfalso; omega) | (simp (maxSteps := 2000000) (disch := omega) only [hg, b56, h, go_sem, Nat.reduceAdd, Nat.reduceSub, Nat.reduceMul, Nat.reduceLT, Nat.reduceLeDiff, Nat.reduceEqDiff, Nat.reduceBEq, Int.reduceLT, Int.reduceLE, Int.reduceEq, Int.reduceToNat, ↓reduceIte, reduceCtorEq])) | (refine And.intro ?_ ?_; focus omega) | omega)
/-! ## how many digits -/
theorem itoa_length {n : Int} (h : 0 ≤ n) : (Lib.itoa n).length = Lib.nDigits n.toNat := by
  unfold Lib.itoa
  rw [if_neg (by omega), Lib.decDigits_length]
theorem nDigits_mono : ∀ {u v : Nat}, u ≤ v → Lib.nDigits u ≤ Lib.nDigits v := by
  intro u
  induction u using Nat.strongRecOn with
  | _ u ih =>
    intro v h
    by_cases hu : u < 10
    · rw [Lib.nDigits_small hu]
      exact Lib.nDigits_pos v
    · rw [Lib.nDigits_big hu, Lib.nDigits_big (by omega : ¬ v < 10)]
      have := ih (u / 10) (by omega) (v := v / 10) (by omega)
      omega
theorem nDigits_le7 {u : Nat} (h : u < 10000000) : Lib.nDigits u ≤ 7 := by
  have h1 := nDigits_mono (u := u) (v := 9999999) (by omega)
  have h2 : Lib.nDigits 9999999 = 7 := Lib.nDigits_unique 6 9999999 (by decide) (by decide)
  omega
def digs (n : Int) : Int := ((Lib.itoa n).length : Int)
theorem digs_pos {n : Int} (h : 0 ≤ n) : 1 ≤ digs n := by
  have := Lib.nDigits_pos n.toNat
  rw [digs, itoa_length h]
  omega
theorem digs_mono {a b : Int} (h : 0 ≤ a) (h' : a ≤ b) : digs a ≤ digs b := by
  have := nDigits_mono (u := a.toNat) (v := b.toNat) (by omega)
  rw [digs, digs, itoa_length h, itoa_length (by omega)]
  omega
theorem digs_le7 {a : Int} (h : 0 ≤ a) (h' : a < 10000000) : digs a ≤ 7 := by
  have := nDigits_le7 (u := a.toNat) (by omega)
  rw [digs, itoa_length h]
  omega
def lenF (rest : Int) : Nat → Int → Int
  | 0, n => n
  | k + 1, n => if n = rest + digs n then n else lenF rest k (rest + digs n)
def paxLen (rest : Int) : Int := lenF rest 6 (rest + 1)
theorem h158 (rest : Int) (hr : 0 ≤ rest) (hr' : rest ≤ 1000000) (r0 : Int) : ∀ (k : Nat) (n d : Int), n = rest + d → 7 ≤ d + k → 1 ≤ d → d ≤ 7 → d ≤ digs n → r0 = lenF rest k n →
    HD AA 0 [0, 2, 3] l158_0 ⟨[.int .i64 rest, .junk, .int .i64 0, .int .i64 n, .junk, .junk, .junk, .junk, .junk, .junk, .junk, .junk, .junk, .junk, .junk, .junk, .junk, .junk, .junk], [], 0⟩ [.blk 0, .code r158_0] (Fin [(2, none)] 0 (.int .i64 r0) [])
  | 0, n, d, h1, h2, h3, h3', h4, h5 => by
    have h6 := digs_le7 (a := n) (by omega) (by omega)
    have hs := s56 n (by omega) (by omega)
    have h7 : ((Lib.itoa n).length : Int) = digs n := rfl
    refine hd_of (by unfold l158_0; rfl) ?_
    (simp (maxSteps := 2000000) (disch := omega) only [hs, h7, r158_0, go_sem, Nat.reduceAdd, Nat.reduceSub, Nat.reduceMul, Nat.reduceLT, Nat.reduceLeDiff, Nat.reduceEqDiff, Nat.reduceBEq, Int.reduceLT, Int.reduceLE, Int.reduceEq, Int.reduceToNat, ↓reduceIte, reduceCtorEq]) <;> repeat' (first | ((first | refine gd_dec ?_ ?_ | refine gd_ndec ?_ ?_ | refine cd_dec ?_ ?_ | refine cd_ndec ?_ ?_ | refine gdd_dec ?_ ?_ | refine gdd_ndec ?_ ?_ | refine gd_of ?_ ?_ | refine cd_of ?_ ?_ | refine gdd_of ?_ ?_) <;> intro hg <;> first | (exfalso; omega) | (simp (maxSteps := 2000000) (disch := omega) only [hg, hs, h7, r158_0, go_sem, Nat.reduceAdd, Nat.reduceSub, Nat.reduceMul, Nat.reduceLT, Nat.reduceLeDiff, Nat.reduceEqDiff, Nat.reduceBEq, Int.reduceLT, Int.reduceLE, Int.reduceEq, Int.reduceToNat, ↓reduceIte, reduceCtorEq])) | (refine And.intro ?_ ?_; focus omega) | omega)
    simp [h5, lenF]
  | k + 1, n, d, h1, h2, h3, h3', h4, h5 => by
    have h6 := digs_le7 (a := n) (by omega) (by omega)
    have hs := s56 n (by omega) (by omega)
    have h7 : ((Lib.itoa n).length : Int) = digs n := rfl
    refine hd_of (by unfold l158_0; rfl) ?_
    unfold lenF at h5
    by_cases hn : n = rest + digs n
    · rw [if_pos hn] at h5
      (simp (maxSteps := 2000000) (disch := omega) only [hs, h7, r158_0, go_sem, Nat.reduceAdd, Nat.reduceSub, Nat.reduceMul, Nat.reduceLT, Nat.reduceLeDiff, Nat.reduceEqDiff, Nat.reduceBEq, Int.reduceLT, Int.reduceLE, Int.reduceEq, Int.reduceToNat, ↓reduceIte, reduceCtorEq]) <;> repeat' (first | ((first | refine gd_dec ?_ ?_ | refine gd_ndec ?_ ?_ | refine cd_dec ?_ ?_ | refine cd_ndec ?_ ?_ | refine gdd_dec ?_ ?_ | refine gdd_ndec ?_ ?_ | refine gd_of ?_ ?_ | refine cd_of ?_ ?_ | refine gdd_of ?_ ?_) <;> intro hg <;> first | (exfalso; omega) | (simp (maxSteps := 2000000) (disch := omega) only [hg, hs, h7, r158_0, go_sem, Nat.reduceAdd, Nat.reduceSub, Nat.reduceMul, Nat.reduceLT, Nat.reduceLeDiff, Nat.reduceEqDiff, Nat.reduceBEq, Int.reduceLT, Int.reduceLE, Int.reduceEq, Int.reduceToNat, ↓reduceIte, reduceCtorEq])) | (refine And.intro ?_ ?_; focus omega) | omega)
      simp [h5]
    · rw [if_neg hn] at h5
      have hd : d < digs n := by omega
      have hm := digs_mono (a := n) (b := rest + digs n) (by omega) (by omega)
      have ih := h158 rest hr hr' r0 k (rest + digs n) (digs n) rfl (by omega) (by omega) h6 hm h5
      (simp (maxSteps := 2000000) (disch := omega) only [hs, h7, lp_head, go_sem, Nat.reduceAdd, Nat.reduceSub, Nat.reduceMul, Nat.reduceLT, Nat.reduceLeDiff, Nat.reduceEqDiff, Nat.reduceBEq, Int.reduceLT, Int.reduceLE, Int.reduceEq, Int.reduceToNat, ↓reduceIte, reduceCtorEq]) <;> repeat' (first | ((first | refine gd_dec ?_ ?_ | refine gd_ndec ?_ ?_ | refine cd_dec ?_ ?_ | refine cd_ndec ?_ ?_ | refine gdd_dec ?_ ?_ | refine gdd_ndec ?_ ?_ | refine gd_of ?_ ?_ | refine cd_of ?_ ?_ | refine gdd_of ?_ ?_) <;> intro hg <;> first | (exfalso; omega) | (simp (maxSteps := 2000000) (disch := omega) only [hg, hs, h7, lp_head, go_sem, Nat.reduceAdd, Nat.reduceSub, Nat.reduceMul, Nat.reduceLT, Nat.reduceLeDiff, Nat.reduceEqDiff, Nat.reduceBEq, Int.reduceLT, Int.reduceLE, Int.reduceEq, Int.reduceToNat, ↓reduceIte, reduceCtorEq])) | (refine And.intro ?_ ?_; focus omega) | omega)
theorem s158 (rest : Int) (hr : 0 ≤ rest) (hr' : rest ≤ 1000000) : callT AA 158 [.int .i64 rest] [] = some (.int .i64 (paxLen rest), []) := by
  have h1 := digs_pos (n := rest + 1) (by omega)
  refine enter fn158 np158 rfl ?_
  (simp (maxSteps := 2000000) (disch := omega) only [b158, lp_head, go_sem, Nat.reduceAdd, Nat.reduceSub, Nat.reduceMul, Nat.reduceLT, Nat.reduceLeDiff, Nat.reduceEqDiff, Nat.reduceBEq, Int.reduceLT, Int.reduceLE, Int.reduceEq, Int.reduceToNat, ↓reduceIte, reduceCtorEq]) <;> repeat' (first | ((first | refine gd_dec ?_ ?_ | refine gd_ndec ?_ ?_ | refine cd_dec ?_ ?_ | refine cd_ndec ?_ ?_ | refine gdd_dec ?_ ?_ | refine gdd_ndec ?_ ?_ | refine gd_of ?_ ?_ | refine cd_of ?_ ?_ | refine gdd_of ?_ ?_) <;> intro hg <;> first | (exfalso; omega) | (simp (maxSteps := 2000000) (disch := omega) only [hg, b158, lp_head, go_sem, Nat.reduceAdd, Nat.reduceSub, Nat.reduceMul, Nat.reduceLT, Nat.reduceLeDiff, Nat.reduceEqDiff, Nat.reduceBEq, Int.reduceLT, Int.reduceLE, Int.reduceEq, Int.reduceToNat, ↓reduceIte, reduceCtorEq])) | (refine And.intro ?_ ?_; focus omega) | omega)
  exact h158 rest hr hr' _ 6 (rest + 1) 1 rfl (by omega) (by omega) (by omega) h1 rfl
theorem lenF_le (rest : Int) (hr : 0 ≤ rest) (hr' : rest ≤ 1000000) : ∀ (k : Nat) (n d : Int), n = rest + d → 1 ≤ d → d ≤ 7 → rest < lenF rest k n ∧ lenF rest k n ≤ rest + 7
  | 0, n, d, h1, h2, h3 => by
    unfold lenF
    omega
  | k + 1, n, d, h1, h2, h3 => by
    have h4 := digs_pos (n := n) (by omega)
    have h5 := digs_le7 (a := n) (by omega) (by omega)
    have ih := lenF_le rest hr hr' k (rest + digs n) (digs n) rfl h4 h5
    unfold lenF
    split
    · omega
    · exact ih
theorem paxLen_le {rest : Int} (hr : 0 ≤ rest) (hr' : rest ≤ 1000000) : rest < paxLen rest ∧ paxLen rest ≤ rest + 7 := lenF_le rest hr hr' 6 _ 1 rfl (by omega) (by omega)
/-! ## keywords -/
def kwByte (b : UInt8) : Bool := decide (33 ≤ (b.toNat : Int)) && decide ((b.toNat : Int) ≤ 126) && decide ((b.toNat : Int) ≠ 61)
def kwB (s : List UInt8) : Bool := decide (s ≠ []) && decide (s.length ≤ 100) && s.all kwByte
theorem h157 (s : List UInt8) (hs : s.length ≤ 1000000) (r0 : Bool) : ∀ (rest done : List UInt8) (n i : Int), s = done ++ rest → i = done.length → n = s.length → r0 = rest.all kwByte →
    HD AA 0 [0, 2, 12, 13] l157_0 ⟨[.str s, .junk, .bool false, .junk, .junk, .junk, .junk, .junk, .junk, .junk, .junk, .junk, .int .i64 n, .int .i64 i, .junk, .junk, .junk, .junk, .junk, .junk, .junk, .junk, .junk, .junk, .junk, .junk, .junk, .junk, .junk, .junk, .junk, .junk, .junk], [], 0⟩ [.blk 0, .code r157_0] (Fin [(2, none)] 0 (.bool r0) [])
  | [], done, n, i, h1, h2, h3, h4 => by
    subst h1
    simp at h3
    refine hd_of (by unfold l157_0; rfl) ?_
    (simp (maxSteps := 2000000) (disch := omega) only [r157_0, go_sem, Nat.reduceAdd, Nat.reduceSub, Nat.reduceMul, Nat.reduceLT, Nat.reduceLeDiff, Nat.reduceEqDiff, Nat.reduceBEq, Int.reduceLT, Int.reduceLE, Int.reduceEq, Int.reduceToNat, ↓reduceIte, reduceCtorEq]) <;> repeat' (first | ((first | refine gd_dec ?_ ?_ | refine gd_ndec ?_ ?_ | refine cd_dec ?_ ?_ | refine cd_ndec ?_ ?_ | refine gdd_dec ?_ ?_ | refine gdd_ndec ?_ ?_ | refine gd_of ?_ ?_ | refine cd_of ?_ ?_ | refine gdd_of ?_ ?_) <;> intro hg <;> first | (exfalso; omega) | (simp (maxSteps := 2000000) (disch := omega) only [hg, r157_0, go_sem, Nat.reduceAdd, Nat.reduceSub, Nat.reduceMul, Nat.reduceLT, Nat.reduceLeDiff, Nat.reduceEqDiff, Nat.reduceBEq, Int.reduceLT, Int.reduceLE, Int.reduceEq, Int.reduceToNat, ↓reduceIte, reduceCtorEq])) | (refine And.intro ?_ ?_; focus omega) | omega)
    simp [h4]
  | x :: r, done, n, i, h1, h2, h3, h4 => by
    have hg0 : s[i.toNat]? = some x := by
      rw [h1]
      simp [h2]
    have hl : i.toNat < s.length := by rw [h1]; simp; omega
    have hx := x.toNat_lt
    refine hd_of (by unfold l157_0; rfl) ?_
    rw [List.all_cons] at h4
    cases hk : kwByte x with
    | true =>
      rw [hk, Bool.true_and] at h4
      simp only [kwByte, Bool.and_eq_true, decide_eq_true_eq] at hk
      have ih := h157 s hs r0 r (done ++ [x]) n (i + 1) (by simp [h1]) (by first | omega | (simp; omega) | (simp; done)) h3 h4
      (simp (maxSteps := 2000000) (disch := omega) only [hg0, lp_head, go_sem, Nat.reduceAdd, Nat.reduceSub, Nat.reduceMul, Nat.reduceLT, Nat.reduceLeDiff, Nat.reduceEqDiff, Nat.reduceBEq, Int.reduceLT, Int.reduceLE, Int.reduceEq, Int.reduceToNat, ↓reduceIte, reduceCtorEq]) <;> repeat' (first | ((first | refine gd_dec ?_ ?_ | refine gd_ndec ?_ ?_ | refine cd_dec ?_ ?_ | refine cd_ndec ?_ ?_ | refine gdd_dec ?_ ?_ | refine gdd_ndec ?_ ?_ | refine gd_of ?_ ?_ | refine cd_of ?_ ?_ | refine gdd_of ?_ ?_) <;> intro hg <;> first | (exfalso; omega) | (simp (maxSteps := 2000000) (disch := omega) only [hg, hg0, lp_head, go_sem, Nat.reduceAdd, Nat.reduceSub, Nat.reduceMul, Nat.reduceLT, Nat.reduceLeDiff, Nat.reduceEqDiff, Nat.reduceBEq, Int.reduceLT, Int.reduceLE, Int.reduceEq, Int.reduceToNat, ↓reduceIte, reduceCtorEq])) | (refine And.intro ?_ ?_; focus omega) | omega)
    | false =>
      rw [hk, Bool.false_and] at h4
      simp only [kwByte, Bool.and_eq_false_iff, decide_eq_false_iff_not] at hk
      (simp (maxSteps := 2000000) (disch := omega) only [hg0, lp_head, go_sem, Nat.reduceAdd, Nat.reduceSub, Nat.reduceMul, Nat.reduceLT, Nat.reduceLeDiff, Nat.reduceEqDiff, Nat.reduceBEq, Int.reduceLT, Int.reduceLE, Int.reduceEq, Int.reduceToNat, ↓reduceIte, reduceCtorEq]) <;> repeat' (first | ((first | refine gd_dec ?_ ?_ | refine gd_ndec ?_ ?_ | refine cd_dec ?_ ?_ | refine cd_ndec ?_ ?_ | refine gdd_dec ?_ ?_ | refine gdd_ndec ?_ ?_ | refine gd_of ?_ ?_ | refine cd_of ?_ ?_ | refine gdd_of ?_ ?_) <;> intro hg <;> first | (exfalso; omega) | (simp (maxSteps := 2000000) (disch := omega) only [hg, hg0, lp_head, go_sem, Nat.reduceAdd, Nat.reduceSub, Nat.reduceMul, Nat.reduceLT, Nat.reduceLeDiff, Nat.reduceEqDiff, Nat.reduceBEq, Int.reduceLT, Int.reduceLE, Int.reduceEq, Int.reduceToNat, ↓reduceIte, reduceCtorEq])) | (refine And.intro ?_ ?_; focus omega) | omega)
      all_goals simp [h4]
theorem s157 (s : List UInt8) (hs : s.length ≤ 1000000) : callT AA 157 [.str s] [] = some (.bool (kwB s), []) := by
  refine enter fn157 np157 rfl ?_
  unfold kwB
  by_cases h0 : s = []
  · subst h0
    (simp (maxSteps := 2000000) (disch := omega) only [b157, go_sem, Nat.reduceAdd, Nat.reduceSub, Nat.reduceMul, Nat.reduceLT, Nat.reduceLeDiff, Nat.reduceEqDiff, Nat.reduceBEq, Int.reduceLT, Int.reduceLE, Int.reduceEq, Int.reduceToNat, ↓reduceIte, reduceCtorEq]) <;> repeat' (first | ((first | refine gd_dec ?_ ?_ | refine gd_ndec ?_ ?_ | refine cd_dec ?_ ?_ | refine cd_ndec ?_ ?_ | refine gdd_dec ?_ ?_ | refine gdd_ndec ?_ ?_ | refine gd_of ?_ ?_ | refine cd_of ?_ ?_ | refine gdd_of ?_ ?_) <;> intro hg <;> first | (exfalso; omega) | (simp (maxSteps := 2000000) (disch := omega) only [hg, b157, go_sem, Nat.reduceAdd, Nat.reduceSub, Nat.reduceMul, Nat.reduceLT, Nat.reduceLeDiff, Nat.reduceEqDiff, Nat.reduceBEq, Int.reduceLT, Int.reduceLE, Int.reduceEq, Int.reduceToNat, ↓reduceIte, reduceCtorEq])) | (refine And.intro ?_ ?_; focus omega) | omega)
    simp
  · by_cases h1 : s.length ≤ 100
    · (simp (maxSteps := 2000000) (disch := omega) only [b157, h0, lp_head, go_sem, Nat.reduceAdd, Nat.reduceSub, Nat.reduceMul, Nat.reduceLT, Nat.reduceLeDiff, Nat.reduceEqDiff, Nat.reduceBEq, Int.reduceLT, Int.reduceLE, Int.reduceEq, Int.reduceToNat, ↓reduceIte, reduceCtorEq]) <;> repeat' (first | ((first | refine gd_dec ?_ ?_ | refine gd_ndec ?_ ?_ | refine cd_dec ?_ ?_ | refine cd_ndec ?_ ?_ | refine gdd_dec ?_ ?_ | refine gdd_ndec ?_ ?_ | refine gd_of ?_ ?_ | refine cd_of ?_ ?_ | refine gdd_of ?_ ?_) <;> intro hg <;> first | (exfalso; omega) | (simp (maxSteps := 2000000) (disch := omega) only [hg, b157, h0, lp_head, go_sem, Nat.reduceAdd, Nat.reduceSub, Nat.reduceMul, Nat.reduceLT, Nat.reduceLeDiff, Nat.reduceEqDiff, Nat.reduceBEq, Int.reduceLT, Int.reduceLE, Int.reduceEq, Int.reduceToNat, ↓reduceIte, reduceCtorEq])) | (refine And.intro ?_ ?_; focus omega) | omega)
      refine h157 s hs _ s [] _ _ rfl rfl rfl ?_
      simp [h0, h1]
    · (simp (maxSteps := 2000000) (disch := omega) only [b157, h0, lp_head, go_sem, Nat.reduceAdd, Nat.reduceSub, Nat.reduceMul, Nat.reduceLT, Nat.reduceLeDiff, Nat.reduceEqDiff, Nat.reduceBEq, Int.reduceLT, Int.reduceLE, Int.reduceEq, Int.reduceToNat, ↓reduceIte, reduceCtorEq]) <;> repeat' (first | ((first | refine gd_dec ?_ ?_ | refine gd_ndec ?_ ?_ | refine cd_dec ?_ ?_ | refine cd_ndec ?_ ?_ | refine gdd_dec ?_ ?_ | refine gdd_ndec ?_ ?_ | refine gd_of ?_ ?_ | refine cd_of ?_ ?_ | refine gdd_of ?_ ?_) <;> intro hg <;> first | (exfalso; omega) | (simp (maxSteps := 2000000) (disch := omega) only [hg, b157, h0, lp_head, go_sem, Nat.reduceAdd, Nat.reduceSub, Nat.reduceMul, Nat.reduceLT, Nat.reduceLeDiff, Nat.reduceEqDiff, Nat.reduceBEq, Int.reduceLT, Int.reduceLE, Int.reduceEq, Int.reduceToNat, ↓reduceIte, reduceCtorEq])) | (refine And.intro ?_ ?_; focus omega) | omega)
/-! ## lines -/
def restP (k v : List UInt8) : List UInt8 := 32 :: (k ++ [61] ++ v ++ [10])
def lineB (k v : List UInt8) : List UInt8 := Lib.itoa (paxLen (restP k v).length) ++ restP k v
def lineOk (k v : List UInt8) : Bool := kwB k && decide (v.length ≤ 65536) && decide (paxLen (restP k v).length ≤ 65536)
theorem restP_length {k v : List UInt8} : (restP k v).length = k.length + v.length + 3 := by
  simp [restP]
  omega
theorem restP_eq {k v : List UInt8} : 32 :: (k ++ [61] ++ v ++ [10]) = restP k v := rfl
theorem s121 (k v : List UInt8) (hk : k.length ≤ 1000000) (hv : v.length ≤ 1000000) : callT AA 121 [.str k, .str v] [] = some (if lineOk k v = true then .tuple [.str (lineB k v), .lit .nilIface] else .tuple [.str [], .iface 58 (.int .i64 15)], []) := by
  have h1 := s157 k hk
  have hl := restP_length (k := k) (v := v)
  refine enter fn121 np121 rfl ?_
  unfold lineOk
  by_cases h2 : kwB k = true
  · have h3 : k.length ≤ 100 := by
      simp only [kwB, Bool.and_eq_true, decide_eq_true_eq] at h2
      exact h2.1.2
    by_cases h4 : v.length ≤ 65536
    · have h5 := s158 ((restP k v).length : Int) (by omega) (by omega)
      have h6 := paxLen_le (rest := ((restP k v).length : Int)) (by omega) (by omega)
      have h7 := s56 (paxLen (restP k v).length) (by omega) (by omega)
      have h9 : (Lib.itoa (paxLen (restP k v).length)).length ≤ 7 := by
        have := digs_le7 (a := paxLen (restP k v).length) (by omega) (by omega)
        unfold digs at this
        omega
      rw [h2]
      by_cases h8 : paxLen (restP k v).length ≤ 65536
      · have e : (if (true && decide (v.length ≤ 65536) && decide (paxLen (restP k v).length ≤ 65536)) = true then AVal.tuple [.str (lineB k v), .lit .nilIface] else .tuple [.str [], .iface 58 (.int .i64 15)]) = .tuple [.str (lineB k v), .lit .nilIface] := if_pos (by simp [h4, h8])
        rw [e]
        simp only [lineB]
        rw [h2] at h1
        generalize hq : paxLen (restP k v).length = q at *
        generalize hR : restP k v = R at *
        (simp (maxSteps := 2000000) (disch := omega) only [b121, h1, restP_eq, hR, h5, h7, go_sem, Nat.reduceAdd, Nat.reduceSub, Nat.reduceMul, Nat.reduceLT, Nat.reduceLeDiff, Nat.reduceEqDiff, Nat.reduceBEq, Int.reduceLT, Int.reduceLE, Int.reduceEq, Int.reduceToNat, ↓reduceIte, reduceCtorEq]) <;> repeat' (first | ((first | refine gd_dec ?_ ?_ | refine gd_ndec ?_ ?_ | refine cd_dec ?_ ?_ | refine cd_ndec ?_ ?_ | refine gdd_dec ?_ ?_ | refine gdd_ndec ?_ ?_ | refine gd_of ?_ ?_ | refine cd_of ?_ ?_ | refine gdd_of ?_ ?_) <;> intro hg <;> first | (exfalso; omega) | (simp (maxSteps := 2000000) (disch := omega) only [hg, b121, h1, restP_eq, hR, h5, h7, go_sem, Nat.reduceAdd, Nat.reduceSub, Nat.reduceMul, Nat.reduceLT, Nat.reduceLeDiff, Nat.reduceEqDiff, Nat.reduceBEq, Int.reduceLT, Int.reduceLE, Int.reduceEq, Int.reduceToNat, ↓reduceIte, reduceCtorEq])) | (refine And.intro ?_ ?_; focus omega) | omega)
      · have e : (if (true && decide (v.length ≤ 65536) && decide (paxLen (restP k v).length ≤ 65536)) = true then AVal.tuple [.str (lineB k v), .lit .nilIface] else .tuple [.str [], .iface 58 (.int .i64 15)]) = .tuple [.str [], .iface 58 (.int .i64 15)] := if_neg (by simp [h8])
        rw [e]
        rw [h2] at h1
        generalize hq : paxLen (restP k v).length = q at *
        generalize hR : restP k v = R at *
        (simp (maxSteps := 2000000) (disch := omega) only [b121, h1, restP_eq, hR, h5, h7, go_sem, Nat.reduceAdd, Nat.reduceSub, Nat.reduceMul, Nat.reduceLT, Nat.reduceLeDiff, Nat.reduceEqDiff, Nat.reduceBEq, Int.reduceLT, Int.reduceLE, Int.reduceEq, Int.reduceToNat, ↓reduceIte, reduceCtorEq]) <;> repeat' (first | ((first | refine gd_dec ?_ ?_ | refine gd_ndec ?_ ?_ | refine cd_dec ?_ ?_ | refine cd_ndec ?_ ?_ | refine gdd_dec ?_ ?_ | refine gdd_ndec ?_ ?_ | refine gd_of ?_ ?_ | refine cd_of ?_ ?_ | refine gdd_of ?_ ?_) <;> intro hg <;> first | (exfalso; omega) | (simp (maxSteps := 2000000) (disch := omega) only [hg, b121, h1, restP_eq, hR, h5, h7, go_sem, Nat.reduceAdd, Nat.reduceSub, Nat.reduceMul, Nat.reduceLT, Nat.reduceLeDiff, Nat.reduceEqDiff, Nat.reduceBEq, Int.reduceLT, Int.reduceLE, Int.reduceEq, Int.reduceToNat, ↓reduceIte, reduceCtorEq])) | (refine And.intro ?_ ?_; focus omega) | omega)
    · have e : (if (kwB k && decide (v.length ≤ 65536) && decide (paxLen (restP k v).length ≤ 65536)) = true then AVal.tuple [.str (lineB k v), .lit .nilIface] else .tuple [.str [], .iface 58 (.int .i64 15)]) = .tuple [.str [], .iface 58 (.int .i64 15)] := if_neg (by simp [h4])
      rw [e]
      rw [h2] at h1
      (simp (maxSteps := 2000000) (disch := omega) only [b121, h1, go_sem, Nat.reduceAdd, Nat.reduceSub, Nat.reduceMul, Nat.reduceLT, Nat.reduceLeDiff, Nat.reduceEqDiff, Nat.reduceBEq, Int.reduceLT, Int.reduceLE, Int.reduceEq, Int.reduceToNat, ↓reduceIte, reduceCtorEq]) <;> repeat' (first | ((first | refine gd_dec ?_ ?_ | refine gd_ndec ?_ ?_ | refine cd_dec ?_ ?_ | refine cd_ndec ?_ ?_ | refine gdd_dec ?_ ?_ | refine gdd_ndec ?_ ?_ | refine gd_of ?_ ?_ | refine cd_of ?_ ?_ | refine gdd_of ?_ ?_) <;> intro hg <;> first | (exfalso; omega) | (simp (maxSteps := 2000000) (disch := omega) only [hg, b121, h1, go_sem, Nat.reduceAdd, Nat.reduceSub, Nat.reduceMul, Nat.reduceLT, Nat.reduceLeDiff, Nat.reduceEqDiff, Nat.reduceBEq, Int.reduceLT, Int.reduceLE, Int.reduceEq, Int.reduceToNat, ↓reduceIte, reduceCtorEq])) | (refine And.intro ?_ ?_; focus omega) | omega)
  · have h2' : kwB k = false := by simpa using h2
    have e : (if (kwB k && decide (v.length ≤ 65536) && decide (paxLen (restP k v).length ≤ 65536)) = true then AVal.tuple [.str (lineB k v), .lit .nilIface] else .tuple [.str [], .iface 58 (.int .i64 15)]) = .tuple [.str [], .iface 58 (.int .i64 15)] := if_neg (by simp [h2'])
    rw [e]
    rw [h2'] at h1
    (simp (maxSteps := 2000000) (disch := omega) only [b121, h1, go_sem, Nat.reduceAdd, Nat.reduceSub, Nat.reduceMul, Nat.reduceLT, Nat.reduceLeDiff, Nat.reduceEqDiff, Nat.reduceBEq, Int.reduceLT, Int.reduceLE, Int.reduceEq, Int.reduceToNat, ↓reduceIte, reduceCtorEq]) <;> repeat' (first | ((first | refine gd_dec ?_ ?_ | refine gd_ndec ?_ ?_ | refine cd_dec ?_ ?_ | refine cd_ndec ?_ ?_ | refine gdd_dec ?_ ?_ | refine gdd_ndec ?_ ?_ | refine gd_of ?_ ?_ | refine cd_of ?_ ?_ | refine gdd_of ?_ ?_) <;> intro hg <;> first | (exfalso; omega) | (simp (maxSteps := 2000000) (disch := omega) only [hg, b121, h1, go_sem, Nat.reduceAdd, Nat.reduceSub, Nat.reduceMul, Nat.reduceLT, Nat.reduceLeDiff, Nat.reduceEqDiff, Nat.reduceBEq, Int.reduceLT, Int.reduceLE, Int.reduceEq, Int.reduceToNat, ↓reduceIte, reduceCtorEq])) | (refine And.intro ?_ ?_; focus omega) | omega)
theorem lineB_length {k v : List UInt8} (hk : k.length ≤ 100) (hv : v.length ≤ 65536) : (lineB k v).length ≤ k.length + v.length + 10 := by
  have hl := restP_length (k := k) (v := v)
  have h6 := paxLen_le (rest := ((restP k v).length : Int)) (by omega) (by omega)
  have := digs_le7 (a := paxLen (restP k v).length) (by omega) (by omega)
  unfold digs at this
  unfold lineB
  rw [List.length_append]
  omega
end Go.Abs
