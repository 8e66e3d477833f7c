import Derived.Test.YtambgnjkakdoeaaGreatDoorTampers12
/- PART OF A PROOF (texts joined by a program): F70 F71 B6 F72 F73 F67 F74 F75 F76 F77 F78. -/
set_option linter.unusedVariables false
set_option linter.unusedSimpArgs false
set_option linter.unusedSectionVars false
namespace Go.Abs
open Am Lib
set_option maxRecDepth 10000
set_option linter.unusedSimpArgs false
theorem h99 (s : List UInt8) (hs : s.length ≤ 1000000) (v : Bool) : ∀ (rest pre : List UInt8) (i : Int), s = pre ++ rest → i = pre.length → v = asciiB rest →
    HD AA 0 [0, 2, 3] l99_0 ⟨[.str s, .junk, .bool false, .int .i64 i, .junk, .junk, .junk, .junk, .junk, .junk, .junk, .junk, .junk, .junk, .junk, .junk, .junk, .junk, .junk, .junk], [], 0⟩ [.blk 0, .code r99_0] (Fin [(2, none)] 0 (.bool v) [])
  | [], pre, i, h1, h2, h4 => by
    have hl : s.length = pre.length := by rw [h1]; simp
    have hv : v = true := h4
    subst hv
    refine hd_of (by unfold l99_0; rfl) ?_
    have gg := trivial; repeat' first | simp (maxSteps := 2000000) (disch := omega) only [gg, r99_0, go_sem] | (refine br ?_ ?_ <;> intro gg <;> try (exfalso; omega)) | (refine And.intro ?_ ?_; focus omega) | omega
  | c :: r, pre, i, h1, h2, h4 => by
    have hl : s.length = pre.length + (r.length + 1) := by rw [h1]; simp
    have ei : i.toNat = pre.length := by omega
    have hxi : s[i.toNat]? = some c := by
      rw [ei, h1, List.getElem?_append_right (by omega)]
      simp
    have hc := c.toNat_lt
    have e : asciiB (c :: r) = (okByte c && asciiB r) := rfl
    rw [e] at h4
    have ih := h99 s hs (asciiB r) r (pre ++ [c]) (i + 1) (by rw [h1]; simp) (by simp; omega) rfl
    cases ob : okByte c with
    | true =>
      have hb := of_decide_eq_true ob
      rw [ob, Bool.true_and] at h4
      subst h4
      refine hd_of (by unfold l99_0; rfl) ?_
      have gg := trivial; repeat' first | simp (maxSteps := 2000000) (disch := omega) only [gg, hxi, lp_head, go_sem] | (refine br ?_ ?_ <;> intro gg <;> try (exfalso; omega)) | (refine And.intro ?_ ?_; focus omega) | omega
    | false =>
      have hb := of_decide_eq_false ob
      rw [ob, Bool.false_and] at h4
      subst h4
      refine hd_of (by unfold l99_0; rfl) ?_
      have gg := trivial; repeat' first | simp (maxSteps := 2000000) (disch := omega) only [gg, hxi, lp_head, go_sem] | (refine br ?_ ?_ <;> intro gg <;> try (exfalso; omega)) | (refine And.intro ?_ ?_; focus omega) | omega
      all_goals (exfalso; omega)
theorem s99 (s : List UInt8) (hs : s.length ≤ 1000000) : callT AA 99 [.str s] [] = some (.bool (asciiB s), []) := by
  have hh := h99 s hs (asciiB s) s [] 0 rfl rfl rfl
  refine enter fn99 np99 rfl ?_
  have gg := trivial; repeat' first | simp (maxSteps := 2000000) (disch := omega) only [gg, b99, lp_head, go_sem] | (refine br ?_ ?_ <;> intro gg <;> try (exfalso; omega)) | (refine And.intro ?_ ?_; focus omega) | omega
theorem s58 (n : Int) : callT AA 58 [.int .i64 n] [] = some (.bool (idB n), []) := by
  have e : idB n = (decide (0 ≤ n) && decide (n ≤ 2097151)) := by
    unfold idB
    rw [Bool.eq_iff_iff]
    simp
    omega
  rw [e]
  refine enter fn58 np58 rfl ?_
  have gg := trivial; repeat' first | simp (maxSteps := 2000000) (disch := omega) only [gg, b58, go_sem] | (refine br ?_ ?_ <;> intro gg <;> try (exfalso; omega)) | (refine And.intro ?_ ?_; focus omega) | omega
  (all_goals (first | (simp_all []; done) | (simp_all []; omega) | (simp_all []; intros; omega) | (simp_all []; rw [Bool.eq_iff_iff]; simp; done) | (simp_all []; rw [Bool.eq_iff_iff]; simp; omega)))
theorem s60 (n : Int) : callT AA 60 [.int .i64 n] [] = some (.bool (timeB n), []) := by
  have e : timeB n = (decide (0 ≤ n) && decide (n ≤ 8589934591)) := by
    unfold timeB
    rw [Bool.eq_iff_iff]
    simp
    omega
  rw [e]
  refine enter fn60 np60 rfl ?_
  have gg := trivial; repeat' first | simp (maxSteps := 2000000) (disch := omega) only [gg, b60, go_sem] | (refine br ?_ ?_ <;> intro gg <;> try (exfalso; omega)) | (refine And.intro ?_ ?_; focus omega) | omega
  (all_goals (first | (simp_all []; done) | (simp_all []; omega) | (simp_all []; intros; omega) | (simp_all []; rw [Bool.eq_iff_iff]; simp; done) | (simp_all []; rw [Bool.eq_iff_iff]; simp; omega)))
theorem s59 (s : List UInt8) (hs : s.length ≤ 1000000) : callT AA 59 [.str s] [] = some (.bool (linkB s), []) := by
  have h := s99 s hs
  have e : linkB s = (decide (1 ≤ (s.length : Int)) && decide ((s.length : Int) ≤ 100) && asciiB s) := by
    unfold linkB
    have : decide (s ≠ []) = decide (1 ≤ (s.length : Int)) := by
      apply decide_eq_decide.2
      cases s with
      | nil => simp
      | cons a r => simp; omega
    rw [this]
  rw [e]
  refine enter fn59 np59 rfl ?_
  have gg := trivial; repeat' first | simp (maxSteps := 2000000) (disch := omega) only [gg, b59, h, go_sem] | (refine br ?_ ?_ <;> intro gg <;> try (exfalso; omega)) | (refine And.intro ?_ ?_; focus omega) | omega
  (all_goals (first | (simp_all []; done) | (simp_all []; omega) | (simp_all []; intros; omega) | (simp_all []; rw [Bool.eq_iff_iff]; simp; done) | (simp_all []; rw [Bool.eq_iff_iff]; simp; omega)))
end Go.Abs
namespace Go.Abs
open Am Lib
set_option maxRecDepth 10000
set_option linter.unusedSimpArgs false
theorem sp_end (p : List UInt8) : ∀ (k i : Nat), p.length ≤ i + 1 → spAt p k i = ([], [], false)
  | 0, _, _ => rfl
  | k + 1, i, h => by
    have hs : spOk p i = false := by
      unfold spOk
      have : decide (i + 2 ≤ p.length) = false := decide_eq_false (by omega)
      simp [this]
    rw [spAt, hs, if_neg (by simp)]
    exact sp_end p k (i + 1) (by omega)
theorem h57 (p : List UInt8) (hp : p.length ≤ 1000000) (r0 : List UInt8 × List UInt8 × Bool) : ∀ (k i : Nat) (j : Int), i + k = p.length → j = i → 1 ≤ i → r0 = spAt p k i →
    HD AA 0 [0, 2, 3, 4, 5] l57_0 ⟨[.str p, .junk, .str [], .str [], .bool false, .int .i64 j, .junk, .junk, .junk, .junk, .junk, .junk, .junk, .junk, .junk, .junk, .junk, .junk, .junk, .junk, .junk, .junk, .junk, .junk, .junk, .junk, .junk, .junk, .junk, .junk, .junk, .junk, .junk, .junk, .junk, .junk, .junk, .junk, .junk, .junk, .junk, .junk, .junk, .junk, .junk, .junk, .junk, .junk], [], 0⟩ [.blk 0, .code r57_0] (Fin [(2, none), (3, none), (4, none)] 0 (.tuple [.str r0.1, .str r0.2.1, .bool r0.2.2]) [])
  | 0, i, j, h1, h2, h3, h4 => by
    have hr : r0 = ([], [], false) := h4
    subst hr
    refine hd_of (by unfold l57_0; rfl) ?_
    have gg := trivial; repeat' first | simp (maxSteps := 2000000) (disch := omega) only [gg, r57_0, go_sem] | (refine br ?_ ?_ <;> intro gg <;> try (exfalso; omega)) | (refine And.intro ?_ ?_; focus omega) | omega
  | k + 1, i, j, h1, h2, h3, h4 => by
    by_cases h5 : p.length ≤ i + 1
    · rw [sp_end p (k + 1) i h5] at h4
      subst h4
      refine hd_of (by unfold l57_0; rfl) ?_
      have gg := trivial; repeat' first | simp (maxSteps := 2000000) (disch := omega) only [gg, r57_0, go_sem] | (refine br ?_ ?_ <;> intro gg <;> try (exfalso; omega)) | (refine And.intro ?_ ?_; focus omega) | omega
    · have hx : p[j.toNat]? = some (p[i]'(by omega)) := by
        rw [show j.toNat = i by omega, List.getElem?_eq_getElem]
      have hx2 : p[i]? = some (p[i]'(by omega)) := by rw [List.getElem?_eq_getElem]
      generalize hc : p[i]'(by omega) = c at hx hx2
      have hcl := c.toNat_lt
      have ih := h57 p hp r0 k (i + 1) (j + 1) (by omega) (by omega) (by omega)
      rw [spAt] at h4
      by_cases h6 : spOk p i = true
      · rw [if_pos h6] at h4
        subst h4
        unfold spOk at h6
        rw [hx2] at h6
        simp only [Bool.and_eq_true, decide_eq_true_eq, Option.some.injEq] at h6
        obtain ⟨⟨⟨⟨h7, h8⟩, h9⟩, h10⟩, h11⟩ := h6
        subst h7
        have e47 : ((47 : UInt8).toNat : Int) = 47 := rfl
        have ej : (j + 1).toNat = i + 1 := by omega
        have ej2 : j.toNat = i := by omega
        refine hd_of (by unfold l57_0; rfl) ?_
        have gg := trivial; repeat' first | simp (maxSteps := 2000000) (disch := omega) only [gg, hx2, e47, ej, ej2, List.drop_zero, go_sem] | (refine br ?_ ?_ <;> intro gg <;> try (exfalso; omega)) | (refine And.intro ?_ ?_; focus omega) | omega
      · rw [if_neg h6] at h4
        have ih := ih h4
        have h7 : ¬ ((c.toNat : Int) = 47 ∧ j ≤ 155 ∧ (p.length : Int) - 1 - j ≤ 100) := by
          intro hh
          apply h6
          have hc47 : c = 47 := (ty_eq c 47 (by omega)).mp hh.1
          unfold spOk
          rw [hx2, hc47]
          simp
          omega
        clear h6
        refine hd_of (by unfold l57_0; rfl) ?_
        have gg := trivial; repeat' first | simp (maxSteps := 2000000) (disch := omega) only [gg, hx, lp_head, go_sem] | (refine br ?_ ?_ <;> intro gg <;> try (exfalso; omega)) | (refine And.intro ?_ ?_; focus omega) | omega
theorem sp_zero (p : List UInt8) (k : Nat) : spAt p (k + 1) 0 = spAt p k 1 := by
  have hs : spOk p 0 = false := by
    unfold spOk
    have : decide (1 ≤ 0) = false := by decide
    simp
  rw [spAt, hs, if_neg (by simp)]
theorem s57 (p : List UInt8) (hp : p.length ≤ 1000000) : callT AA 57 [.str p] [] = some (.tuple [.str (splitN p).1, .str (splitN p).2.1, .bool (splitN p).2.2], []) := by
  have h := s99 p hp
  refine enter fn57 np57 rfl ?_
  unfold splitN
  rcases Nat.eq_zero_or_pos p.length with h0 | h0
  · have : p = [] := List.length_eq_zero_iff.1 h0
    subst this
    rw [if_pos (Or.inl rfl)]
    have gg := trivial; repeat' first | simp (maxSteps := 2000000) (disch := omega) only [gg, b57, go_sem] | (refine br ?_ ?_ <;> intro gg <;> try (exfalso; omega)) | (refine And.intro ?_ ?_; focus omega) | omega
  · have hne : p ≠ [] := by intro hh; subst hh; simp at h0
    cases ha : asciiB p with
    | false =>
      rw [ha] at h
      rw [if_pos (Or.inr rfl)]
      have gg := trivial; repeat' first | simp (maxSteps := 2000000) (disch := omega) only [gg, b57, h, go_sem] | (refine br ?_ ?_ <;> intro gg <;> try (exfalso; omega)) | (refine And.intro ?_ ?_; focus omega) | omega
    | true =>
      rw [ha] at h
      rw [if_neg (by simp [hne])]
      by_cases h1 : p.length ≤ 100
      · rw [if_pos h1]
        have gg := trivial; repeat' first | simp (maxSteps := 2000000) (disch := omega) only [gg, b57, h, go_sem] | (refine br ?_ ?_ <;> intro gg <;> try (exfalso; omega)) | (refine And.intro ?_ ?_; focus omega) | omega
      · rw [if_neg h1]
        have hk : p.length = (p.length - 1) + 1 := by omega
        have e : spAt p p.length 0 = spAt p (p.length - 1) 1 := by
          rw [show spAt p p.length 0 = spAt p ((p.length - 1) + 1) 0 by rw [← hk], sp_zero]
        rw [e]
        have hh := h57 p hp (spAt p (p.length - 1) 1) (p.length - 1) 1 1 (by omega) rfl (by omega) rfl
        have gg := trivial; repeat' first | simp (maxSteps := 2000000) (disch := omega) only [gg, b57, h, lp_head, go_sem] | (refine br ?_ ?_ <;> intro gg <;> try (exfalso; omega)) | (refine And.intro ?_ ?_; focus omega) | omega
end Go.Abs
namespace Go.Abs
def b22 : AFn := ⟨1, 71, [(2, none)], (.seq (rg [oo 1 (.box (.t 0)), oo 2 (.mov (.c (.lit (.slice none 0 0))))]) (.seq (rg [oo 3 (.mov (.c (.lit (.slice none 0 0))))]) (.seq (rg [oo 8 (.fa 0 (.t 1)), oo 9 (.ld 1 false (.t 8)), cl 10 57 [(.t 9)], mv 7 10, oo 11 (.ext (.t 7) 0), oo 12 (.ext (.t 7) 1), oo 13 (.ext (.t 7) 2), mv 4 11, mv 5 12, mv 6 13]) (.seq (.seq (rg [oo 14 (.fa 4 (.t 1)), oo 15 (.ld 1 false (.t 14)), cl 16 58 [(.t 15)], oo 17 (.un .not (.t 16))]) (.cond (.t 17) (rg [mv 18 3, oo 19 (.fa 4 (.t 1)), oo 20 (.ld 1 false (.t 19)), cl 21 47 [(.t 20)], oo 22 (.build [(.str []), (.str [])] [(0, (1, (.c (.str [103, 105, 100])))), (1, (1, (.t 21)))]), oo 23 (.bslice 2 1 [(.str []), (.str [])] [(.t 22)]), oo 24 (.app 32 2 (.t 18) (.t 23)), mv 3 24]) .skip)) (.seq (.seq (rg [oo 25 (.fa 6 (.t 1)), oo 26 (.ld 1 false (.t 25)), oo 27 (.bin .neq .other true (.t 26) (.c (.str []))), mv 28 27, og 29 (.fa 6 (.t 1)) 28 true, og 30 (.ld 1 false (.t 29)) 28 true, og 31 (.call (.c (.func (.func 59) [])) [(.t 30)]) 28 true, og 32 (.un .not (.t 31)) 28 true, oo 33 (.pick (.t 28) (.t 32) (.c (.bool false)))]) (.cond (.t 33) (rg [mv 34 3, oo 35 (.fa 6 (.t 1)), oo 36 (.ld 1 false (.t 35)), oo 37 (.build [(.str []), (.str [])] [(0, (1, (.c (.str [108, 105, 110, 107, 112, 97, 116, 104])))), (1, (1, (.t 36)))]), oo 38 (.bslice 2 1 [(.str []), (.str [])] [(.t 37)]), oo 39 (.app 32 2 (.t 34) (.t 38)), mv 3 39]) .skip)) (.seq (.seq (rg [oo 40 (.fa 5 (.t 1)), oo 41 (.ld 1 false (.t 40)), cl 42 60 [(.t 41)], oo 43 (.un .not (.t 42))]) (.cond (.t 43) (rg [mv 44 3, oo 45 (.fa 5 (.t 1)), oo 46 (.ld 1 false (.t 45)), cl 47 47 [(.t 46)], oo 48 (.build [(.str []), (.str [])] [(0, (1, (.c (.str [109, 116, 105, 109, 101])))), (1, (1, (.t 47)))]), oo 49 (.bslice 2 1 [(.str []), (.str [])] [(.t 48)]), oo 50 (.app 32 2 (.t 44) (.t 49)), mv 3 50]) .skip)) (.seq (.seq (rg [mv 51 6, oo 52 (.un .not (.t 51))]) (.cond (.t 52) (rg [mv 53 3, oo 54 (.fa 0 (.t 1)), oo 55 (.ld 1 false (.t 54)), oo 56 (.build [(.str []), (.str [])] [(0, (1, (.c (.str [112, 97, 116, 104])))), (1, (1, (.t 55)))]), oo 57 (.bslice 2 1 [(.str []), (.str [])] [(.t 56)]), oo 58 (.app 32 2 (.t 53) (.t 57)), mv 3 58]) .skip)) (.seq (.seq (rg [oo 59 (.fa 3 (.t 1)), oo 60 (.ld 1 false (.t 59)), cl 61 58 [(.t 60)], oo 62 (.un .not (.t 61))]) (.cond (.t 62) (rg [mv 63 3, oo 64 (.fa 3 (.t 1)), oo 65 (.ld 1 false (.t 64)), cl 66 47 [(.t 65)], oo 67 (.build [(.str []), (.str [])] [(0, (1, (.c (.str [117, 105, 100])))), (1, (1, (.t 66)))]), oo 68 (.bslice 2 1 [(.str []), (.str [])] [(.t 67)]), oo 69 (.app 32 2 (.t 63) (.t 68)), mv 3 69]) .skip)) (.seq (rg [mv 70 3, mv 2 70]) .ret)))))))))⟩
theorem fn22 : AA.fn 22 = some b22 := by kernel_rfl
theorem np22 : AA.prim 22 = none := rfl
def l181_0 : ACode := (.seq (.seq (rg [mv 4 3, mv 5 0, oo 6 (.len 0 (.t 5)), oo 7 (.bin .lss .other false (.t 4) (.t 6))]) (.cond (.t 7) .skip (.exit 0))) (.seq (.block 1 (.seq (rg [mv 10 0, mv 11 3, oo 12 (.ixs (.t 10) (.t 11)), oo 13 (.bin .leq .other true (.t 12) (.c (.int .u8 32))), mv 14 13, og 15 (.mov (.t 0)) 14 false, og 16 (.mov (.t 3)) 14 false, og 17 (.ixs (.t 15) (.t 16)) 14 false, og 18 (.bin .geq .other true (.t 17) (.c (.int .u8 127))) 14 false, oo 19 (.pick (.t 14) (.c (.bool true)) (.t 18)), mv 20 19, og 21 (.mov (.t 0)) 20 false, og 22 (.mov (.t 3)) 20 false, og 23 (.ixs (.t 21) (.t 22)) 20 false, og 24 (.bin .eql .other true (.t 23) (.c (.int .u8 61))) 20 false, oo 25 (.pick (.t 20) (.c (.bool true)) (.t 24))]) (.cond (.t 25) (.seq (rg [oo 2 (.mov (.c (.bool false)))]) .ret) .skip))) (rg [mv 8 3, oo 9 (.bin .add .other true (.t 8) (ci 1)), mv 3 9])))
def r181_0 : ACode := (.seq (rg [mv 26 0, oo 27 (.len 0 (.t 26)), oo 28 (.bin .geq .other true (.t 27) (ci 1)), mv 29 28, og 30 (.mov (.t 0)) 29 true, og 31 (.len 0 (.t 30)) 29 true, og 32 (.bin .leq .other true (.t 31) (ci 100)) 29 true, oo 33 (.pick (.t 29) (.t 32) (.c (.bool false))), mv 2 33]) .ret)
def b181 : AFn := ⟨1, 34, [(2, none)], (.seq (rg [oo 2 (.mov (.c (.bool false)))]) (.seq (.seq (rg [oo 3 (.mov (ci 0))]) (.block 0 (.loop [0, 2, 3] l181_0))) r181_0))⟩
theorem fn181 : AA.fn 181 = some b181 := by kernel_rfl
theorem np181 : AA.prim 181 = none := rfl
def l138_0 : ACode := (.seq (.seq (rg [mv 23 7, oo 24 (.bin .leq .other true (.t 23) (ci 5))]) (.cond (.t 24) .skip (.exit 0))) (.seq (.block 1 (.seq (rg [mv 27 6, oo 28 (.len 0 (.t 27)), mv 29 7, oo 30 (.bin .add .other false (.t 28) (.t 29)), cl 31 47 [(.t 30)], mv 8 31]) (.seq (rg [mv 32 8, oo 33 (.len 0 (.t 32)), mv 34 7, oo 35 (.bin .eql .other false (.t 33) (.t 34)), mv 36 35, og 37 (.mov (.t 6)) 36 true, og 38 (.len 0 (.t 37)) 36 true, og 39 (.mov (.t 7)) 36 true, og 40 (.bin .add .other false (.t 38) (.t 39)) 36 true, og 41 (.bin .leq .other true (.t 40) (ci 65536)) 36 true, oo 42 (.pick (.t 36) (.t 41) (.c (.bool false)))]) (.cond (.t 42) (.seq (rg [mv 43 8, mv 44 6, oo 45 (.bin .add .other false (.t 43) (.t 44)), mv 4 45, oo 5 (.mov (ci 0))]) .ret) .skip)))) (rg [mv 25 7, oo 26 (.bin .add .other true (.t 25) (ci 1)), mv 7 26])))
def r138_0 : ACode := (.seq (rg [oo 4 (.mov (.c (.str []))), oo 5 (.mov (ci 15))]) .ret)
def b138 : AFn := ⟨2, 46, [(4, none), (5, none)], (.seq (rg [oo 4 (.mov (.c (.str []))), oo 5 (.mov (ci 0))]) (.seq (.seq (rg [mv 9 0, cl 10 181 [(.t 9)], oo 11 (.un .not (.t 10)), mv 12 11, og 13 (.mov (.t 1)) 12 false, og 14 (.len 0 (.t 13)) 12 false, og 15 (.bin .gtr .other true (.t 14) (ci 65536)) 12 false, oo 16 (.pick (.t 12) (.c (.bool true)) (.t 15))]) (.cond (.t 16) (.seq (rg [oo 4 (.mov (.c (.str []))), oo 5 (.mov (ci 15))]) .ret) .skip)) (.seq (rg [mv 17 0, oo 18 (.bin .add .other true (.c (.str [32])) (.t 17)), oo 19 (.bin .add .other true (.t 18) (.c (.str [61]))), mv 20 1, oo 21 (.bin .add .other false (.t 19) (.t 20)), oo 22 (.bin .add .other true (.t 21) (.c (.str [10]))), mv 6 22]) (.seq (.seq (rg [oo 7 (.mov (ci 1))]) (.block 0 (.loop [4, 5, 6, 7] l138_0))) r138_0))))⟩
theorem fn138 : AA.fn 138 = some b138 := by kernel_rfl
theorem np138 : AA.prim 138 = none := rfl
def l94_0 : ACode := (.seq (.seq (rg [mv 9 5, mv 10 0, oo 11 (.len 1 (.t 10)), oo 12 (.bin .lss .other false (.t 9) (.t 11))]) (.cond (.t 12) .skip (.exit 0))) (.seq (.block 1 (.seq (.reg true [(4, 5), (4, 6), (4, 7), (4, 8), (0, 9), (1, 9), (2, 9), (3, 9), (4, 9)] [mv 16 0, mv 17 5, oo 18 (.ixa 2 (.t 16) (.t 17)), oo 19 (.fa 0 (.t 18)), oo 20 (.ld 1 false (.t 19)), mv 21 0, mv 22 5, oo 23 (.ixa 2 (.t 21) (.t 22)), oo 24 (.fa 1 (.t 23)), oo 25 (.ld 1 false (.t 24)), cl 26 138 [(.t 20), (.t 25)], mv 15 26, oo 27 (.ext (.t 15) 0), oo 28 (.ext (.t 15) 1), mv 6 27, mv 7 28]) (.seq (.seq (.reg true [(10, 11), (10, 12), (10, 13), (10, 14), (10, 15), (6, 16), (7, 16), (8, 16), (9, 16), (10, 16)] [mv 29 7, oo 30 (.bin .neq .other true (.t 29) (ci 0)), mv 31 30, og 32 (.mov (.t 5)) 31 false, og 33 (.bin .gtr .other true (.t 32) (ci 0)) 31 false, og 34 (.mov (.t 33)) 31 false, og 35 (.mov (.t 0)) 34 true, og 36 (.mov (.t 5)) 34 true, og 37 (.ixa 2 (.t 35) (.t 36)) 34 true, og 38 (.fa 0 (.t 37)) 34 true, og 39 (.ld 1 false (.t 38)) 34 true, og 40 (.mov (.t 0)) 34 true, og 41 (.mov (.t 5)) 34 true, og 42 (.bin .sub .other true (.t 41) (ci 1)) 34 true, og 43 (.ixa 2 (.t 40) (.t 42)) 34 true, og 44 (.fa 0 (.t 43)) 34 true, og 45 (.ld 1 false (.t 44)) 34 true, og 46 (.bin .leq .other false (.t 39) (.t 45)) 34 true, og 47 (.pick (.t 34) (.t 46) (.c (.bool false))) 31 false, oo 48 (.pick (.t 31) (.c (.bool true)) (.t 47))]) (.cond (.t 48) (.seq (rg [oo 2 (.mov (.c (.lit (.slice none 0 0)))), oo 3 (.mov (ci 15))]) .ret) .skip)) (.seq (rg [mv 49 4, mv 50 6, oo 51 (.app 1 1 (.t 49) (.t 50)), mv 4 51]) (.seq (rg [mv 52 4, oo 53 (.len 1 (.t 52)), oo 54 (.bin .gtr .other true (.t 53) (ci 65536))]) (.cond (.t 54) (.seq (rg [oo 2 (.mov (.c (.lit (.slice none 0 0)))), oo 3 (.mov (ci 15))]) .ret) .skip)))))) (rg [mv 13 5, oo 14 (.bin .add .other true (.t 13) (ci 1)), mv 5 14])))
def r94_0 : ACode := (.seq (rg [mv 55 4, mv 2 55, oo 3 (.mov (ci 0))]) .ret)
def b94 : AFn := ⟨1, 56, [(2, none), (3, none)], (.seq (rg [oo 2 (.mov (.c (.lit (.slice none 0 0)))), oo 3 (.mov (ci 0))]) (.seq (rg [oo 8 (.bslice 1 0 [(.int .u8 0)] []), mv 4 8]) (.seq (.seq (rg [oo 5 (.mov (ci 0))]) (.block 0 (.loop [0, 2, 3, 4, 5] l94_0))) r94_0)))⟩
theorem fn94 : AA.fn 94 = some b94 := by kernel_rfl
theorem np94 : AA.prim 94 = none := rfl
def b139 : AFn := ⟨1, 87, [(2, none)], (.seq (rg [oo 1 (.box (.t 0)), oo 2 (.mov (.c (.bool false)))]) (.seq (rg [oo 7 (.fa 0 (.t 1)), oo 8 (.ld 1 false (.t 7)), cl 9 57 [(.t 8)], mv 6 9, oo 10 (.ext (.t 6) 0), oo 11 (.ext (.t 6) 1), oo 12 (.ext (.t 6) 2), mv 3 10, mv 4 11, mv 5 12]) (.seq (rg [mv 13 5, mv 14 13, og 15 (.fa 1 (.t 1)) 14 true, og 16 (.ld 1 false (.t 15)) 14 true, og 17 (.call (.c (.func (.func 58) [])) [(.t 16)]) 14 true, oo 18 (.pick (.t 14) (.t 17) (.c (.bool false))), mv 19 18, og 20 (.fa 2 (.t 1)) 19 true, og 21 (.ld 1 false (.t 20)) 19 true, og 22 (.call (.c (.func (.func 58) [])) [(.t 21)]) 19 true, oo 23 (.pick (.t 19) (.t 22) (.c (.bool false))), mv 24 23, og 25 (.fa 3 (.t 1)) 24 true, og 26 (.ld 1 false (.t 25)) 24 true, og 27 (.call (.c (.func (.func 58) [])) [(.t 26)]) 24 true, oo 28 (.pick (.t 24) (.t 27) (.c (.bool false))), mv 29 28, og 30 (.fa 4 (.t 1)) 29 true, og 31 (.ld 1 false (.t 30)) 29 true, og 32 (.call (.c (.func (.func 60) [])) [(.t 31)]) 29 true, oo 33 (.pick (.t 29) (.t 32) (.c (.bool false))), mv 34 33, og 35 (.fa 5 (.t 1)) 34 true, og 36 (.ld 1 false (.t 35)) 34 true, og 37 (.call (.c (.func (.func 60) [])) [(.t 36)]) 34 true, oo 38 (.pick (.t 34) (.t 37) (.c (.bool false))), mv 5 38]) (.seq (.seq (rg [oo 39 (.fa 6 (.t 1)), oo 40 (.ld 1 false (.t 39)), oo 41 (.bin .eql .other true (.t 40) (.c (.int .u8 49))), mv 42 41, og 43 (.fa 6 (.t 1)) 42 false, og 44 (.ld 1 false (.t 43)) 42 false, og 45 (.bin .eql .other true (.t 44) (.c (.int .u8 50))) 42 false, oo 46 (.pick (.t 42) (.c (.bool true)) (.t 45))]) (.cond (.t 46) (.seq (rg [mv 47 5, mv 48 47, og 49 (.fa 7 (.t 1)) 48 true, og 50 (.ld 1 false (.t 49)) 48 true, og 51 (.call (.c (.func (.func 59) [])) [(.t 50)]) 48 true, oo 52 (.pick (.t 48) (.t 51) (.c (.bool false))), mv 53 52, og 54 (.fa 4 (.t 1)) 53 true, og 55 (.ld 1 false (.t 54)) 53 true, og 56 (.bin .eql .other true (.t 55) (ci 0)) 53 true, oo 57 (.pick (.t 53) (.t 56) (.c (.bool false))), mv 2 57]) .ret) .skip)) (.seq (.seq (rg [oo 58 (.fa 6 (.t 1)), oo 59 (.ld 1 false (.t 58)), oo 60 (.bin .neq .other true (.t 59) (.c (.int .u8 48))), mv 61 60, og 62 (.fa 6 (.t 1)) 61 true, og 63 (.ld 1 false (.t 62)) 61 true, og 64 (.bin .neq .other true (.t 63) (.c (.int .u8 120))) 61 true, oo 65 (.pick (.t 61) (.t 64) (.c (.bool false))), mv 66 65, og 67 (.fa 6 (.t 1)) 66 true, og 68 (.ld 1 false (.t 67)) 66 true, og 69 (.bin .neq .other true (.t 68) (.c (.int .u8 53))) 66 true, oo 70 (.pick (.t 66) (.t 69) (.c (.bool false)))]) (.cond (.t 70) (.seq (rg [oo 2 (.mov (.c (.bool false)))]) .ret) .skip)) (.seq (rg [mv 71 5, mv 72 71, og 73 (.fa 7 (.t 1)) 72 true, og 74 (.ld 1 false (.t 73)) 72 true, og 75 (.bin .eql .other true (.t 74) (.c (.str []))) 72 true, oo 76 (.pick (.t 72) (.t 75) (.c (.bool false))), mv 77 76, og 78 (.fa 4 (.t 1)) 77 true, og 79 (.ld 1 false (.t 78)) 77 true, og 80 (.bin .eql .other true (.t 79) (ci 0)) 77 true, og 81 (.mov (.t 80)) 77 true, og 82 (.fa 6 (.t 1)) 81 false, og 83 (.ld 1 false (.t 82)) 81 false, og 84 (.bin .neq .other true (.t 83) (.c (.int .u8 53))) 81 false, og 85 (.pick (.t 81) (.c (.bool true)) (.t 84)) 77 true, oo 86 (.pick (.t 77) (.t 85) (.c (.bool false))), mv 2 86]) .ret))))))⟩
theorem fn139 : AA.fn 139 = some b139 := by kernel_rfl
theorem np139 : AA.prim 139 = none := rfl
def l141_0 : ACode := (.seq (.seq (rg [mv 7 6, mv 8 1, oo 9 (.bin .lss .other false (.t 7) (.t 8))]) (.cond (.t 9) .skip (.exit 0))) (.seq (.block 1 (.seq (rg [mv 12 0, oo 13 (.bin .rem .other true (.t 12) (ci 8)), oo 14 (.bin .add .other true (ci 48) (.t 13)), oo 15 (.cvi .u8 (.t 14)), oo 16 (.bslice 1 1 [(.int .u8 0)] [(.t 15)]), oo 17 (.cvbs (.t 16)), mv 18 5, oo 19 (.bin .add .other false (.t 17) (.t 18)), mv 5 19]) (rg [mv 20 0, oo 21 (.bin .quo .other true (.t 20) (ci 8)), mv 0 21]))) (rg [mv 10 6, oo 11 (.bin .add .other true (.t 10) (ci 1)), mv 6 11])))
def r141_0 : ACode := (.seq (rg [mv 22 5, mv 4 22]) .ret)
def b141 : AFn := ⟨2, 23, [(4, none)], (.seq (rg [oo 4 (.mov (.c (.str [])))]) (.seq (rg [oo 5 (.mov (.c (.str [])))]) (.seq (.seq (rg [oo 6 (.mov (ci 0))]) (.block 0 (.loop [0, 1, 4, 5, 6] l141_0))) r141_0)))⟩
theorem fn141 : AA.fn 141 = some b141 := by kernel_rfl
theorem np141 : AA.prim 141 = none := rfl
def l182_0 : ACode := (.seq (.seq (rg [mv 13 7, mv 14 2, oo 15 (.bin .lss .other false (.t 13) (.t 14))]) (.cond (.t 15) .skip (.exit 0))) (.seq (.block 1 (rg [mv 18 0, oo 19 (.bslice 1 1 [(.int .u8 0)] [(.c (.int .u8 0))]), oo 20 (.app 1 1 (.t 18) (.t 19)), mv 0 20])) (rg [mv 16 7, oo 17 (.bin .add .other true (.t 16) (ci 1)), mv 7 17])))
def r182_0 : ACode := (.seq (rg [mv 21 0, mv 6 21]) .ret)
def b182 : AFn := ⟨3, 22, [(6, none)], (.seq (rg [oo 6 (.mov (.c (.lit (.slice none 0 0))))]) (.seq (rg [mv 8 0, mv 9 1, oo 10 (.app 1 1 (.t 8) (.t 9)), mv 0 10]) (.seq (.seq (rg [mv 11 1, oo 12 (.len 0 (.t 11)), mv 7 12]) (.block 0 (.loop [0, 2, 6, 7] l182_0))) r182_0)))⟩
theorem fn182 : AA.fn 182 = some b182 := by kernel_rfl
theorem np182 : AA.prim 182 = none := rfl
def b140 : AFn := ⟨2, 71, [(4, none)], (.seq (rg [oo 2 (.box (.t 0)), oo 4 (.mov (.c (.lit (.slice none 0 0))))]) (.seq (rg [oo 10 (.fa 0 (.t 2)), oo 11 (.ld 1 false (.t 10)), cl 12 57 [(.t 11)], mv 9 12, oo 13 (.ext (.t 9) 0), oo 14 (.ext (.t 9) 1), oo 15 (.ext (.t 9) 2), mv 5 13, mv 6 14, mv 7 15]) (.seq (rg [oo 8 (.mov (.c (.lit (.slice none 0 0))))]) (.seq (rg [mv 16 8, mv 17 6, cl 18 182 [(.t 16), (.t 17), (ci 100)], mv 8 18]) (.seq (rg [mv 19 8, oo 20 (.fa 1 (.t 2)), oo 21 (.ld 1 false (.t 20)), cl 22 141 [(.t 21), (ci 7)], cl 23 182 [(.t 19), (.t 22), (ci 8)], mv 8 23]) (.seq (rg [mv 24 8, oo 25 (.fa 2 (.t 2)), oo 26 (.ld 1 false (.t 25)), cl 27 141 [(.t 26), (ci 7)], cl 28 182 [(.t 24), (.t 27), (ci 8)], mv 8 28]) (.seq (rg [mv 29 8, oo 30 (.fa 3 (.t 2)), oo 31 (.ld 1 false (.t 30)), cl 32 141 [(.t 31), (ci 7)], cl 33 182 [(.t 29), (.t 32), (ci 8)], mv 8 33]) (.seq (rg [mv 34 8, oo 35 (.fa 4 (.t 2)), oo 36 (.ld 1 false (.t 35)), cl 37 141 [(.t 36), (ci 11)], cl 38 182 [(.t 34), (.t 37), (ci 12)], mv 8 38]) (.seq (rg [mv 39 8, oo 40 (.fa 5 (.t 2)), oo 41 (.ld 1 false (.t 40)), cl 42 141 [(.t 41), (ci 11)], cl 43 182 [(.t 39), (.t 42), (ci 12)], mv 8 43]) (.seq (rg [mv 44 8, mv 45 1, oo 46 (.app 1 1 (.t 44) (.t 45)), mv 8 46]) (.seq (rg [mv 47 8, oo 48 (.fa 6 (.t 2)), oo 49 (.ld 1 false (.t 48)), oo 50 (.bslice 1 1 [(.int .u8 0)] [(.t 49)]), oo 51 (.app 1 1 (.t 47) (.t 50)), mv 8 51]) (.seq (rg [mv 52 8, oo 53 (.fa 7 (.t 2)), oo 54 (.ld 1 false (.t 53)), cl 55 182 [(.t 52), (.t 54), (ci 100)], mv 8 55]) (.seq (rg [mv 56 8, oo 57 (.call (.c (.func (.func 182) [])) [(.t 56), (.c (.str [117, 115, 116, 97, 114])), (ci 6)]), mv 8 57]) (.seq (rg [mv 58 8, oo 59 (.app 1 1 (.t 58) (.c (.str [48, 48]))), mv 8 59]) (.seq (rg [mv 60 8, oo 61 (.call (.c (.func (.func 182) [])) [(.t 60), (.c (.str [])), (ci 64)]), mv 8 61]) (.seq (rg [mv 62 8, oo 63 (.call (.c (.func (.func 182) [])) [(.t 62), (.c (.str [48, 48, 48, 48, 48, 48, 48])), (ci 8)]), mv 8 63]) (.seq (rg [mv 64 8, oo 65 (.call (.c (.func (.func 182) [])) [(.t 64), (.c (.str [48, 48, 48, 48, 48, 48, 48])), (ci 8)]), mv 8 65]) (.seq (rg [mv 66 8, mv 67 5, cl 68 182 [(.t 66), (.t 67), (ci 155)], mv 8 68]) (.seq (rg [mv 69 8, oo 70 (.call (.c (.func (.func 182) [])) [(.t 69), (.c (.str [])), (ci 12)]), mv 4 70]) .ret)))))))))))))))))))⟩
theorem fn140 : AA.fn 140 = some b140 := by kernel_rfl
theorem np140 : AA.prim 140 = none := rfl
def l95_0 : ACode := (.seq (.seq (rg [mv 12 6, mv 13 4, oo 14 (.len 1 (.t 13)), oo 15 (.bin .lss .other false (.t 12) (.t 14))]) (.cond (.t 15) .skip (.exit 0))) (.seq (.block 1 (rg [mv 18 5, mv 19 4, mv 20 6, oo 21 (.ixa 1 (.t 19) (.t 20)), oo 22 (.ld 1 false (.t 21)), oo 23 (.cvi .i64 (.t 22)), oo 24 (.bin .add .other false (.t 18) (.t 23)), mv 5 24])) (rg [mv 16 6, oo 17 (.bin .add .other true (.t 16) (ci 1)), mv 6 17])))
def r95_0 : ACode := (.seq (.reg true [(0, 1), (0, 2), (0, 3)] [oo 25 (.ld 8 true (.t 1)), mv 26 5, cl 27 141 [(.t 26), (ci 6)], oo 28 (.bin .add .other true (.t 27) (.c (.str [0, 32]))), cl 29 140 [(.t 25), (.t 28)], mv 2 29, oo 3 (.mov (ci 0))]) .ret)
def b95 : AFn := ⟨1, 30, [(2, none), (3, none)], (.seq (rg [oo 1 (.box (.t 0)), oo 2 (.mov (.c (.lit (.slice none 0 0)))), oo 3 (.mov (ci 0))]) (.seq (.seq (rg [oo 7 (.ld 8 true (.t 1)), cl 8 139 [(.t 7)], oo 9 (.un .not (.t 8))]) (.cond (.t 9) (.seq (rg [oo 2 (.mov (.c (.lit (.slice none 0 0)))), oo 3 (.mov (ci 14))]) .ret) .skip)) (.seq (rg [oo 10 (.ld 8 true (.t 1)), oo 11 (.call (.c (.func (.func 140) [])) [(.t 10), (.c (.str [32, 32, 32, 32, 32, 32, 32, 32]))]), mv 4 11]) (.seq (rg [oo 5 (.mov (ci 0))]) (.seq (.seq (rg [oo 6 (.mov (ci 0))]) (.block 0 (.loop [1, 2, 3, 4, 5, 6] l95_0))) r95_0)))))⟩
theorem fn95 : AA.fn 95 = some b95 := by kernel_rfl
theorem np95 : AA.prim 95 = none := rfl
def l96_0 : ACode := (.seq (.seq (rg [mv 8 0, oo 9 (.len 1 (.t 8)), oo 10 (.bin .rem .other true (.t 9) (ci 512)), oo 11 (.bin .neq .other true (.t 10) (ci 0))]) (.cond (.t 11) .skip (.exit 0))) (.block 1 (rg [mv 12 0, oo 13 (.bslice 1 1 [(.int .u8 0)] [(.c (.int .u8 0))]), oo 14 (.app 1 1 (.t 12) (.t 13)), mv 0 14])))
def r96_0 : ACode := (.seq (rg [mv 15 0, mv 4 15]) .ret)
def b96 : AFn := ⟨2, 16, [(4, none)], (.seq (rg [oo 4 (.mov (.c (.lit (.slice none 0 0))))]) (.seq (rg [mv 5 0, mv 6 1, oo 7 (.app 1 1 (.t 5) (.t 6)), mv 0 7]) (.seq (.block 0 (.loop [0, 4] l96_0)) r96_0)))⟩
theorem fn96 : AA.fn 96 = some b96 := by kernel_rfl
theorem np96 : AA.prim 96 = none := rfl
def b97 : AFn := ⟨1, 64, [(2, (some (8, true)))], (.seq (rg [oo 1 (.box (.t 0)), oo 2 (.alloc [(.str []), (.int .i64 0), (.int .i64 0), (.int .i64 0), (.int .i64 0), (.int .i64 0), (.int .u8 0), (.str [])])]) (.seq (rg [oo 3 (.mov (.c (.str [48, 53, 48, 50, 49])))]) (.seq (.reg true [(1, 2), (0, 3), (1, 3), (1, 4), (3, 4), (0, 5), (1, 5), (2, 5), (3, 5), (1, 6), (3, 6), (5, 6), (0, 7), (1, 7), (2, 7), (3, 7), (4, 7), (5, 7), (1, 8), (3, 8), (5, 8), (7, 8), (0, 9), (1, 9), (2, 9), (3, 9), (4, 9), (5, 9), (6, 9), (7, 9), (1, 10), (3, 10), (5, 10), (7, 10), (1, 11), (3, 11), (5, 11), (7, 11), (9, 11), (0, 12), (1, 12), (2, 12), (3, 12), (4, 12), (5, 12), (6, 12), (7, 12), (8, 12), (9, 12), (10, 12), (1, 13), (3, 13), (5, 13), (7, 13), (9, 13), (12, 13), (1, 14), (3, 14), (5, 14), (7, 14), (9, 14), (12, 14), (0, 15), (1, 15), (2, 15), (3, 15), (4, 15), (5, 15), (6, 15), (7, 15), (8, 15), (9, 15), (10, 15), (11, 15), (12, 15), (13, 15), (1, 16), (3, 16), (5, 16), (7, 16), (9, 16), (12, 16), (1, 17), (3, 17), (5, 17), (7, 17), (9, 17), (12, 17), (15, 17), (0, 18), (1, 18), (2, 18), (3, 18), (4, 18), (5, 18), (6, 18), (7, 18), (8, 18), (9, 18), (10, 18), (11, 18), (12, 18), (13, 18), (14, 18), (15, 18), (16, 18), (0, 20), (1, 20), (2, 20), (3, 20), (4, 20), (5, 20), (6, 20), (7, 20), (8, 20), (9, 20), (10, 20), (11, 20), (12, 20), (13, 20), (14, 20), (15, 20), (16, 20), (17, 20), (18, 20), (19, 20)] [oo 8 (.fa 0 (.t 1)), oo 9 (.ld 1 false (.t 8)), oo 10 (.fa 2 (.t 1)), oo 11 (.ld 1 false (.t 10)), oo 12 (.fa 3 (.t 1)), oo 13 (.ld 1 false (.t 12)), oo 14 (.fa 4 (.t 1)), oo 15 (.ld 1 false (.t 14)), oo 16 (.fa 7 (.t 1)), oo 17 (.ld 1 false (.t 16)), oo 18 (.len 1 (.t 17)), oo 19 (.fa 5 (.t 1)), oo 20 (.ld 1 false (.t 19)), mv 21 3, oo 22 (.fa 1 (.t 1)), oo 23 (.ld 1 false (.t 22)), oo 24 (.ixs (.t 21) (.t 23)), oo 25 (.fa 6 (.t 1)), oo 26 (.ld 1 false (.t 25)), oo 27 (.build [(.str []), (.int .i64 0), (.int .i64 0), (.int .i64 0), (.int .i64 0), (.int .i64 0), (.int .u8 0), (.str [])] [(0, (1, (.t 9))), (1, (1, (.t 11))), (2, (1, (.t 13))), (3, (1, (.t 15))), (4, (1, (.t 18))), (5, (1, (.t 20))), (6, (1, (.t 24))), (7, (1, (.t 26)))]), oo 4 (.alloc [(.str []), (.int .i64 0), (.int .i64 0), (.int .i64 0), (.int .i64 0), (.int .i64 0), (.int .u8 0), (.str [])]), ⟨none, (.st 8 (.t 4) (.t 27)), none⟩]) (.seq (rg [oo 29 (.fa 0 (.t 1)), oo 30 (.ld 1 false (.t 29)), cl 31 57 [(.t 30)], mv 28 31, oo 32 (.ext (.t 28) 0), oo 33 (.ext (.t 28) 1), oo 34 (.ext (.t 28) 2), mv 5 32, mv 6 33, mv 7 34]) (.seq (.seq (rg [mv 35 7, oo 36 (.un .not (.t 35))]) (.cond (.t 36) (rg [oo 37 (.fa 0 (.t 4)), ⟨none, (.st 1 (.t 37) (.c (.str [112, 97, 120]))), none⟩]) .skip)) (.seq (.seq (rg [oo 38 (.fa 6 (.t 1)), oo 39 (.ld 1 false (.t 38)), oo 40 (.bin .neq .other true (.t 39) (.c (.str []))), mv 41 40, og 42 (.fa 6 (.t 1)) 41 true, og 43 (.ld 1 false (.t 42)) 41 true, og 44 (.call (.c (.func (.func 59) [])) [(.t 43)]) 41 true, og 45 (.un .not (.t 44)) 41 true, oo 46 (.pick (.t 41) (.t 45) (.c (.bool false)))]) (.cond (.t 46) (rg [oo 47 (.fa 7 (.t 4)), ⟨none, (.st 1 (.t 47) (.c (.str [112, 97, 120]))), none⟩]) .skip)) (.seq (.seq (rg [oo 48 (.fa 3 (.t 1)), oo 49 (.ld 1 false (.t 48)), cl 50 58 [(.t 49)], oo 51 (.un .not (.t 50))]) (.cond (.t 51) (rg [oo 52 (.fa 2 (.t 4)), ⟨none, (.st 1 (.t 52) (ci 0)), none⟩]) .skip)) (.seq (.seq (rg [oo 53 (.fa 4 (.t 1)), oo 54 (.ld 1 false (.t 53)), cl 55 58 [(.t 54)], oo 56 (.un .not (.t 55))]) (.cond (.t 56) (rg [oo 57 (.fa 3 (.t 4)), ⟨none, (.st 1 (.t 57) (ci 0)), none⟩]) .skip)) (.seq (.seq (rg [oo 58 (.fa 5 (.t 1)), oo 59 (.ld 1 false (.t 58)), cl 60 60 [(.t 59)], oo 61 (.un .not (.t 60))]) (.cond (.t 61) (rg [oo 62 (.fa 5 (.t 4)), ⟨none, (.st 1 (.t 62) (ci 0)), none⟩]) .skip)) (.seq (rg [oo 63 (.ld 8 true (.t 4)), ⟨none, (.st 8 (.t 2) (.t 63)), none⟩]) .ret))))))))))⟩
theorem fn97 : AA.fn 97 = some b97 := by kernel_rfl
theorem np97 : AA.prim 97 = none := rfl
def b53 : AFn := ⟨3, 51, [(6, none)], (.seq (rg [oo 5 (.box (.t 2)), oo 6 (.mov (.c (.lit (.slice none 0 0))))]) (.seq (rg [oo 14 (.ld 8 true (.t 5)), cl 15 22 [(.t 14)], mv 7 15]) (.seq (.seq (rg [mv 16 7, oo 17 (.len 1 (.t 16)), oo 18 (.bin .gtr .other true (.t 17) (ci 0))]) (.cond (.t 18) (.seq (rg [mv 20 7, cl 21 94 [(.t 20)], mv 19 21, oo 22 (.ext (.t 19) 0), oo 23 (.ext (.t 19) 1), mv 8 22, mv 9 23]) (.seq (rg [mv 25 1, cl 26 47 [(.t 25)], oo 27 (.bin .add .other true (.c (.str [112, 97, 120, 47])) (.t 26)), mv 28 8, oo 29 (.len 1 (.t 28)), oo 30 (.build [(.str []), (.int .i64 0), (.int .i64 0), (.int .i64 0), (.int .i64 0), (.int .i64 0), (.int .u8 0), (.str [])] [(0, (1, (.t 27))), (4, (1, (.t 29))), (6, (1, (.c (.int .u8 120))))]), cl 31 95 [(.t 30)], mv 24 31, oo 32 (.ext (.t 24) 0), oo 33 (.ext (.t 24) 1), mv 10 32, mv 11 33]) (rg [mv 34 0, mv 35 10, oo 36 (.app 1 1 (.t 34) (.t 35)), mv 37 8, cl 38 96 [(.t 36), (.t 37)], mv 0 38]))) .skip)) (.seq (rg [oo 40 (.ld 8 true (.t 5)), cl 41 97 [(.t 40)], cl 42 95 [(.t 41)], mv 39 42, oo 43 (.ext (.t 39) 0), oo 44 (.ext (.t 39) 1), mv 12 43, mv 13 44]) (.seq (.reg true [(2, 3), (0, 4), (1, 4), (2, 4)] [mv 45 0, mv 46 12, oo 47 (.app 1 1 (.t 45) (.t 46)), oo 48 (.fa 7 (.t 5)), oo 49 (.ld 1 false (.t 48)), cl 50 96 [(.t 47), (.t 49)], mv 6 50]) .ret)))))⟩
theorem fn53 : AA.fn 53 = some b53 := by kernel_rfl
theorem np53 : AA.prim 53 = none := rfl
def l18_0 : ACode := (.seq (.seq (rg [mv 17 7, mv 18 0, oo 19 (.len 1 (.t 18)), oo 20 (.bin .lss .other false (.t 17) (.t 19))]) (.cond (.t 20) .skip (.exit 0))) (.seq (.block 1 (rg [mv 23 6, mv 24 7, mv 25 0, mv 26 7, oo 27 (.ixa 8 (.t 25) (.t 26)), oo 28 (.ld 8 true (.t 27)), cl 29 53 [(.t 23), (.t 24), (.t 28)], mv 6 29])) (rg [mv 21 7, oo 22 (.bin .add .other true (.t 21) (ci 1)), mv 7 22])))
def r18_0 : ACode := (.seq (rg [mv 30 6, oo 31 (.appz 1 1 [(.int .u8 0)] (.t 30) (ci 1024)), mv 2 31, oo 3 (.mov (ci 0))]) .ret)
def b18 : AFn := ⟨1, 32, [(2, none), (3, none)], (.seq (rg [oo 2 (.mov (.c (.lit (.slice none 0 0)))), oo 3 (.mov (ci 0))]) (.seq (rg [mv 9 0, cl 10 41 [(.t 9)], mv 8 10, oo 11 (.ext (.t 8) 0), oo 12 (.ext (.t 8) 1), mv 4 11, mv 5 12]) (.seq (.seq (rg [mv 13 5, oo 14 (.bin .neq .other true (.t 13) (ci 0))]) (.cond (.t 14) (.seq (rg [mv 15 5, oo 2 (.mov (.c (.lit (.slice none 0 0)))), mv 3 15]) .ret) .skip)) (.seq (rg [oo 16 (.bslice 1 0 [(.int .u8 0)] []), mv 6 16]) (.seq (.seq (rg [oo 7 (.mov (ci 0))]) (.block 0 (.loop [0, 2, 3, 6, 7] l18_0))) r18_0)))))⟩
theorem fn18 : AA.fn 18 = some b18 := by kernel_rfl
theorem np18 : AA.prim 18 = none := rfl
def l3_0 : ACode := (.seq (rg [oo 64 (.bin .lss .other false (.t 63) (.t 62))]) (.seq (.cond (.t 64) .skip (.exit 2)) (.seq (.block 3 (.seq (rg [mv 65 63, mv 12 65]) (.seq (.reg true [(3, 4), (3, 5), (3, 6), (0, 7), (1, 7), (2, 7), (3, 7)] [mv 66 10, mv 67 12, oo 68 (.ixa 2 (.t 66) (.t 67)), oo 69 (.ld 2 true (.t 68)), mv 70 11, mv 71 12, oo 72 (.ixa 2 (.t 70) (.t 71)), oo 73 (.ld 2 true (.t 72)), oo 74 (.bin .neq .pair false (.t 69) (.t 73))]) (.cond (.t 74) (.seq (rg [oo 2 (.mov (.c (.bool false)))]) .ret) .skip)))) (rg [oo 75 (.bin .add .other true (.t 63) (ci 1)), mv 63 75]))))
def r3_0 : ACode := (rg [oo 76 (.bin .add .other true (.t 48) (ci 1)), mv 48 76])
def l3_1 : ACode := (.seq (rg [oo 49 (.bin .lss .other false (.t 48) (.t 47))]) (.seq (.cond (.t 49) .skip (.exit 0)) (.seq (.block 1 (.seq (rg [oo 50 (.ixa 8 (.t 46) (.t 48)), oo 51 (.ld 8 true (.t 50)), oo 9 (.alloc [(.str []), (.int .i64 0), (.int .i64 0), (.int .i64 0), (.int .i64 0), (.int .i64 0), (.str []), (.lit (.slice none 0 0))]), ⟨none, (.st 8 (.t 9) (.t 51)), none⟩]) (.seq (rg [oo 52 (.ld 8 true (.t 9)), cl 53 21 [(.t 52)], mv 10 53]) (.seq (rg [oo 54 (.ld 8 true (.t 9)), cl 55 22 [(.t 54)], mv 11 55]) (.seq (.seq (rg [mv 56 10, oo 57 (.len 1 (.t 56)), mv 58 11, oo 59 (.len 1 (.t 58)), oo 60 (.bin .neq .other false (.t 57) (.t 59))]) (.cond (.t 60) (.seq (rg [oo 2 (.mov (.c (.bool false)))]) .ret) .skip)) (.seq (rg [mv 61 10, oo 62 (.len 1 (.t 61)), oo 63 (.mov (ci 0))]) (.block 2 (.loop [2, 10, 11, 46, 47, 48, 62, 63] l3_0)))))))) r3_0)))
def r3_1 : ACode := (.seq (rg [oo 2 (.mov (.c (.bool true)))]) .ret)
def b3 : AFn := ⟨1, 77, [(2, none)], (.seq (rg [oo 2 (.mov (.c (.bool false)))]) (.seq (.seq (rg [cl 13 14 [], oo 14 (.un .not (.t 13))]) (.cond (.t 14) (.seq (rg [oo 2 (.mov (.c (.bool false)))]) .ret) .skip)) (.seq (.seq (rg [mv 15 0, cl 16 15 [(.t 15)]]) (.cond (.t 16) (.seq (rg [oo 2 (.mov (.c (.bool true)))]) .ret) .skip)) (.seq (rg [mv 17 0, cl 18 16 [(.t 17)], mv 3 18]) (.seq (rg [mv 20 0, cl 21 17 [(.t 20)], mv 19 21, oo 22 (.ext (.t 19) 0), oo 23 (.ext (.t 19) 1), mv 4 22, mv 5 23]) (.seq (rg [mv 25 3, cl 26 18 [(.t 25)], mv 24 26, oo 27 (.ext (.t 24) 0), oo 28 (.ext (.t 24) 1), mv 6 27, mv 7 28]) (.seq (.seq (rg [mv 29 4, oo 30 (.cvbs (.t 29)), mv 31 6, oo 32 (.cvbs (.t 31)), oo 33 (.bin .neq .other false (.t 30) (.t 32)), mv 34 33, og 35 (.mov (.t 5)) 34 false, og 36 (.call (.c (.func (.func 19) [])) [(.t 35)]) 34 false, og 37 (.mov (.t 7)) 34 false, og 38 (.bin .neq .other false (.t 36) (.t 37)) 34 false, oo 39 (.pick (.t 34) (.c (.bool true)) (.t 38)), mv 40 39, og 41 (.mov (.t 0)) 40 false, og 42 (.mov (.t 3)) 40 false, og 43 (.call (.c (.func (.func 20) [])) [(.t 41), (.t 42)]) 40 false, og 44 (.un .not (.t 43)) 40 false, oo 45 (.pick (.t 40) (.c (.bool true)) (.t 44))]) (.cond (.t 45) (.seq (rg [oo 2 (.mov (.c (.bool false)))]) .ret) .skip)) (.seq (.seq (rg [mv 46 0, oo 47 (.len 1 (.t 46)), oo 48 (.mov (ci 0))]) (.block 0 (.loop [2, 46, 47, 48] l3_1))) r3_1))))))))⟩
end Go.Abs
namespace Go.Abs
open Am Lib
set_option maxRecDepth 10000
set_option linter.unusedSimpArgs false
def kwOk (b : UInt8) : Bool := decide (32 < b.toNat ∧ b.toNat < 127 ∧ b.toNat ≠ 61)
theorem h181 (s : List UInt8) (hs : s.length ≤ 1000000) (v : Bool) : ∀ (rest pre : List UInt8) (i : Int), s = pre ++ rest → i = pre.length → v = (rest.all kwOk && (decide (1 ≤ (s.length : Int)) && decide ((s.length : Int) ≤ 100))) →
    HD AA 0 [0, 2, 3] l181_0 ⟨[.str s, .junk, .bool false, .int .i64 i, .junk, .junk, .junk, .junk, .junk, .junk, .junk, .junk, .junk, .junk, .junk, .junk, .junk, .junk, .junk, .junk, .junk, .junk, .junk, .junk, .junk, .junk, .junk, .junk, .junk, .junk, .junk, .junk, .junk, .junk], [], 0⟩ [.blk 0, .code r181_0] (Fin [(2, none)] 0 (.bool v) [])
  | [], pre, i, h1, h2, h4 => by
    have hl : s.length = pre.length := by rw [h1]; simp
    rw [List.all_nil, Bool.true_and] at h4
    subst h4
    refine hd_of (by unfold l181_0; rfl) ?_
    have gg := trivial; repeat' first | simp (maxSteps := 2000000) (disch := omega) only [gg, r181_0, go_sem] | (refine br ?_ ?_ <;> intro gg <;> try (exfalso; omega)) | (refine And.intro ?_ ?_; focus omega) | omega
    (all_goals (first | (simp_all []; done) | (simp_all []; omega) | (simp_all []; intros; omega) | (simp_all []; rw [Bool.eq_iff_iff]; simp; done) | (simp_all []; rw [Bool.eq_iff_iff]; simp; omega)))
  | c :: r, pre, i, h1, h2, h4 => by
    have hl : s.length = pre.length + (r.length + 1) := by rw [h1]; simp
    have ei : i.toNat = pre.length := by omega
    have hxi : s[i.toNat]? = some c := by
      rw [ei, h1, List.getElem?_append_right (by omega)]
      simp
    have hc := c.toNat_lt
    have ih := h181 s hs (r.all kwOk && (decide (1 ≤ (s.length : Int)) && decide ((s.length : Int) ≤ 100))) r (pre ++ [c]) (i + 1) (by rw [h1]; simp) (by simp; omega) rfl
    have hv1 : decide (1 ≤ (s.length : Int)) = true := decide_eq_true (by omega)
    rw [hv1, Bool.true_and] at ih
    rw [List.all_cons, hv1, Bool.true_and] at h4
    cases ob : kwOk c with
    | true =>
      have hb := of_decide_eq_true ob
      rw [ob, Bool.true_and] at h4
      subst h4
      refine hd_of (by unfold l181_0; rfl) ?_
      have gg := trivial; repeat' first | simp (maxSteps := 2000000) (disch := omega) only [gg, hxi, lp_head, go_sem] | (refine br ?_ ?_ <;> intro gg <;> try (exfalso; omega)) | (refine And.intro ?_ ?_; focus omega) | omega
    | false =>
      have hb := of_decide_eq_false ob
      rw [ob, Bool.false_and, Bool.false_and] at h4
      subst h4
      refine hd_of (by unfold l181_0; rfl) ?_
      have gg := trivial; repeat' first | simp (maxSteps := 2000000) (disch := omega) only [gg, hxi, lp_head, go_sem] | (refine br ?_ ?_ <;> intro gg <;> try (exfalso; omega)) | (refine And.intro ?_ ?_; focus omega) | omega
      all_goals (exfalso; omega)
theorem kwOk_eq : kwOk = kwByte := by
  funext b
  unfold kwOk kwByte
  rw [Bool.eq_iff_iff]
  simp
  omega
theorem s181 (s : List UInt8) (hs : s.length ≤ 1000000) : callT AA 181 [.str s] [] = some (.bool (kwB s), []) := by
  have hh := h181 s hs (kwB s) s [] 0 rfl rfl (by
    unfold kwB
    rw [kwOk_eq, Bool.and_comm (s.all kwByte)]
    have e1 : decide (s ≠ []) = decide (1 ≤ (s.length : Int)) := by
      apply decide_eq_decide.2
      cases s with
      | nil => simp
      | cons a r => simp; omega
    have e2 : decide (s.length ≤ 100) = decide ((s.length : Int) ≤ 100) := by
      apply decide_eq_decide.2
      omega
    rw [e1, e2])
  refine enter fn181 np181 rfl ?_
  have gg := trivial; repeat' first | simp (maxSteps := 2000000) (disch := omega) only [gg, b181, lp_head, go_sem] | (refine br ?_ ?_ <;> intro gg <;> try (exfalso; omega)) | (refine And.intro ?_ ?_; focus omega) | omega
end Go.Abs
namespace Go.Abs
open Am Lib
set_option maxRecDepth 10000
set_option linter.unusedSimpArgs false
theorem lenF_below (rest m : Int) (h0 : 0 ≤ rest) (hm : m = rest + digs m) : ∀ (k : Nat) (n : Int), 0 ≤ n → n ≤ m → lenF rest k n ≤ m
  | 0, n, _, h => h
  | k + 1, n, hn, h => by
    have h1 := digs_mono hn h
    have h2 := digs_pos hn
    unfold lenF
    split
    · exact h
    · exact lenF_below rest m h0 hm k _ (by omega) (by omega)
theorem paxLen_least {rest d : Int} (h0 : 0 ≤ rest) (h1 : 1 ≤ d) (h : digs (rest + d) = d) : paxLen rest ≤ rest + d :=
  lenF_below rest (rest + d) h0 (by omega) 6 (rest + 1) (by omega) (by omega)
theorem digs_99999 : digs 99999 = 5 := by
  have h2 : Lib.nDigits 99999 = 5 := Lib.nDigits_unique 4 99999 (by decide) (by decide)
  rw [digs, itoa_length (by decide)]
  have e : (99999 : Int).toNat = 99999 := rfl
  rw [e, h2]
  rfl
/-- the line, or none -/
def lineV (s : List UInt8) : AVal := if paxLen s.length ≤ 65536 then .tuple [.str (Lib.itoa (paxLen s.length) ++ s), .int .i64 0] else .tuple [.str [], .int .i64 15]
theorem h138 (s : List UInt8) (hl : s.length ≤ 66000) (r0 : AVal) (hr : r0 = lineV s) : ∀ (n : Nat) (d : Int), d + n = 6 → 1 ≤ d → (∀ d' : Int, 1 ≤ d' → d' < d → digs (s.length + d') = d' → 65536 < s.length + d') →
    HD AA 0 [4, 5, 6, 7] l138_0 ⟨[.junk, .junk, .junk, .junk, .str [], .int .i64 0, .str s, .int .i64 d, .junk, .junk, .junk, .junk, .junk, .junk, .junk, .junk, .junk, .junk, .junk, .junk, .junk, .junk, .junk, .junk, .junk, .junk, .junk, .junk, .junk, .junk, .junk, .junk, .junk, .junk, .junk, .junk, .junk, .junk, .junk, .junk, .junk, .junk, .junk, .junk, .junk, .junk], [], 0⟩ [.blk 0, .code r138_0] (Fin [(4, none), (5, none)] 0 r0 [])
  | 0, d, h1, h2, h3 => by
    have h4 := paxLen_fix (rest := s.length) (by omega) (by omega)
    have h5 := paxLen_le (rest := s.length) (by omega) (by omega)
    have h6 : ¬ paxLen s.length ≤ 65536 := by
      intro h7
      have h8 := digs_mono (a := paxLen s.length) (b := 99999) (by omega) (by omega)
      rw [digs_99999] at h8
      have h9 := h3 (digs (paxLen s.length)) (by omega) (by omega) (by rw [← h4])
      omega
    unfold lineV at hr
    rw [if_neg h6] at hr
    subst hr
    refine hd_of (by unfold l138_0; rfl) ?_
    have gg := trivial; repeat' first | simp (maxSteps := 2000000) (disch := omega) only [gg, r138_0, go_sem] | (refine br ?_ ?_ <;> intro gg <;> try (exfalso; omega)) | (refine And.intro ?_ ?_; focus omega) | omega
  | n + 1, d, h1, h2, h3 => by
    have h4 := paxLen_fix (rest := s.length) (by omega) (by omega)
    have h5 := paxLen_le (rest := s.length) (by omega) (by omega)
    have hs := s47 (s.length + d) (by omega) (by omega)
    have h6 := digs_le7 (a := s.length + d) (by omega) (by omega)
    have h7 : ((Lib.itoa (s.length + d)).length : Int) = digs (s.length + d) := rfl
    by_cases h8 : digs (s.length + d) = d ∧ s.length + d ≤ 65536
    · have h9 := paxLen_least (rest := s.length) (by omega) h2 h8.1
      have h10 : paxLen s.length = s.length + d := by
        rcases Int.lt_or_le (digs (paxLen s.length)) d with h11 | h11
        · have h12 := digs_pos (n := paxLen s.length) (by omega)
          have h13 := h3 (digs (paxLen s.length)) (by omega) h11 (by rw [← h4])
          omega
        · omega
      unfold lineV at hr
      rw [h10, if_pos h8.2] at hr
      subst hr
      obtain ⟨h8, h14⟩ := h8
      generalize hT : Lib.itoa (s.length + d) = T at *
      have h7' : (T.length : Int) = d := by omega
      refine hd_of (by unfold l138_0; rfl) ?_
      have gg := trivial; repeat' first | simp (maxSteps := 2000000) (disch := omega) only [gg, hs, h7', go_sem] | (refine br ?_ ?_ <;> intro gg <;> try (exfalso; omega)) | (refine And.intro ?_ ?_; focus omega) | omega
    · have ih := h138 s hl r0 hr n (d + 1) (by omega) (by omega) (fun d' k1 k2 k3 => by
        rcases Int.lt_or_le d' d with k4 | k4
        · exact h3 d' k1 k4 k3
        · have : d' = d := by omega
          subst this
          omega)
      generalize hT : Lib.itoa (s.length + d) = T at *
      refine hd_of (by unfold l138_0; rfl) ?_
      have gg := trivial; repeat' first | simp (maxSteps := 2000000) (disch := omega) only [gg, hs, lp_head, go_sem] | (refine br ?_ ?_ <;> intro gg <;> try (exfalso; omega)) | (refine And.intro ?_ ?_; focus omega) | omega
theorem s138 (k v : List UInt8) (hk : k.length ≤ 1000000) (hv : v.length ≤ 1000000) : callT AA 138 [.str k, .str v] [] = some (if lineOk k v = true then .tuple [.str (lineB k v), .int .i64 0] else .tuple [.str [], .int .i64 15], []) := by
  have h1 := s181 k hk
  have hl := restP_length (k := k) (v := v)
  refine enter fn138 np138 rfl ?_
  cases h2 : kwB k with
  | false =>
    have e : (if lineOk k v = true then AVal.tuple [.str (lineB k v), .int .i64 0] else .tuple [.str [], .int .i64 15]) = .tuple [.str [], .int .i64 15] := if_neg (by simp [lineOk, h2])
    rw [e]
    rw [h2] at h1
    have gg := trivial; repeat' first | simp (maxSteps := 2000000) (disch := omega) only [gg, b138, h1, go_sem] | (refine br ?_ ?_ <;> intro gg <;> try (exfalso; omega)) | (refine And.intro ?_ ?_; focus omega) | omega
  | true =>
    have h3 : k.length ≤ 100 := by
      simp only [kwB, Bool.and_eq_true, decide_eq_true_eq] at h2
      exact h2.1.2
    rw [h2] at h1
    by_cases h4 : v.length ≤ 65536
    · have e : (if lineOk k v = true then AVal.tuple [.str (lineB k v), .int .i64 0] else .tuple [.str [], .int .i64 15]) = lineV (restP k v) := by
        unfold lineV lineOk lineB
        simp [h2, h4]
      rw [e]
      have hh := h138 (restP k v) (by omega) _ rfl 5 1 (by omega) (by omega) (fun d' k1 k2 => by omega)
      generalize hR : restP k v = R at *
      generalize lineV R = V at *
      have gg := trivial; repeat' first | simp (maxSteps := 2000000) (disch := omega) only [gg, b138, h1, restP_eq, hR, lp_head, go_sem] | (refine br ?_ ?_ <;> intro gg <;> try (exfalso; omega)) | (refine And.intro ?_ ?_; focus omega) | omega
    · have e : (if lineOk k v = true then AVal.tuple [.str (lineB k v), .int .i64 0] else .tuple [.str [], .int .i64 15]) = .tuple [.str [], .int .i64 15] := if_neg (by simp [lineOk, h4])
      rw [e]
      have gg := trivial; repeat' first | simp (maxSteps := 2000000) (disch := omega) only [gg, b138, h1, go_sem] | (refine br ?_ ?_ <;> intro gg <;> try (exfalso; omega)) | (refine And.intro ?_ ?_; focus omega) | omega
end Go.Abs
namespace Go.Abs
open Am Lib
set_option maxRecDepth 10000
set_option linter.unusedSimpArgs false
def kindF (p : List UInt8) : List Ent → Int
  | [] => 0
  | e :: r => if e.path = p then e.kind else kindF p r
set_option maxHeartbeats 2000000 in
theorem h79 (c tmp : Bool) (t : List Ent) (ht : t.length ≤ 1000000) (p : List UInt8) (n : Int) (hn : n ≤ t.length) (r0 : Int) : ∀ (rest done : List Ent) (i : Int), t = done ++ rest → i = done.length → i ≤ n → r0 = kindF p (rest.take (n - i).toNat) →
    HD AA 0 [0, 1, 2, 6, 7] l79_0 ⟨[.view 8 (t.map Ent.av) c tmp, .int .i64 n, .str p, .junk, .junk, .junk, .int .i64 0, .int .i64 i, .junk, .junk, .junk, .junk, .junk, .junk, .junk, .junk, .junk, .junk, .junk, .junk, .junk, .junk, .junk, .junk, .junk], [], 0⟩ [.blk 0, .code r79_0] (Fin [(6, none)] 0 (.int .i64 r0) [])
  | [], done, i, h1, h2, h3, h5 => by
    have hl : t.length = done.length := by rw [h1]; simp
    have hr : r0 = 0 := by rw [h5]; simp [kindF]
    subst hr
    refine hd_of (by unfold l79_0; rfl) ?_
    have gg := trivial; repeat' first | simp (maxSteps := 2000000) (disch := omega) only [gg, r79_0, go_sem] | (refine br ?_ ?_ <;> intro gg <;> try (exfalso; omega)) | (refine And.intro ?_ ?_; focus omega) | omega
  | e :: rest, done, i, h1, h2, h3, h5 => by
    have hl : t.length = done.length + (rest.length + 1) := by rw [h1]; simp
    by_cases h6 : i = n
    · have hr : r0 = 0 := by rw [h5, h6]; simp [kindF]
      subst hr
      refine hd_of (by unfold l79_0; rfl) ?_
      have gg := trivial; repeat' first | simp (maxSteps := 2000000) (disch := omega) only [gg, r79_0, go_sem] | (refine br ?_ ?_ <;> intro gg <;> try (exfalso; omega)) | (refine And.intro ?_ ?_; focus omega) | omega
    · have hx : t[i.toNat]? = some e := by
        rw [show i.toNat = done.length by omega, h1, List.getElem?_append_right (by omega)]
        simp
      have e1 : (n - i).toNat = (n - (i + 1)).toNat + 1 := by omega
      rw [e1, List.take_succ_cons, kindF] at h5
      by_cases h7 : e.path = p
      · rw [if_pos h7] at h5
        subst h5
        refine hd_of (by unfold l79_0; rfl) ?_
        have gg := trivial; repeat' first | simp (maxSteps := 2000000) (disch := omega) only [gg, hx, h7, go_sem] | (refine br ?_ ?_ <;> intro gg <;> try (exfalso; omega)) | (refine And.intro ?_ ?_; focus omega) | omega
      · rw [if_neg h7] at h5
        have ih := h79 c tmp t ht p n hn r0 rest (done ++ [e]) (i + 1) (by rw [h1]; simp) (by simp; omega) (by omega) h5
        refine hd_of (by unfold l79_0; rfl) ?_
        have gg := trivial; repeat' first | simp (maxSteps := 2000000) (disch := omega) only [gg, hx, h7, lp_head, go_sem] | (refine br ?_ ?_ <;> intro gg <;> try (exfalso; omega)) | (refine And.intro ?_ ?_; focus omega) | omega
theorem s79 (c tmp : Bool) (t : List Ent) (ht : t.length ≤ 1000000) (p : List UInt8) (n : Int) (h0 : 0 ≤ n) (hn : n ≤ t.length) : callT AA 79 [.view 8 (t.map Ent.av) c tmp, .int .i64 n, .str p] [] = some (.int .i64 (kindF p (t.take n.toNat)), []) := by
  have hh := h79 c tmp t ht p n hn (kindF p (t.take n.toNat)) t [] 0 rfl rfl h0 (by rw [show (n - 0).toNat = n.toNat by omega])
  refine enter fn79 np79 rfl ?_
  have gg := trivial; repeat' first | simp (maxSteps := 2000000) (disch := omega) only [gg, b79, lp_head, go_sem] | (refine br ?_ ?_ <;> intro gg <;> try (exfalso; omega)) | (refine And.intro ?_ ?_; focus omega) | omega
theorem bl_trans : ∀ a b c : List UInt8, Op.bytesLess a b = true → Op.bytesLess b c = true → Op.bytesLess a c = true
  | _, _, [], _, h => by simp [Op.bytesLess] at h
  | _, [], _ :: _, h, _ => by simp [Op.bytesLess] at h
  | [], _ :: _, _ :: _, _, _ => by simp [Op.bytesLess]
  | x :: a, y :: b, z :: c, h1, h2 => by
    have ih := bl_trans a b c
    simp only [Op.bytesLess, Bool.or_eq_true, decide_eq_true_eq, Bool.and_eq_true, beq_iff_eq] at h1 h2 ⊢
    rcases h1 with h1 | ⟨h1, h3⟩
    · rcases h2 with h2 | ⟨h2, h4⟩
      · exact Or.inl (UInt8.lt_trans h1 h2)
      · subst h2; exact Or.inl h1
    · subst h1
      rcases h2 with h2 | ⟨h2, h4⟩
      · exact Or.inl h2
      · exact Or.inr ⟨h2, ih h3 h4⟩
theorem cmp_trans (a b c : List UInt8) (h1 : compareBytes a b = -1) (h2 : compareBytes b c = -1) : compareBytes a c = -1 := by
  have h3 : Op.bytesLess a b = true := by
    rcases cmp_cases a b with ⟨e1, e2, _⟩ | ⟨e1, _⟩ | ⟨e1, _⟩
    · exact e2
    all_goals omega
  have h4 : Op.bytesLess b c = true := by
    rcases cmp_cases b c with ⟨e1, e2, _⟩ | ⟨e1, _⟩ | ⟨e1, _⟩
    · exact e2
    all_goals omega
  have h5 := bl_trans a b c h3 h4
  rcases cmp_cases a c with ⟨e1, _⟩ | ⟨_, _, e2, _⟩ | ⟨_, e2, _⟩
  · exact e1
  · rw [h5] at e2; simp at e2
  · rw [h5] at e2; simp at e2
theorem cmp_self (a : List UInt8) : compareBytes a a = 0 := by
  rcases cmp_cases a a with h | h | h <;> simp_all
theorem cmp_zero {a b : List UInt8} (h : compareBytes a b = 0) : a = b := by
  rcases cmp_cases a b with h1 | h1 | h1 <;> simp_all
theorem cmpR_self : ∀ a : List (List UInt8), cmpR a a = 0
  | [] => rfl
  | x :: a => by rw [cmpR, cmp_self, if_neg (by omega), cmpR_self a]
theorem cmpR_range : ∀ a b : List (List UInt8), cmpR a b = -1 ∨ cmpR a b = 0 ∨ cmpR a b = 1
  | [], [] => by simp [cmpR]
  | [], _ :: _ => by simp [cmpR]
  | _ :: _, [] => by simp [cmpR]
  | x :: a, y :: b => by
    have ih := cmpR_range a b
    rw [cmpR]
    split
    · rcases cmp_cases x y with h | h | h <;> omega
    · exact ih
theorem cmpR_trans : ∀ a b c : List (List UInt8), cmpR a b = -1 → cmpR b c = -1 → cmpR a c = -1
  | _, _ :: _, [], _, h => by simp [cmpR] at h
  | _, [], [], _, h => by simp [cmpR] at h
  | _ :: _, [], _ :: _, h, _ => by simp [cmpR] at h
  | [], _, _ :: _, _, _ => by simp [cmpR]
  | x :: a, y :: b, z :: c, h1, h2 => by
    have ih := cmpR_trans a b c
    rw [cmpR] at h1 h2 ⊢
    by_cases g1 : compareBytes x y = 0
    · have e := cmp_zero g1
      subst e
      rw [g1, if_neg (by omega)] at h1
      by_cases g2 : compareBytes x z = 0
      · rw [g2, if_neg (by omega)] at h2 ⊢
        exact ih h1 h2
      · rw [if_pos g2] at h2 ⊢
        exact h2
    · rw [if_pos g1] at h1
      by_cases g2 : compareBytes y z = 0
      · have e := cmp_zero g2
        subst e
        rw [if_pos (by omega)]
        exact h1
      · rw [if_pos g2] at h2
        have h3 := cmp_trans x y z h1 h2
        rw [if_pos (by omega)]
        exact h3
theorem path_eq (a b : List UInt8) : cmpPath a b = cmpR (splitOn 47 a) (splitOn 47 b) := (cmpR_parts _ _ (splitOn_ne 47 a) (splitOn_ne 47 b)).symm
theorem path_self (a : List UInt8) : cmpPath a a = 0 := by rw [path_eq, cmpR_self]
theorem path_trans {a b c : List UInt8} (h1 : cmpPath a b = -1) (h2 : cmpPath b c = -1) : cmpPath a c = -1 := by
  rw [path_eq] at *
  exact cmpR_trans _ _ _ h1 h2
theorem path_range (a b : List UInt8) : cmpPath a b = -1 ∨ cmpPath a b = 0 ∨ cmpPath a b = 1 := by
  rw [path_eq]
  exact cmpR_range _ _
end Go.Abs
namespace Go.Abs
open Am Lib
set_option maxRecDepth 10000
set_option linter.unusedSimpArgs false
theorem bl_total (a b : List UInt8) : (Op.bytesLess b a || decide (b = a)) = !Op.bytesLess a b := by
  rcases cmp_cases a b with ⟨_, h1, h2⟩ | ⟨_, h0, h1, h2⟩ | ⟨_, h1, h2⟩
  · rw [h1, h2]
    simp
    intro h
    subst h
    rw [h1] at h2
    cases h2
  · subst h0
    simp [h1]
  · rw [h1, h2]
    rfl
def paxRV (x : Option (List UInt8)) : AVal := match x with
  | none => .tuple [.lit (.slice none 0 0), .int .i64 15]
  | some o => .tuple [.own 0 1 0 o.length false, .int .i64 0]
theorem h94 (c t : Bool) (rs : List Rcd) (hs : rs.length ≤ 1000000) (hb : ∀ r ∈ rs, RcdOk r) (r0 : Option (List UInt8)) : ∀ (rest done : List Rcd) (out : List UInt8) (i : Int) (q : Nat), rs = done ++ rest → i = done.length → q = out.length → out.length ≤ 65536 → r0 = paxE done.getLast? out rest →
    HD AA 0 [0, 2, 3, 4, 5] l94_0 ⟨[.view 2 (rs.map Rcd.av) c t, .junk, .lit (.slice none 0 0), .int .i64 0, .own 0 1 0 q false, .int .i64 i, .junk, .junk, .junk, .junk, .junk, .junk, .junk, .junk, .junk, .junk, .junk, .junk, .junk, .junk, .junk, .junk, .junk, .junk, .junk, .junk, .junk, .junk, .junk, .junk, .junk, .junk, .junk, .junk, .junk, .junk, .junk, .junk, .junk, .junk, .junk, .junk, .junk, .junk, .junk, .junk, .junk, .junk, .junk, .junk, .junk, .junk, .junk, .junk, .junk, .junk], [(0, .row (out.map .byte) 1)], 1⟩ [.blk 0, .code r94_0] (Fin [(2, none), (3, none)] 0 (paxRV r0) (paxH r0))
  | [], done, out, i, q, h1, h2, h4, h5, h6 => by
    have hl : i = rs.length := by rw [h1]; simp; omega
    have e : (out.map AVal.byte).take q = out.map .byte := List.take_of_length_le (by simp; omega)
    refine hd_of (by unfold l94_0; rfl) ?_
    simp only [paxE] at h6
    rw [h6]
    unfold paxRV paxH
    have gg := trivial; repeat' first | simp (maxSteps := 2000000) (disch := omega) only [gg, r94_0, go_sem] | (refine br ?_ ?_ <;> intro gg <;> try (exfalso; omega)) | (refine And.intro ?_ ?_; focus omega) | omega
    simp [h4]
  | r :: rest, done, out, i, q, h1, h2, h4, h5, h6 => by
    have hg0 : rs[i.toNat]? = some r := by
      rw [h1, show i.toNat = done.length by omega]
      simp
    have hl : i.toNat < rs.length := by rw [h1]; simp; omega
    obtain ⟨hk, hv⟩ := hb r (by simp [h1])
    have hc := s138 r.key r.value hk hv
    have e : (out.map AVal.byte).take q = out.map .byte := List.take_of_length_le (by simp; omega)
    unfold paxE at h6
    cases f1 : lineOk r.key r.value with
    | false =>
      rw [if_neg (by simp [paxStep, f1])] at h6
      rw [f1] at hc
      rw [h6]
      unfold paxRV paxH
      refine hd_of (by unfold l94_0; rfl) ?_
      have gg := trivial; repeat' first | simp (maxSteps := 2000000) (disch := omega) only [gg, hc, hg0, lp_head, go_sem] | (refine br ?_ ?_ <;> intro gg <;> try (exfalso; omega)) | (refine And.intro ?_ ?_; focus omega) | omega
    | true =>
      have hll := lineB_length (k := r.key) (v := r.value) (by simp [lineOk, kwB] at f1; omega) (by simp [lineOk] at f1; omega)
      rw [f1] at hc
      generalize hL : lineB r.key r.value = L at *
      have ih := h94 c t rs hs hb r0 rest (done ++ [r]) (out ++ L) (i + 1) (q + L.length) (by simp [h1]) (by simp; omega) (by simp; omega)
      rw [List.getLast?_append] at ih
      cases hd : done.getLast? with
      | none =>
        have hn : done = [] := List.getLast?_eq_none_iff.1 hd
        have hi : i = 0 := by rw [hn] at h2; simpa using h2
        rw [hd] at h6
        by_cases f3 : out.length + L.length ≤ 65536
        · rw [if_pos (by simp [paxStep, f1, hL, f3])] at h6
          have ih := ih (by simp; omega) (by simpa using h6)
          refine hd_of (by unfold l94_0; rfl) ?_
          have gg := trivial; repeat' first | simp (maxSteps := 2000000) (disch := omega) only [gg, hc, hg0, e, lp_head, ← List.map_append, go_sem] | (refine br ?_ ?_ <;> intro gg <;> try (exfalso; omega)) | (refine And.intro ?_ ?_; focus omega) | omega
        · rw [if_neg (by simp [paxStep, f1, hL]; omega)] at h6
          clear ih
          rw [h6]
          unfold paxRV paxH
          refine hd_of (by unfold l94_0; rfl) ?_
          have gg := trivial; repeat' first | simp (maxSteps := 2000000) (disch := omega) only [gg, hc, hg0, lp_head, go_sem] | (refine br ?_ ?_ <;> intro gg <;> try (exfalso; omega)) | (refine And.intro ?_ ?_; focus omega) | omega
      | some p =>
        have hne : done.length ≠ 0 := by
          intro h0
          rw [List.length_eq_zero_iff.1 h0] at hd
          cases hd
        have hp0 : rs[(i - 1).toNat]? = some p := by
          rw [List.getLast?_eq_getElem?] at hd
          rw [h1, show (i - 1).toNat = done.length - 1 by omega, List.getElem?_append_left (by omega), hd]
        have hl' : (i - 1).toNat < rs.length := by omega
        have ht := bl_total p.key r.key
        rw [hd] at h6
        cases f2 : Op.bytesLess p.key r.key with
        | true =>
          rw [f2] at ht
          by_cases f3 : out.length + L.length ≤ 65536
          · rw [if_pos (by simp [paxStep, f1, f2, hL, f3])] at h6
            have ih := ih (by simp; omega) (by simpa using h6)
            refine hd_of (by unfold l94_0; rfl) ?_
            have gg := trivial; repeat' first | simp (maxSteps := 2000000) (disch := omega) only [gg, hc, hg0, hp0, ht, e, lp_head, ← List.map_append, go_sem] | (refine br ?_ ?_ <;> intro gg <;> try (exfalso; omega)) | (refine And.intro ?_ ?_; focus omega) | omega
          · rw [if_neg (by simp [paxStep, f1, hL]; omega)] at h6
            clear ih
            rw [h6]
            unfold paxRV paxH
            refine hd_of (by unfold l94_0; rfl) ?_
            have gg := trivial; repeat' first | simp (maxSteps := 2000000) (disch := omega) only [gg, hc, hg0, hp0, ht, lp_head, go_sem] | (refine br ?_ ?_ <;> intro gg <;> try (exfalso; omega)) | (refine And.intro ?_ ?_; focus omega) | omega
        | false =>
          rw [f2] at ht
          rw [if_neg (by simp [paxStep, f2])] at h6
          clear ih
          rw [h6]
          unfold paxRV paxH
          refine hd_of (by unfold l94_0; rfl) ?_
          have gg := trivial; repeat' first | simp (maxSteps := 2000000) (disch := omega) only [gg, hc, hg0, hp0, ht, lp_head, go_sem] | (refine br ?_ ?_ <;> intro gg <;> try (exfalso; omega)) | (refine And.intro ?_ ?_; focus omega) | omega
theorem s94 (c t : Bool) (rs : List Rcd) (hs : rs.length ≤ 1000000) (hb : ∀ r ∈ rs, RcdOk r) : callT AA 94 [.view 2 (rs.map Rcd.av) c t] [] = some (paxRV (paxE none [] rs), paxH (paxE none [] rs)) := by
  have hh := h94 c t rs hs hb (paxE none [] rs) rs [] [] 0 0 rfl rfl rfl (by simp) rfl
  simp only [List.map_nil] at hh
  generalize paxE none [] rs = R at *
  refine enter fn94 np94 rfl ?_
  have gg := trivial; repeat' first | simp (maxSteps := 2000000) (disch := omega) only [gg, b94, lp_head, go_sem] | (refine br ?_ ?_ <;> intro gg <;> try (exfalso; omega)) | (refine And.intro ?_ ?_; focus omega) | omega
end Go.Abs
namespace Go.Abs
open Am Lib
set_option maxRecDepth 10000
set_option linter.unusedSimpArgs false
theorem h141 (d : Int) (r0 : List UInt8) : ∀ (k : Nat) (n i : Int) (s : List UInt8), i + k = d → 0 ≤ i → d ≤ 100 → 0 ≤ n → n ≤ 9223372036854775807 → s.length + k ≤ 200 → r0 = octD k n ++ s →
    HD AA 0 [0, 1, 4, 5, 6] l141_0 ⟨[.int .i64 n, .int .i64 d, .junk, .junk, .str [], .str s, .int .i64 i, .junk, .junk, .junk, .junk, .junk, .junk, .junk, .junk, .junk, .junk, .junk, .junk, .junk, .junk, .junk, .junk], [], 0⟩ [.blk 0, .code r141_0] (Fin [(4, none)] 0 (.str r0) [])
  | 0, n, i, s, h1, h2, h3, h4, h5, h6, h7 => by
    have hr : r0 = s := h7
    subst hr
    refine hd_of (by unfold l141_0; rfl) ?_
    have gg := trivial; repeat' first | simp (maxSteps := 2000000) (disch := omega) only [gg, r141_0, go_sem] | (refine br ?_ ?_ <;> intro gg <;> try (exfalso; omega)) | (refine And.intro ?_ ?_; focus omega) | omega
  | k + 1, n, i, s, h1, h2, h3, h4, h5, h6, h7 => by
    have e1 : n.tmod 8 = n % 8 := Int.tmod_eq_emod_of_nonneg h4
    have e2 : n.tdiv 8 = n / 8 := Int.tdiv_eq_ediv_of_nonneg h4
    have ih := h141 d r0 k (n / 8) (i + 1) (UInt8.ofNat (48 + n % 8).toNat :: s) (by omega) (by omega) h3 (by omega) (by omega) (by simp; omega) (by
      rw [h7]
      simp [octD])
    refine hd_of (by unfold l141_0; rfl) ?_
    have gg := trivial; repeat' first | simp (maxSteps := 2000000) (disch := omega) only [gg, e1, e2, bytesOf_one, lp_head, go_sem] | (refine br ?_ ?_ <;> intro gg <;> try (exfalso; omega)) | (refine And.intro ?_ ?_; focus omega) | omega
theorem s141 (n d : Int) (k : Nat) (hd : d = k) (hk : k ≤ 100) (h0 : 0 ≤ n) (h1 : n ≤ 9223372036854775807) : callT AA 141 [.int .i64 n, .int .i64 d] [] = some (.str (octD k n), []) := by
  have hh := h141 d (octD k n) k n 0 [] (by omega) (by omega) (by omega) h0 h1 (by simp; omega) (by simp)
  refine enter fn141 np141 rfl ?_
  have gg := trivial; repeat' first | simp (maxSteps := 2000000) (disch := omega) only [gg, b141, lp_head, go_sem] | (refine br ?_ ?_ <;> intro gg <;> try (exfalso; omega)) | (refine And.intro ?_ ?_; focus omega) | omega
theorem s139 (h : Hd) (hp : h.path.length ≤ 1000000) (hl : h.link.length ≤ 1000000) (hok : encOk h = true) : callT AA 139 [h.av] [] = some (.bool true, []) := by
  have h1 := s57 h.path hp
  have h2 := s59 h.link hl
  have m1 := s58 h.mode
  have m2 := s58 h.uid
  have m3 := s58 h.gid
  have m4 := s60 h.size
  have m5 := s60 h.time
  unfold encOk at hok
  simp only [Bool.and_eq_true] at hok
  obtain ⟨k1, k2⟩ := hok
  unfold fitsB at k2
  simp only [Bool.and_eq_true] at k2
  obtain ⟨⟨⟨⟨⟨f1, f2⟩, f3⟩, f4⟩, f5⟩, f6⟩ := k2
  rw [k1] at h1
  rw [f1] at m1
  rw [f2] at m2
  rw [f3] at m3
  rw [f4] at m4
  rw [f5] at m5
  obtain ⟨p, md, u, g, sz, tm, ty, lk⟩ := h
  simp only [Hd.av] at *
  refine enter fn139 np139 rfl ?_
  generalize hz : (ty.toNat : Int) = z at *
  by_cases t1 : ty = 49 ∨ ty = 50
  · rw [if_pos t1] at f6
    simp only [Bool.and_eq_true, decide_eq_true_eq] at f6
    rw [f6.1] at h2
    have e0 : sz = 0 := f6.2
    subst e0
    have hz2 : z = 49 ∨ z = 50 := by
      rcases t1 with t1 | t1
      · left; rw [← hz, t1]; rfl
      · right; rw [← hz, t1]; rfl
    clear hz f6
    rcases hz2 with hz2 | hz2
    · subst hz2
      have gg := trivial; repeat' first | simp (maxSteps := 2000000) (disch := omega) only [gg, b139, h1, h2, m1, m2, m3, m4, m5, go_sem] | (refine br ?_ ?_ <;> intro gg <;> try (exfalso; omega)) | (refine And.intro ?_ ?_; focus omega) | omega
    · subst hz2
      have gg := trivial; repeat' first | simp (maxSteps := 2000000) (disch := omega) only [gg, b139, h1, h2, m1, m2, m3, m4, m5, go_sem] | (refine br ?_ ?_ <;> intro gg <;> try (exfalso; omega)) | (refine And.intro ?_ ?_; focus omega) | omega
  · rw [if_neg t1] at f6
    by_cases t2 : ty = 53
    · rw [if_pos t2] at f6
      simp only [Bool.and_eq_true, decide_eq_true_eq] at f6
      obtain ⟨f6, f7⟩ := f6
      subst f6
      subst f7
      have hz2 : z = 53 := by rw [← hz, t2]; rfl
      subst hz2
      have gg := trivial; repeat' first | simp (maxSteps := 2000000) (disch := omega) only [gg, b139, h1, m1, m2, m3, m4, m5, go_sem] | (refine br ?_ ?_ <;> intro gg <;> try (exfalso; omega)) | (refine And.intro ?_ ?_; focus omega) | omega
    · rw [if_neg t2] at f6
      by_cases t3 : ty = 48 ∨ ty = 120
      · rw [if_pos t3] at f6
        have f7 : lk = [] := of_decide_eq_true f6
        subst f7
        have hz2 : z = 48 ∨ z = 120 := by
          rcases t3 with t3 | t3
          · left; rw [← hz, t3]; rfl
          · right; rw [← hz, t3]; rfl
        clear hz f6
        rcases hz2 with hz2 | hz2
        · subst hz2
          have gg := trivial; repeat' first | simp (maxSteps := 2000000) (disch := omega) only [gg, b139, h1, m1, m2, m3, m4, m5, go_sem] | (refine br ?_ ?_ <;> intro gg <;> try (exfalso; omega)) | (refine And.intro ?_ ?_; focus omega) | omega
        · subst hz2
          have gg := trivial; repeat' first | simp (maxSteps := 2000000) (disch := omega) only [gg, b139, h1, m1, m2, m3, m4, m5, go_sem] | (refine br ?_ ?_ <;> intro gg <;> try (exfalso; omega)) | (refine And.intro ?_ ?_; focus omega) | omega
      · rw [if_neg t3] at f6
        cases f6
theorem map_snoc (l : List UInt8) : l.map AVal.byte ++ [.int .u8 0] = (l ++ [0]).map .byte := by simp [AVal.byte]
theorem h182n (N : Nat) (n : Int) (hN : n = N) (hN2 : N ≤ 100000) (r0 : List UInt8) : ∀ (k : Nat) (out : List UInt8) (i : Int) (q : Nat), 0 ≤ i → i + k = N → q = out.length → out.length ≤ 2000000 - k → r0 = out ++ zs k →
    HD AA 0 [0, 2, 6, 7] l182_0 ⟨[.own 0 1 0 q false, .junk, .int .i64 n, .junk, .junk, .junk, .lit (.slice none 0 0), .int .i64 i, .junk, .junk, .junk, .junk, .junk, .junk, .junk, .junk, .junk, .junk, .junk, .junk, .junk, .junk], [(0, .row (out.map .byte) 1)], 1⟩ [.blk 0, .code r182_0] (Fin [(6, none)] 0 (.own 0 1 0 r0.length false) [(0, .row (r0.map .byte) 1)])
  | 0, out, i, q, h0, h1, h2, h3, h4 => by
    have hr : r0 = out := by simpa using h4
    subst hr
    refine hd_of (by unfold l182_0; rfl) ?_
    have gg := trivial; repeat' first | simp (maxSteps := 2000000) (disch := omega) only [gg, r182_0, h2, go_sem] | (refine br ?_ ?_ <;> intro gg <;> try (exfalso; omega)) | (refine And.intro ?_ ?_; focus omega) | omega
  | k + 1, out, i, q, h0, h1, h2, h3, h4 => by
    have ih := h182n N n hN hN2 r0 k (out ++ [0]) (i + 1) (q + 1) (by omega) (by omega) (by simp [h2]) (by simp; omega) (by
      rw [h4, show k + 1 = 1 + k by omega, zs_add]
      simp)
    have e : (out.map AVal.byte).take q = out.map .byte := List.take_of_length_le (by simp; omega)
    refine hd_of (by unfold l182_0; rfl) ?_
    have gg := trivial; repeat' first | simp (maxSteps := 2000000) (disch := omega) only [gg, e, map_snoc, lp_head, go_sem] | (refine br ?_ ?_ <;> intro gg <;> try (exfalso; omega)) | (refine And.intro ?_ ?_; focus omega) | omega
theorem s182n (s : List UInt8) (n : Int) (N : Nat) (hN : n = N) (hN2 : N ≤ 100000) (hs : s.length ≤ N) (hne : s ≠ []) : callT AA 182 [.lit (.slice none 0 0), .str s, .int .i64 n] [] = some (.own 0 1 0 (fillT s N).length false, [(0, .row ((fillT s N).map .byte) 1)]) := by
  have hh := h182n N n hN hN2 (fillT s N) (N - s.length) s s.length s.length (by omega) (by omega) rfl (by omega) rfl
  have hne2 : (s.map AVal.byte).isEmpty = false := by
    cases s with
    | nil => exact (hne rfl).elim
    | cons a r => rfl
  refine enter fn182 np182 rfl ?_
  have gg := trivial; repeat' first | simp (maxSteps := 2000000) (disch := omega) only [gg, b182, hne2, lp_head, go_sem] | (refine br ?_ ?_ <;> intro gg <;> try (exfalso; omega)) | (refine And.intro ?_ ?_; focus omega) | omega
theorem h182 (N : Nat) (n : Int) (hN : n = N) (hN2 : N ≤ 100000) (r0 : List UInt8) : ∀ (k : Nat) (out : List UInt8) (i : Int) (q : Nat), 0 ≤ i → i + k = N → q = out.length → out.length ≤ 2000000 - k → r0 = out ++ zs k →
    HD AA 1 [0, 2, 6, 7] l182_0 ⟨[.own 1 1 0 q false, .junk, .int .i64 n, .junk, .junk, .junk, .lit (.slice none 0 0), .int .i64 i, .junk, .junk, .junk, .junk, .junk, .junk, .junk, .junk, .junk, .junk, .junk, .junk, .junk, .junk], [(1, .row (out.map .byte) 1)], 2⟩ [.blk 0, .code r182_0] (Fin [(6, none)] 1 (.own 1 1 0 r0.length false) [(1, .row (r0.map .byte) 1)])
  | 0, out, i, q, h0, h1, h2, h3, h4 => by
    have hr : r0 = out := by simpa using h4
    subst hr
    refine hd_of (by unfold l182_0; rfl) ?_
    have gg := trivial; repeat' first | simp (maxSteps := 2000000) (disch := omega) only [gg, r182_0, h2, go_sem] | (refine br ?_ ?_ <;> intro gg <;> try (exfalso; omega)) | (refine And.intro ?_ ?_; focus omega) | omega
  | k + 1, out, i, q, h0, h1, h2, h3, h4 => by
    have ih := h182 N n hN hN2 r0 k (out ++ [0]) (i + 1) (q + 1) (by omega) (by omega) (by simp [h2]) (by simp; omega) (by
      rw [h4, show k + 1 = 1 + k by omega, zs_add]
      simp)
    have e : (out.map AVal.byte).take q = out.map .byte := List.take_of_length_le (by simp; omega)
    refine hd_of (by unfold l182_0; rfl) ?_
    have gg := trivial; repeat' first | simp (maxSteps := 2000000) (disch := omega) only [gg, e, map_snoc, lp_head, go_sem] | (refine br ?_ ?_ <;> intro gg <;> try (exfalso; omega)) | (refine And.intro ?_ ?_; focus omega) | omega
theorem s182 (out s : List UInt8) (n : Int) (q N : Nat) (hN : n = N) (hN2 : N ≤ 100000) (hs : s.length ≤ N) (hq : q = out.length) (hq2 : out.length ≤ 1000000) : callT AA 182 [.own 0 1 0 q false, .str s, .int .i64 n] [(0, .row (out.map .byte) 1)] = some (.own 1 1 0 (q + N) false, [(1, .row ((out ++ fillT s N).map .byte) 1)]) := by
  have hl : (out ++ fillT s N).length = q + N := by rw [List.length_append, fillT_length hs, hq]
  have hh := h182 N n hN hN2 (out ++ fillT s N) (N - s.length) (out ++ s) s.length (q + s.length) (by omega) (by omega) (by simp [hq]) (by simp; omega) (by simp [fillT])
  rw [hl] at hh
  have e : (out.map AVal.byte).take q = out.map .byte := List.take_of_length_le (by simp; omega)
  generalize out ++ fillT s N = R at *
  refine enter fn182 np182 rfl ?_
  have gg := trivial; repeat' first | simp (maxSteps := 2000000) (disch := omega) only [gg, b182, e, ← List.map_append, lp_head, go_sem] | (refine br ?_ ?_ <;> intro gg <;> try (exfalso; omega)) | (refine And.intro ?_ ?_; focus omega) | omega
end Go.Abs
namespace Go.Abs
open Am Lib
set_option maxRecDepth 20000
set_option linter.unusedSimpArgs false
theorem oct7_zero : octD 7 0 = [48, 48, 48, 48, 48, 48, 48] := by decide
theorem fill_one {s : List UInt8} {n : Nat} (h : s.length + 1 = n) : fillT s n = s ++ [0] := by
  subst h
  unfold fillT
  rw [show s.length + 1 - s.length = 1 by omega]
  rfl
theorem blkA_fill (h : Hd) (name : List UInt8) : blkA h name = fillT name 100 ++ fillT (octD 7 h.mode) 8 ++ fillT (octD 7 h.uid) 8 ++ fillT (octD 7 h.gid) 8 ++ fillT (octD 11 h.size) 12 ++ fillT (octD 11 h.time) 12 := by
  have e : ∀ (k : Nat) (n : Int), fillT (octD k n) (k + 1) = octD k n ++ [0] := fun k n => fill_one (by rw [octD_length])
  rw [e 7, e 7, e 7, e 11, e 11]
  simp only [blkA, List.append_assoc]
theorem blkZ_fill (h : Hd) (pre : List UInt8) : blkZ h pre = [h.type] ++ fillT h.link 100 ++ fillT [117, 115, 116, 97, 114] 6 ++ [48, 48] ++ fillT [] 64 ++ fillT [48, 48, 48, 48, 48, 48, 48] 8 ++ fillT [48, 48, 48, 48, 48, 48, 48] 8 ++ fillT pre 155 ++ fillT [] 12 := by
  have e1 : fillT [117, 115, 116, 97, 114] 6 = [117, 115, 116, 97, 114] ++ [0] := fill_one rfl
  have e2 : fillT [48, 48, 48, 48, 48, 48, 48] 8 = [48, 48, 48, 48, 48, 48, 48] ++ [0] := fill_one rfl
  rw [e1, e2]
  unfold blkZ
  rw [oct7_zero]
  simp only [magicB, fillT, List.append_assoc, List.nil_append, List.cons_append, List.length_nil, Nat.sub_zero]
theorem map_snoc' (l : List UInt8) (t : UInt8) (z : Int) (hz : (t.toNat : Int) = z) : l.map AVal.byte ++ [.int .u8 z] = (l ++ [t]).map .byte := by
  subst hz
  simp [AVal.byte]
theorem map_app48 (l : List UInt8) : l.map AVal.byte ++ [.int .u8 (UInt8.toNat 48), .int .u8 (UInt8.toNat 48)] = (l ++ [48, 48]).map .byte := by simp [AVal.byte]
set_option maxHeartbeats 4000000 in
theorem s140 (h : Hd) (hp : h.path.length ≤ 1000000) (hok : encOk h = true) (sum : List UInt8) (hs : sum.length = 8) : callT AA 140 [h.av, .str sum] [] = some (.own 0 1 0 512 false, [(0, .row ((blkA h (splitN h.path).2.1 ++ sum ++ blkZ h (splitN h.path).1).map .byte) 1)]) := by
  have h57 := s57 h.path hp
  obtain ⟨k1, hf⟩ := encOk_parts hok
  obtain ⟨_, s1, s2, s3, _⟩ := splitN_ok k1
  rw [k1] at h57
  generalize (splitN h.path).1 = pre at *
  generalize (splitN h.path).2.1 = name at *
  rw [blkA_fill, blkZ_fill]
  have o1 := s141 h.mode 7 7 rfl (by omega) hf.mode.1 (by have := hf.mode.2; omega)
  have o2 := s141 h.uid 7 7 rfl (by omega) hf.uid.1 (by have := hf.uid.2; omega)
  have o3 := s141 h.gid 7 7 rfl (by omega) hf.gid.1 (by have := hf.gid.2; omega)
  have o4 := s141 h.size 11 11 rfl (by omega) hf.size.1 (by have := hf.size.2; omega)
  have o5 := s141 h.time 11 11 rfl (by omega) hf.time.1 (by have := hf.time.2; omega)
  have p1 := octD_length 7 h.mode
  have p2 := octD_length 7 h.uid
  have p3 := octD_length 7 h.gid
  have p4 := octD_length 11 h.size
  have p5 := octD_length 11 h.time
  have hlk := hf.link.1
  have c1 := s182n name 100 100 rfl (by omega) s2 s3
  obtain ⟨B1, b1⟩ : ∃ B, B = fillT name 100 := ⟨_, rfl⟩
  have l1 : B1.length = 100 := by rw [b1]; exact fillT_length s2
  rw [← b1, l1] at c1
  have c2 := s182 B1 (octD 7 h.mode) 8 100 8 rfl (by omega) (by first | omega | decide) (by omega) (by omega)
  obtain ⟨B2, b2⟩ : ∃ B, B = B1 ++ fillT (octD 7 h.mode) 8 := ⟨_, rfl⟩
  have l2 : B2.length = 108 := by rw [b2, List.length_append, fillT_length (by first | omega | decide), l1]
  rw [← b2] at c2
  have c3 := s182 B2 (octD 7 h.uid) 8 108 8 rfl (by omega) (by first | omega | decide) (by omega) (by omega)
  obtain ⟨B3, b3⟩ : ∃ B, B = B2 ++ fillT (octD 7 h.uid) 8 := ⟨_, rfl⟩
  have l3 : B3.length = 116 := by rw [b3, List.length_append, fillT_length (by first | omega | decide), l2]
  rw [← b3] at c3
  have c4 := s182 B3 (octD 7 h.gid) 8 116 8 rfl (by omega) (by first | omega | decide) (by omega) (by omega)
  obtain ⟨B4, b4⟩ : ∃ B, B = B3 ++ fillT (octD 7 h.gid) 8 := ⟨_, rfl⟩
  have l4 : B4.length = 124 := by rw [b4, List.length_append, fillT_length (by first | omega | decide), l3]
  rw [← b4] at c4
  have c5 := s182 B4 (octD 11 h.size) 12 124 12 rfl (by omega) (by first | omega | decide) (by omega) (by omega)
  obtain ⟨B5, b5⟩ : ∃ B, B = B4 ++ fillT (octD 11 h.size) 12 := ⟨_, rfl⟩
  have l5 : B5.length = 136 := by rw [b5, List.length_append, fillT_length (by first | omega | decide), l4]
  rw [← b5] at c5
  have c6 := s182 B5 (octD 11 h.time) 12 136 12 rfl (by omega) (by first | omega | decide) (by omega) (by omega)
  obtain ⟨B6, b6⟩ : ∃ B, B = B5 ++ fillT (octD 11 h.time) 12 := ⟨_, rfl⟩
  have l6 : B6.length = 148 := by rw [b6, List.length_append, fillT_length (by first | omega | decide), l5]
  rw [← b6] at c6
  have e7 : (B6.map AVal.byte).take 148 = B6.map .byte := List.take_of_length_le (by rw [List.length_map]; omega)
  obtain ⟨B7, b7⟩ : ∃ B, B = B6 ++ sum := ⟨_, rfl⟩
  have l7 : B7.length = 156 := by rw [b7, List.length_append, l6]; rw [hs]
  have a7 : B6.map AVal.byte ++ sum.map AVal.byte = B7.map .byte := by rw [b7, List.map_append]
  have e8 : (B7.map AVal.byte).take 156 = B7.map .byte := List.take_of_length_le (by rw [List.length_map]; omega)
  obtain ⟨B8, b8⟩ : ∃ B, B = B7 ++ [h.type] := ⟨_, rfl⟩
  have l8 : B8.length = 157 := by rw [b8, List.length_append, l7]; rfl
  have a8 : B7.map AVal.byte ++ [.int .u8 h.type.toNat] = B8.map .byte := by rw [b8]; exact map_snoc' _ _ _ rfl
  have c9 := s182 B8 h.link 100 157 100 rfl (by omega) (by first | omega | decide) (by omega) (by omega)
  obtain ⟨B9, b9⟩ : ∃ B, B = B8 ++ fillT h.link 100 := ⟨_, rfl⟩
  have l9 : B9.length = 257 := by rw [b9, List.length_append, fillT_length (by first | omega | decide), l8]
  rw [← b9] at c9
  have c10 := s182 B9 [117, 115, 116, 97, 114] 6 257 6 rfl (by omega) (by first | omega | decide) (by omega) (by omega)
  obtain ⟨B10, b10⟩ : ∃ B, B = B9 ++ fillT [117, 115, 116, 97, 114] 6 := ⟨_, rfl⟩
  have l10 : B10.length = 263 := by rw [b10, List.length_append, fillT_length (by first | omega | decide), l9]
  rw [← b10] at c10
  have e11 : (B10.map AVal.byte).take 263 = B10.map .byte := List.take_of_length_le (by rw [List.length_map]; omega)
  obtain ⟨B11, b11⟩ : ∃ B, B = B10 ++ [48, 48] := ⟨_, rfl⟩
  have l11 : B11.length = 265 := by rw [b11, List.length_append, l10]; rfl
  have a11 : B10.map AVal.byte ++ [.int .u8 (UInt8.toNat 48), .int .u8 (UInt8.toNat 48)] = B11.map .byte := by rw [b11]; exact map_app48 _
  have c12 := s182 B11 [] 64 265 64 rfl (by omega) (by first | omega | decide) (by omega) (by omega)
  obtain ⟨B12, b12⟩ : ∃ B, B = B11 ++ fillT [] 64 := ⟨_, rfl⟩
  have l12 : B12.length = 329 := by rw [b12, List.length_append, fillT_length (by first | omega | decide), l11]
  rw [← b12] at c12
  have c13 := s182 B12 [48, 48, 48, 48, 48, 48, 48] 8 329 8 rfl (by omega) (by first | omega | decide) (by omega) (by omega)
  obtain ⟨B13, b13⟩ : ∃ B, B = B12 ++ fillT [48, 48, 48, 48, 48, 48, 48] 8 := ⟨_, rfl⟩
  have l13 : B13.length = 337 := by rw [b13, List.length_append, fillT_length (by first | omega | decide), l12]
  rw [← b13] at c13
  have c14 := s182 B13 [48, 48, 48, 48, 48, 48, 48] 8 337 8 rfl (by omega) (by first | omega | decide) (by omega) (by omega)
  obtain ⟨B14, b14⟩ : ∃ B, B = B13 ++ fillT [48, 48, 48, 48, 48, 48, 48] 8 := ⟨_, rfl⟩
  have l14 : B14.length = 345 := by rw [b14, List.length_append, fillT_length (by first | omega | decide), l13]
  rw [← b14] at c14
  have c15 := s182 B14 pre 155 345 155 rfl (by omega) (by first | omega | decide) (by omega) (by omega)
  obtain ⟨B15, b15⟩ : ∃ B, B = B14 ++ fillT pre 155 := ⟨_, rfl⟩
  have l15 : B15.length = 500 := by rw [b15, List.length_append, fillT_length (by first | omega | decide), l14]
  rw [← b15] at c15
  have c16 := s182 B15 [] 12 500 12 rfl (by omega) (by first | omega | decide) (by omega) (by omega)
  obtain ⟨B16, b16⟩ : ∃ B, B = B15 ++ fillT [] 12 := ⟨_, rfl⟩
  have l16 : B16.length = 512 := by rw [b16, List.length_append, fillT_length (by first | omega | decide), l15]
  rw [← b16] at c16
  have hR : fillT name 100 ++ fillT (octD 7 h.mode) 8 ++ fillT (octD 7 h.uid) 8 ++ fillT (octD 7 h.gid) 8 ++ fillT (octD 11 h.size) 12 ++ fillT (octD 11 h.time) 12 ++ sum ++ ([h.type] ++ fillT h.link 100 ++ fillT [117, 115, 116, 97, 114] 6 ++ [48, 48] ++ fillT [] 64 ++ fillT [48, 48, 48, 48, 48, 48, 48] 8 ++ fillT [48, 48, 48, 48, 48, 48, 48] 8 ++ fillT pre 155 ++ fillT [] 12) = B16 := by
    rw [b16, b15, b14, b13, b12, b11, b10, b9, b8, b7, b6, b5, b4, b3, b2, b1]
    simp only [List.append_assoc]
  rw [hR]
  clear hR b16 b15 b14 b13 b12 b11 b10 b9 b8 b7 b6 b5 b4 b3 b2 b1
  simp only [Hd.av] at *
  refine enter fn140 np140 rfl ?_
  have gg := trivial; repeat' first | simp (maxSteps := 2000000) (disch := omega) only [gg, b140, h57, o1, o2, o3, o4, o5, c1, c2, c3, c4, c5, c6, e7, a7, e8, a8, c9, c10, e11, a11, c12, c13, c14, c15, c16, hs, go_sem] | (refine br ?_ ?_ <;> intro gg <;> try (exfalso; omega)) | (refine And.intro ?_ ?_; focus omega) | omega
end Go.Abs
namespace Go.Abs
open Am Lib
set_option maxRecDepth 20000
set_option linter.unusedSimpArgs false
def sumA : List UInt8 → Int
  | [] => 0
  | c :: r => c.toNat + sumA r
theorem sumA_le : ∀ l : List UInt8, 0 ≤ sumA l ∧ sumA l ≤ 255 * l.length
  | [] => by simp [sumA]
  | c :: r => by
    have ih := sumA_le r
    have hc := c.toNat_lt
    simp only [sumA, List.length_cons]
    omega
theorem sumA_app : ∀ a b : List UInt8, sumA (a ++ b) = sumA a + sumA b
  | [], b => by simp [sumA]
  | c :: r, b => by
    have ih := sumA_app r b
    simp only [List.cons_append, sumA, ih]
    omega
theorem sumL_app : ∀ (a b : List UInt8) (i : Nat), sumL i (a ++ b) = sumL i a + sumL (i + a.length) b
  | [], b, i => by simp [sumL]
  | c :: r, b, i => by
    have ih := sumL_app r b (i + 1)
    simp only [List.cons_append, sumL, ih, List.length_cons]
    rw [show i + 1 + r.length = i + (r.length + 1) by omega]
    omega
theorem sumL_low : ∀ (a : List UInt8) (i : Nat), i + a.length ≤ 148 → sumL i a = sumA a
  | [], i, _ => rfl
  | c :: r, i, h => by
    simp only [List.length_cons] at h
    have ih := sumL_low r (i + 1) (by omega)
    simp only [sumL, sumA, ih]
    rw [if_pos (by omega)]
theorem sumL_high : ∀ (a : List UInt8) (i : Nat), 156 ≤ i → sumL i a = sumA a
  | [], i, _ => rfl
  | c :: r, i, h => by
    have ih := sumL_high r (i + 1) (by omega)
    simp only [sumL, sumA, ih]
    rw [if_pos (by omega)]
theorem sumL_mid : ∀ (a : List UInt8) (i : Nat), 148 ≤ i → i + a.length ≤ 156 → sumL i a = 0
  | [], i, _, _ => rfl
  | c :: r, i, h, h' => by
    simp only [List.length_cons] at h'
    have ih := sumL_mid r (i + 1) (by omega) (by omega)
    simp only [sumL, ih]
    rw [if_neg (by omega)]
    rfl
def spaces8 : List UInt8 := [32, 32, 32, 32, 32, 32, 32, 32]
theorem sum_eq {a z : List UInt8} (ha : a.length = 148) : 256 + sumL 0 (a ++ zs 8 ++ z) = sumA (a ++ spaces8 ++ z) := by
  rw [sumL_app, sumL_app, sumL_low a 0 (by omega), sumL_mid (zs 8) _ (by omega) (by simp; omega), sumL_high z _ (by simp; omega), sumA_app, sumA_app]
  have : sumA spaces8 = 256 := by decide
  omega
theorem h95 (h : Hd) (N : Int) (hN : N ≤ 200000) (R : List UInt8) (c141 : callT AA 141 [.int .i64 N, .int .i64 6] [] = some (.str (octD 6 N), [])) (lo : (octD 6 N).length = 6)
    (c140 : callT AA 140 [.agg [.str h.path, .int .i64 h.mode, .int .i64 h.uid, .int .i64 h.gid, .int .i64 h.size, .int .i64 h.time, .int .u8 h.type.toNat, .str h.link], .str (octD 6 N ++ [0, 32])] [] = some (.own 0 1 0 512 false, [(0, .row (R.map .byte) 1)]))
    (L : List UInt8) (hL : L.length = 512) : ∀ (rest done : List UInt8) (n i : Int), L = done ++ rest → i = done.length → 0 ≤ n → n + sumA rest = N →
    HD AA 0 [1, 2, 3, 4, 5, 6] l95_0 ⟨[.junk, .ptr 0 0, .lit (.slice none 0 0), .int .i64 0, .own 1 1 0 512 false, .int .i64 n, .int .i64 i, .junk, .junk, .junk, .junk, .junk, .junk, .junk, .junk, .junk, .junk, .junk, .junk, .junk, .junk, .junk, .junk, .junk, .junk, .junk, .junk, .junk, .junk, .junk], [(0, .var [.str h.path, .int .i64 h.mode, .int .i64 h.uid, .int .i64 h.gid, .int .i64 h.size, .int .i64 h.time, .int .u8 h.type.toNat, .str h.link]), (1, .row (L.map .byte) 1)], 2⟩ [.blk 0, .code r95_0] (Fin [(2, none), (3, none)] 0 (.tuple [.own 0 1 0 512 false, .int .i64 0]) [(0, .row (R.map .byte) 1)])
  | [], done, n, i, h1, h2, h3, h4 => by
    have hl : i = 512 := by rw [h1] at hL; simp at hL; omega
    have hn : n = N := by simp [sumA] at h4; exact h4
    subst hn
    refine hd_of (by unfold l95_0; rfl) ?_
    have gg := trivial; repeat' first | simp (maxSteps := 2000000) (disch := omega) only [gg, r95_0, c141, c140, lo, go_sem] | (refine br ?_ ?_ <;> intro gg <;> try (exfalso; omega)) | (refine And.intro ?_ ?_; focus omega) | omega
  | c :: rest, done, n, i, h1, h2, h3, h4 => by
    have hl : i < 512 := by rw [h1] at hL; simp at hL; omega
    have hx : L[i.toNat]? = some c := by
      rw [h1, show i.toNat = done.length by omega]
      simp
    have hc := c.toNat_lt
    have hs := sumA_le rest
    simp only [sumA] at h4
    have ih := h95 h N hN R c141 lo c140 L hL rest (done ++ [c]) (n + c.toNat) (i + 1) (by simp [h1]) (by simp; omega) (by omega) (by omega)
    refine hd_of (by unfold l95_0; rfl) ?_
    have gg := trivial; repeat' first | simp (maxSteps := 2000000) (disch := omega) only [gg, hx, Nat.zero_add, hL, lp_head, go_sem] | (refine br ?_ ?_ <;> intro gg <;> try (exfalso; omega)) | (refine And.intro ?_ ?_; focus omega) | omega
theorem s95 (h : Hd) (hp : h.path.length ≤ 1000000) (hl : h.link.length ≤ 1000000) (hok : encOk h = true) : callT AA 95 [h.av] [] = some (.tuple [.own 0 1 0 512 false, .int .i64 0], [(0, .row ((encB h).map .byte) 1)]) := by
  obtain ⟨k1, hf⟩ := encOk_parts hok
  obtain ⟨_, s1, s2, s3, _⟩ := splitN_ok k1
  have c139 := s139 h hp hl hok
  have c1 := s140 h hp hok spaces8 rfl
  rw [encB_blk s2 s1 hf.link.1]
  unfold blk sumV sumD
  have lA := blkA_length (h := h) s2
  have lZ := blkZ_length (h := h) s1 hf.link.1
  rw [sum_eq lA]
  have hb := sumA_le (blkA h (splitN h.path).2.1 ++ spaces8 ++ blkZ h (splitN h.path).1)
  have hL : (blkA h (splitN h.path).2.1 ++ spaces8 ++ blkZ h (splitN h.path).1).length = 512 := by
    rw [List.length_append, List.length_append, lA, lZ]
    rfl
  have c2 := s140 h hp hok (octD 6 (sumA (blkA h (splitN h.path).2.1 ++ spaces8 ++ blkZ h (splitN h.path).1)) ++ [0, 32]) (by rw [List.length_append, octD_length]; rfl)
  have c3 := s141 (sumA (blkA h (splitN h.path).2.1 ++ spaces8 ++ blkZ h (splitN h.path).1)) 6 6 rfl (by omega) hb.1 (by omega)
  have lo := octD_length 6 (sumA (blkA h (splitN h.path).2.1 ++ spaces8 ++ blkZ h (splitN h.path).1))
  have hh := h95 h (sumA (blkA h (splitN h.path).2.1 ++ spaces8 ++ blkZ h (splitN h.path).1)) (by omega) _ c3 lo c2 _ hL (blkA h (splitN h.path).2.1 ++ spaces8 ++ blkZ h (splitN h.path).1) [] 0 0 rfl rfl (by omega) (Int.zero_add _)
  clear c2 c3 lo hb
  generalize blkA h (splitN h.path).2.1 ++ (octD 6 (sumA (blkA h (splitN h.path).2.1 ++ spaces8 ++ blkZ h (splitN h.path).1)) ++ [0, 32]) ++ blkZ h (splitN h.path).1 = R at *
  generalize blkA h (splitN h.path).2.1 ++ spaces8 ++ blkZ h (splitN h.path).1 = L at *
  simp only [Hd.av, spaces8] at *
  refine enter fn95 np95 rfl ?_
  have gg := trivial; repeat' first | simp (maxSteps := 2000000) (disch := omega) only [gg, b95, c139, c1, lp_head, go_sem] | (refine br ?_ ?_ <;> intro gg <;> try (exfalso; omega)) | (refine And.intro ?_ ?_; focus omega) | omega
end Go.Abs
namespace Go.Abs
open Am Lib
set_option maxRecDepth 20000
set_option linter.unusedSimpArgs false
def p97_10 : ACode := .ret
def p97_9 : ACode := .seq (.reg false [] [⟨(some 63), (.ld 8 true (.t 4)), none⟩, ⟨none, (.st 8 (.t 2) (.t 63)), none⟩]) p97_10
def p97_8 : ACode := .seq (.seq (.reg false [] [⟨(some 58), (.fa 5 (.t 1)), none⟩, ⟨(some 59), (.ld 1 false (.t 58)), none⟩, ⟨(some 60), (.call (.c (.func (.func 60) [])) [(.t 59)]), none⟩, ⟨(some 61), (.un .not (.t 60)), none⟩]) (.cond (.t 61) (.reg false [] [⟨(some 62), (.fa 5 (.t 4)), none⟩, ⟨none, (.st 1 (.t 62) (.c (.int .i64 0))), none⟩]) .skip)) p97_9
def p97_7 : ACode := .seq (.seq (.reg false [] [⟨(some 53), (.fa 4 (.t 1)), none⟩, ⟨(some 54), (.ld 1 false (.t 53)), none⟩, ⟨(some 55), (.call (.c (.func (.func 58) [])) [(.t 54)]), none⟩, ⟨(some 56), (.un .not (.t 55)), none⟩]) (.cond (.t 56) (.reg false [] [⟨(some 57), (.fa 3 (.t 4)), none⟩, ⟨none, (.st 1 (.t 57) (.c (.int .i64 0))), none⟩]) .skip)) p97_8
def p97_6 : ACode := .seq (.seq (.reg false [] [⟨(some 48), (.fa 3 (.t 1)), none⟩, ⟨(some 49), (.ld 1 false (.t 48)), none⟩, ⟨(some 50), (.call (.c (.func (.func 58) [])) [(.t 49)]), none⟩, ⟨(some 51), (.un .not (.t 50)), none⟩]) (.cond (.t 51) (.reg false [] [⟨(some 52), (.fa 2 (.t 4)), none⟩, ⟨none, (.st 1 (.t 52) (.c (.int .i64 0))), none⟩]) .skip)) p97_7
def p97_5 : ACode := .seq (.seq (.reg false [] [⟨(some 38), (.fa 6 (.t 1)), none⟩, ⟨(some 39), (.ld 1 false (.t 38)), none⟩, ⟨(some 40), (.bin .neq .other true (.t 39) (.c (.str []))), none⟩, ⟨(some 41), (.mov (.t 40)), none⟩, ⟨(some 42), (.fa 6 (.t 1)), (some (41, true))⟩, ⟨(some 43), (.ld 1 false (.t 42)), (some (41, true))⟩, ⟨(some 44), (.call (.c (.func (.func 59) [])) [(.t 43)]), (some (41, true))⟩, ⟨(some 45), (.un .not (.t 44)), (some (41, true))⟩, ⟨(some 46), (.pick (.t 41) (.t 45) (.c (.bool false))), none⟩]) (.cond (.t 46) (.reg false [] [⟨(some 47), (.fa 7 (.t 4)), none⟩, ⟨none, (.st 1 (.t 47) (.c (.str [112, 97, 120]))), none⟩]) .skip)) p97_6
def p97_4 : ACode := .seq (.seq (.reg false [] [⟨(some 35), (.mov (.t 7)), none⟩, ⟨(some 36), (.un .not (.t 35)), none⟩]) (.cond (.t 36) (.reg false [] [⟨(some 37), (.fa 0 (.t 4)), none⟩, ⟨none, (.st 1 (.t 37) (.c (.str [112, 97, 120]))), none⟩]) .skip)) p97_5
def p97_3 : ACode := .seq (.reg false [] [⟨(some 29), (.fa 0 (.t 1)), none⟩, ⟨(some 30), (.ld 1 false (.t 29)), none⟩, ⟨(some 31), (.call (.c (.func (.func 57) [])) [(.t 30)]), none⟩, ⟨(some 28), (.mov (.t 31)), none⟩, ⟨(some 32), (.ext (.t 28) 0), none⟩, ⟨(some 33), (.ext (.t 28) 1), none⟩, ⟨(some 34), (.ext (.t 28) 2), none⟩, ⟨(some 5), (.mov (.t 32)), none⟩, ⟨(some 6), (.mov (.t 33)), none⟩, ⟨(some 7), (.mov (.t 34)), none⟩]) p97_4
def p97_2 : ACode := .seq (.reg true [(1, 2), (0, 3), (1, 3), (1, 4), (3, 4), (0, 5), (1, 5), (2, 5), (3, 5), (1, 6), (3, 6), (5, 6), (0, 7), (1, 7), (2, 7), (3, 7), (4, 7), (5, 7), (1, 8), (3, 8), (5, 8), (7, 8), (0, 9), (1, 9), (2, 9), (3, 9), (4, 9), (5, 9), (6, 9), (7, 9), (1, 10), (3, 10), (5, 10), (7, 10), (1, 11), (3, 11), (5, 11), (7, 11), (9, 11), (0, 12), (1, 12), (2, 12), (3, 12), (4, 12), (5, 12), (6, 12), (7, 12), (8, 12), (9, 12), (10, 12), (1, 13), (3, 13), (5, 13), (7, 13), (9, 13), (12, 13), (1, 14), (3, 14), (5, 14), (7, 14), (9, 14), (12, 14), (0, 15), (1, 15), (2, 15), (3, 15), (4, 15), (5, 15), (6, 15), (7, 15), (8, 15), (9, 15), (10, 15), (11, 15), (12, 15), (13, 15), (1, 16), (3, 16), (5, 16), (7, 16), (9, 16), (12, 16), (1, 17), (3, 17), (5, 17), (7, 17), (9, 17), (12, 17), (15, 17), (0, 18), (1, 18), (2, 18), (3, 18), (4, 18), (5, 18), (6, 18), (7, 18), (8, 18), (9, 18), (10, 18), (11, 18), (12, 18), (13, 18), (14, 18), (15, 18), (16, 18), (0, 20), (1, 20), (2, 20), (3, 20), (4, 20), (5, 20), (6, 20), (7, 20), (8, 20), (9, 20), (10, 20), (11, 20), (12, 20), (13, 20), (14, 20), (15, 20), (16, 20), (17, 20), (18, 20), (19, 20)] [⟨(some 8), (.fa 0 (.t 1)), none⟩, ⟨(some 9), (.ld 1 false (.t 8)), none⟩, ⟨(some 10), (.fa 2 (.t 1)), none⟩, ⟨(some 11), (.ld 1 false (.t 10)), none⟩, ⟨(some 12), (.fa 3 (.t 1)), none⟩, ⟨(some 13), (.ld 1 false (.t 12)), none⟩, ⟨(some 14), (.fa 4 (.t 1)), none⟩, ⟨(some 15), (.ld 1 false (.t 14)), none⟩, ⟨(some 16), (.fa 7 (.t 1)), none⟩, ⟨(some 17), (.ld 1 false (.t 16)), none⟩, ⟨(some 18), (.len 1 (.t 17)), none⟩, ⟨(some 19), (.fa 5 (.t 1)), none⟩, ⟨(some 20), (.ld 1 false (.t 19)), none⟩, ⟨(some 21), (.mov (.t 3)), none⟩, ⟨(some 22), (.fa 1 (.t 1)), none⟩, ⟨(some 23), (.ld 1 false (.t 22)), none⟩, ⟨(some 24), (.ixs (.t 21) (.t 23)), none⟩, ⟨(some 25), (.fa 6 (.t 1)), none⟩, ⟨(some 26), (.ld 1 false (.t 25)), none⟩, ⟨(some 27), (.build [(.str []), (.int .i64 0), (.int .i64 0), (.int .i64 0), (.int .i64 0), (.int .i64 0), (.int .u8 0), (.str [])] [(0, (1, (.t 9))), (1, (1, (.t 11))), (2, (1, (.t 13))), (3, (1, (.t 15))), (4, (1, (.t 18))), (5, (1, (.t 20))), (6, (1, (.t 24))), (7, (1, (.t 26)))]), none⟩, ⟨(some 4), (.alloc [(.str []), (.int .i64 0), (.int .i64 0), (.int .i64 0), (.int .i64 0), (.int .i64 0), (.int .u8 0), (.str [])]), none⟩, ⟨none, (.st 8 (.t 4) (.t 27)), none⟩]) p97_3
def p97_1 : ACode := .seq (.reg false [] [⟨(some 3), (.mov (.c (.str [48, 53, 48, 50, 49]))), none⟩]) p97_2
def p97_0 : ACode := .seq (.reg false [] [⟨(some 1), (.box (.t 0)), none⟩, ⟨(some 2), (.alloc [(.str []), (.int .i64 0), (.int .i64 0), (.int .i64 0), (.int .i64 0), (.int .i64 0), (.int .u8 0), (.str [])]), none⟩]) p97_1
theorem b97_p : b97 = ⟨1, 64, [(2, (some (8, true)))], p97_0⟩ := rfl
def FinH (p : List UInt8) (m u g sz tm : Int) (ty : UInt8) (lk : List UInt8) : FinP := Fin [(2, some (8, true))] 0 (Hd.av ⟨p, m, u, g, sz, tm, ty, lk⟩) []
theorem q97_9 (e : Ent) (hl : e.link.length ≤ 1000000) (p lk : List UInt8) (m u g sz tm : Int) (ty : UInt8)  : ∀ (x3 x5 x6 x7 x8 x9 x10 x11 x12 x13 x14 x15 x16 x17 x18 x19 x20 x21 x22 x23 x24 x25 x26 x27 x28 x29 x30 x31 x32 x33 x34 x35 x36 x37 x38 x39 x40 x41 x42 x43 x44 x45 x46 x47 x48 x49 x50 x51 x52 x53 x54 x55 x56 x57 x58 x59 x60 x61 x62 x63 : AVal) (N : Nat), EX AA 0 p97_9 ⟨[e.av, .ptr 0 0, .ptr 32 0, x3, .ptr 736 0, x5, x6, x7, x8, x9, x10, x11, x12, x13, x14, x15, x16, x17, x18, x19, x20, x21, x22, x23, x24, x25, x26, x27, x28, x29, x30, x31, x32, x33, x34, x35, x36, x37, x38, x39, x40, x41, x42, x43, x44, x45, x46, x47, x48, x49, x50, x51, x52, x53, x54, x55, x56, x57, x58, x59, x60, x61, x62, x63], [(0, .var e.av.cells), (32, .var [.str [], .int .i64 0, .int .i64 0, .int .i64 0, .int .i64 0, .int .i64 0, .int .u8 0, .str []]), (736, .var [.str p, .int .i64 m, .int .i64 u, .int .i64 g, .int .i64 sz, .int .i64 tm, .int .u8 ty.toNat, .str lk])], N⟩ [] (FinH p m u g sz tm ty lk) := by
  intro x3 x5 x6 x7 x8 x9 x10 x11 x12 x13 x14 x15 x16 x17 x18 x19 x20 x21 x22 x23 x24 x25 x26 x27 x28 x29 x30 x31 x32 x33 x34 x35 x36 x37 x38 x39 x40 x41 x42 x43 x44 x45 x46 x47 x48 x49 x50 x51 x52 x53 x54 x55 x56 x57 x58 x59 x60 x61 x62 x63 N
  unfold FinH
  have gg := trivial; repeat' first | simp (maxSteps := 2000000) (disch := omega) only [gg, p97_9, p97_10, go_sem] | (refine br ?_ ?_ <;> intro gg <;> try (exfalso; omega)) | (refine And.intro ?_ ?_; focus omega) | omega
theorem q97_8 (e : Ent) (hl : e.link.length ≤ 1000000) (p lk : List UInt8) (m u g sz tm : Int) (ty : UInt8) (tm' : Int) (h8 : tm' = if timeB e.time = true then tm else 0) : ∀ (x3 x5 x6 x7 x8 x9 x10 x11 x12 x13 x14 x15 x16 x17 x18 x19 x20 x21 x22 x23 x24 x25 x26 x27 x28 x29 x30 x31 x32 x33 x34 x35 x36 x37 x38 x39 x40 x41 x42 x43 x44 x45 x46 x47 x48 x49 x50 x51 x52 x53 x54 x55 x56 x57 x58 x59 x60 x61 x62 x63 : AVal) (N : Nat), EX AA 0 p97_8 ⟨[e.av, .ptr 0 0, .ptr 32 0, x3, .ptr 736 0, x5, x6, x7, x8, x9, x10, x11, x12, x13, x14, x15, x16, x17, x18, x19, x20, x21, x22, x23, x24, x25, x26, x27, x28, x29, x30, x31, x32, x33, x34, x35, x36, x37, x38, x39, x40, x41, x42, x43, x44, x45, x46, x47, x48, x49, x50, x51, x52, x53, x54, x55, x56, x57, x58, x59, x60, x61, x62, x63], [(0, .var e.av.cells), (32, .var [.str [], .int .i64 0, .int .i64 0, .int .i64 0, .int .i64 0, .int .i64 0, .int .u8 0, .str []]), (736, .var [.str p, .int .i64 m, .int .i64 u, .int .i64 g, .int .i64 sz, .int .i64 tm, .int .u8 ty.toNat, .str lk])], N⟩ [] (FinH p m u g sz tm' ty lk) := by
  intro x3 x5 x6 x7 x8 x9 x10 x11 x12 x13 x14 x15 x16 x17 x18 x19 x20 x21 x22 x23 x24 x25 x26 x27 x28 x29 x30 x31 x32 x33 x34 x35 x36 x37 x38 x39 x40 x41 x42 x43 x44 x45 x46 x47 x48 x49 x50 x51 x52 x53 x54 x55 x56 x57 x58 x59 x60 x61 x62 x63 N
  have c := s60 e.time
  cases hf : timeB e.time with
  | true =>
    rw [hf] at c h8
    rw [if_pos rfl] at h8
    subst h8
    have ih := q97_9 e hl p lk m u g sz tm' ty
    have gg := trivial; repeat' first | simp (maxSteps := 2000000) (disch := omega) only [gg, p97_8, c, go_sem] | (refine br ?_ ?_ <;> intro gg <;> try (exfalso; omega)) | (refine And.intro ?_ ?_; focus omega) | omega
    apply ih
  | false =>
    rw [hf] at c h8
    rw [if_neg (by decide)] at h8
    subst h8
    have ih := q97_9 e hl p lk m u g sz 0 ty
    have gg := trivial; repeat' first | simp (maxSteps := 2000000) (disch := omega) only [gg, p97_8, c, go_sem] | (refine br ?_ ?_ <;> intro gg <;> try (exfalso; omega)) | (refine And.intro ?_ ?_; focus omega) | omega
    apply ih
theorem q97_7 (e : Ent) (hl : e.link.length ≤ 1000000) (p lk : List UInt8) (m u g sz tm : Int) (ty : UInt8) (g' : Int) (h7 : g' = if idB e.gid = true then g else 0) (tm' : Int) (h8 : tm' = if timeB e.time = true then tm else 0) : ∀ (x3 x5 x6 x7 x8 x9 x10 x11 x12 x13 x14 x15 x16 x17 x18 x19 x20 x21 x22 x23 x24 x25 x26 x27 x28 x29 x30 x31 x32 x33 x34 x35 x36 x37 x38 x39 x40 x41 x42 x43 x44 x45 x46 x47 x48 x49 x50 x51 x52 x53 x54 x55 x56 x57 x58 x59 x60 x61 x62 x63 : AVal) (N : Nat), EX AA 0 p97_7 ⟨[e.av, .ptr 0 0, .ptr 32 0, x3, .ptr 736 0, x5, x6, x7, x8, x9, x10, x11, x12, x13, x14, x15, x16, x17, x18, x19, x20, x21, x22, x23, x24, x25, x26, x27, x28, x29, x30, x31, x32, x33, x34, x35, x36, x37, x38, x39, x40, x41, x42, x43, x44, x45, x46, x47, x48, x49, x50, x51, x52, x53, x54, x55, x56, x57, x58, x59, x60, x61, x62, x63], [(0, .var e.av.cells), (32, .var [.str [], .int .i64 0, .int .i64 0, .int .i64 0, .int .i64 0, .int .i64 0, .int .u8 0, .str []]), (736, .var [.str p, .int .i64 m, .int .i64 u, .int .i64 g, .int .i64 sz, .int .i64 tm, .int .u8 ty.toNat, .str lk])], N⟩ [] (FinH p m u g' sz tm' ty lk) := by
  intro x3 x5 x6 x7 x8 x9 x10 x11 x12 x13 x14 x15 x16 x17 x18 x19 x20 x21 x22 x23 x24 x25 x26 x27 x28 x29 x30 x31 x32 x33 x34 x35 x36 x37 x38 x39 x40 x41 x42 x43 x44 x45 x46 x47 x48 x49 x50 x51 x52 x53 x54 x55 x56 x57 x58 x59 x60 x61 x62 x63 N
  have c := s58 e.gid
  cases hf : idB e.gid with
  | true =>
    rw [hf] at c h7
    rw [if_pos rfl] at h7
    subst h7
    have ih := q97_8 e hl p lk m u g' sz tm ty tm' h8
    have gg := trivial; repeat' first | simp (maxSteps := 2000000) (disch := omega) only [gg, p97_7, c, go_sem] | (refine br ?_ ?_ <;> intro gg <;> try (exfalso; omega)) | (refine And.intro ?_ ?_; focus omega) | omega
    apply ih
  | false =>
    rw [hf] at c h7
    rw [if_neg (by decide)] at h7
    subst h7
    have ih := q97_8 e hl p lk m u 0 sz tm ty tm' h8
    have gg := trivial; repeat' first | simp (maxSteps := 2000000) (disch := omega) only [gg, p97_7, c, go_sem] | (refine br ?_ ?_ <;> intro gg <;> try (exfalso; omega)) | (refine And.intro ?_ ?_; focus omega) | omega
    apply ih
theorem q97_6 (e : Ent) (hl : e.link.length ≤ 1000000) (p lk : List UInt8) (m u g sz tm : Int) (ty : UInt8) (u' : Int) (h6 : u' = if idB e.uid = true then u else 0) (g' : Int) (h7 : g' = if idB e.gid = true then g else 0) (tm' : Int) (h8 : tm' = if timeB e.time = true then tm else 0) : ∀ (x3 x5 x6 x7 x8 x9 x10 x11 x12 x13 x14 x15 x16 x17 x18 x19 x20 x21 x22 x23 x24 x25 x26 x27 x28 x29 x30 x31 x32 x33 x34 x35 x36 x37 x38 x39 x40 x41 x42 x43 x44 x45 x46 x47 x48 x49 x50 x51 x52 x53 x54 x55 x56 x57 x58 x59 x60 x61 x62 x63 : AVal) (N : Nat), EX AA 0 p97_6 ⟨[e.av, .ptr 0 0, .ptr 32 0, x3, .ptr 736 0, x5, x6, x7, x8, x9, x10, x11, x12, x13, x14, x15, x16, x17, x18, x19, x20, x21, x22, x23, x24, x25, x26, x27, x28, x29, x30, x31, x32, x33, x34, x35, x36, x37, x38, x39, x40, x41, x42, x43, x44, x45, x46, x47, x48, x49, x50, x51, x52, x53, x54, x55, x56, x57, x58, x59, x60, x61, x62, x63], [(0, .var e.av.cells), (32, .var [.str [], .int .i64 0, .int .i64 0, .int .i64 0, .int .i64 0, .int .i64 0, .int .u8 0, .str []]), (736, .var [.str p, .int .i64 m, .int .i64 u, .int .i64 g, .int .i64 sz, .int .i64 tm, .int .u8 ty.toNat, .str lk])], N⟩ [] (FinH p m u' g' sz tm' ty lk) := by
  intro x3 x5 x6 x7 x8 x9 x10 x11 x12 x13 x14 x15 x16 x17 x18 x19 x20 x21 x22 x23 x24 x25 x26 x27 x28 x29 x30 x31 x32 x33 x34 x35 x36 x37 x38 x39 x40 x41 x42 x43 x44 x45 x46 x47 x48 x49 x50 x51 x52 x53 x54 x55 x56 x57 x58 x59 x60 x61 x62 x63 N
  have c := s58 e.uid
  cases hf : idB e.uid with
  | true =>
    rw [hf] at c h6
    rw [if_pos rfl] at h6
    subst h6
    have ih := q97_7 e hl p lk m u' g sz tm ty g' h7 tm' h8
    have gg := trivial; repeat' first | simp (maxSteps := 2000000) (disch := omega) only [gg, p97_6, c, go_sem] | (refine br ?_ ?_ <;> intro gg <;> try (exfalso; omega)) | (refine And.intro ?_ ?_; focus omega) | omega
    apply ih
  | false =>
    rw [hf] at c h6
    rw [if_neg (by decide)] at h6
    subst h6
    have ih := q97_7 e hl p lk m 0 g sz tm ty g' h7 tm' h8
    have gg := trivial; repeat' first | simp (maxSteps := 2000000) (disch := omega) only [gg, p97_6, c, go_sem] | (refine br ?_ ?_ <;> intro gg <;> try (exfalso; omega)) | (refine And.intro ?_ ?_; focus omega) | omega
    apply ih
theorem q97_5 (e : Ent) (hl : e.link.length ≤ 1000000) (p lk : List UInt8) (m u g sz tm : Int) (ty : UInt8) (lk' : List UInt8) (h5 : lk' = if linkE e.link = true then lk else [112, 97, 120]) (u' : Int) (h6 : u' = if idB e.uid = true then u else 0) (g' : Int) (h7 : g' = if idB e.gid = true then g else 0) (tm' : Int) (h8 : tm' = if timeB e.time = true then tm else 0) : ∀ (x3 x5 x6 x7 x8 x9 x10 x11 x12 x13 x14 x15 x16 x17 x18 x19 x20 x21 x22 x23 x24 x25 x26 x27 x28 x29 x30 x31 x32 x33 x34 x35 x36 x37 x38 x39 x40 x41 x42 x43 x44 x45 x46 x47 x48 x49 x50 x51 x52 x53 x54 x55 x56 x57 x58 x59 x60 x61 x62 x63 : AVal) (N : Nat), EX AA 0 p97_5 ⟨[e.av, .ptr 0 0, .ptr 32 0, x3, .ptr 736 0, x5, x6, x7, x8, x9, x10, x11, x12, x13, x14, x15, x16, x17, x18, x19, x20, x21, x22, x23, x24, x25, x26, x27, x28, x29, x30, x31, x32, x33, x34, x35, x36, x37, x38, x39, x40, x41, x42, x43, x44, x45, x46, x47, x48, x49, x50, x51, x52, x53, x54, x55, x56, x57, x58, x59, x60, x61, x62, x63], [(0, .var e.av.cells), (32, .var [.str [], .int .i64 0, .int .i64 0, .int .i64 0, .int .i64 0, .int .i64 0, .int .u8 0, .str []]), (736, .var [.str p, .int .i64 m, .int .i64 u, .int .i64 g, .int .i64 sz, .int .i64 tm, .int .u8 ty.toNat, .str lk])], N⟩ [] (FinH p m u' g' sz tm' ty lk') := by
  intro x3 x5 x6 x7 x8 x9 x10 x11 x12 x13 x14 x15 x16 x17 x18 x19 x20 x21 x22 x23 x24 x25 x26 x27 x28 x29 x30 x31 x32 x33 x34 x35 x36 x37 x38 x39 x40 x41 x42 x43 x44 x45 x46 x47 x48 x49 x50 x51 x52 x53 x54 x55 x56 x57 x58 x59 x60 x61 x62 x63 N
  have c := s59 e.link hl
  by_cases hz : e.link = []
  · rw [hz] at h5
    have e0 : linkE [] = true := rfl
    rw [e0, if_pos rfl] at h5
    subst h5
    have ih := q97_6 e hl p lk' m u g sz tm ty u' h6 g' h7 tm' h8
    have gg := trivial; repeat' first | simp (maxSteps := 2000000) (disch := omega) only [gg, p97_5, decide_eq_true hz, go_sem] | (refine br ?_ ?_ <;> intro gg <;> try (exfalso; omega)) | (refine And.intro ?_ ?_; focus omega) | omega
    apply ih
  · rw [linkE_ne hz] at h5
    have hz2 := decide_eq_false hz
    cases hf : linkB e.link with
    | true =>
      rw [hf] at c h5
      rw [if_pos rfl] at h5
      subst h5
      have ih := q97_6 e hl p lk' m u g sz tm ty u' h6 g' h7 tm' h8
      have gg := trivial; repeat' first | simp (maxSteps := 2000000) (disch := omega) only [gg, p97_5, c, hz2, go_sem] | (refine br ?_ ?_ <;> intro gg <;> try (exfalso; omega)) | (refine And.intro ?_ ?_; focus omega) | omega
      apply ih
    | false =>
      rw [hf] at c h5
      rw [if_neg (by decide)] at h5
      subst h5
      have ih := q97_6 e hl p [112, 97, 120] m u g sz tm ty u' h6 g' h7 tm' h8
      have gg := trivial; repeat' first | simp (maxSteps := 2000000) (disch := omega) only [gg, p97_5, c, hz2, go_sem] | (refine br ?_ ?_ <;> intro gg <;> try (exfalso; omega)) | (refine And.intro ?_ ?_; focus omega) | omega
      apply ih
theorem q97_4 (e : Ent) (hl : e.link.length ≤ 1000000) (f : Bool) (p lk : List UInt8) (m u g sz tm : Int) (ty : UInt8) (p' : List UInt8) (h4 : p' = if f = true then p else [112, 97, 120]) (lk' : List UInt8) (h5 : lk' = if linkE e.link = true then lk else [112, 97, 120]) (u' : Int) (h6 : u' = if idB e.uid = true then u else 0) (g' : Int) (h7 : g' = if idB e.gid = true then g else 0) (tm' : Int) (h8 : tm' = if timeB e.time = true then tm else 0) : ∀ (x3 x5 x6 x8 x9 x10 x11 x12 x13 x14 x15 x16 x17 x18 x19 x20 x21 x22 x23 x24 x25 x26 x27 x28 x29 x30 x31 x32 x33 x34 x35 x36 x37 x38 x39 x40 x41 x42 x43 x44 x45 x46 x47 x48 x49 x50 x51 x52 x53 x54 x55 x56 x57 x58 x59 x60 x61 x62 x63 : AVal) (N : Nat), EX AA 0 p97_4 ⟨[e.av, .ptr 0 0, .ptr 32 0, x3, .ptr 736 0, x5, x6, .bool f, x8, x9, x10, x11, x12, x13, x14, x15, x16, x17, x18, x19, x20, x21, x22, x23, x24, x25, x26, x27, x28, x29, x30, x31, x32, x33, x34, x35, x36, x37, x38, x39, x40, x41, x42, x43, x44, x45, x46, x47, x48, x49, x50, x51, x52, x53, x54, x55, x56, x57, x58, x59, x60, x61, x62, x63], [(0, .var e.av.cells), (32, .var [.str [], .int .i64 0, .int .i64 0, .int .i64 0, .int .i64 0, .int .i64 0, .int .u8 0, .str []]), (736, .var [.str p, .int .i64 m, .int .i64 u, .int .i64 g, .int .i64 sz, .int .i64 tm, .int .u8 ty.toNat, .str lk])], N⟩ [] (FinH p' m u' g' sz tm' ty lk') := by
  intro x3 x5 x6 x8 x9 x10 x11 x12 x13 x14 x15 x16 x17 x18 x19 x20 x21 x22 x23 x24 x25 x26 x27 x28 x29 x30 x31 x32 x33 x34 x35 x36 x37 x38 x39 x40 x41 x42 x43 x44 x45 x46 x47 x48 x49 x50 x51 x52 x53 x54 x55 x56 x57 x58 x59 x60 x61 x62 x63 N
  cases f with
  | true =>
    rw [if_pos rfl] at h4
    subst h4
    have ih := q97_5 e hl p' lk m u g sz tm ty lk' h5 u' h6 g' h7 tm' h8
    have gg := trivial; repeat' first | simp (maxSteps := 2000000) (disch := omega) only [gg, p97_4, go_sem] | (refine br ?_ ?_ <;> intro gg <;> try (exfalso; omega)) | (refine And.intro ?_ ?_; focus omega) | omega
    apply ih
  | false =>
    rw [if_neg (by decide)] at h4
    subst h4
    have ih := q97_5 e hl [112, 97, 120] lk m u g sz tm ty lk' h5 u' h6 g' h7 tm' h8
    have gg := trivial; repeat' first | simp (maxSteps := 2000000) (disch := omega) only [gg, p97_4, go_sem] | (refine br ?_ ?_ <;> intro gg <;> try (exfalso; omega)) | (refine And.intro ?_ ?_; focus omega) | omega
    apply ih
theorem types_at {k : Int} (hk : k = 1 ∨ k = 2 ∨ k = 3 ∨ k = 4) : 0 ≤ k ∧ k ≤ 4 ∧ ([48, 53, 48, 50, 49] : List UInt8)[k.toNat]? = some (typeB k) := by
  rcases hk with h | h | h | h <;> subst h <;> exact ⟨by omega, by omega, rfl⟩
theorem s97 (e : Ent) (hp : e.path.length ≤ 1000000) (hl : e.link.length ≤ 1000000) (hk : e.kind = 1 ∨ e.kind = 2 ∨ e.kind = 3 ∨ e.kind = 4) : callT AA 97 [e.av] [] = some ((hdrE e (recsE e)).av, []) := by
  obtain ⟨k0, k1, hx⟩ := types_at hk
  have h57 := s57 e.path hp
  have l5 : ([48, 53, 48, 50, 49] : List UInt8).length = 5 := rfl
  rw [hdrE_eq]
  have ih := q97_4 e hl (splitN e.path).2.2 e.path e.link e.mode e.uid e.gid e.data.l.length e.time (typeB e.kind) _ rfl _ rfl _ rfl _ rfl _ rfl
  unfold FinH at ih
  refine enter fn97 np97 rfl ?_
  rw [b97_p]
  show EX AA 0 p97_0 _ [] (Fin [(2, some (8, true))] 0 _ [])
  have gg := trivial; repeat' first | simp (maxSteps := 2000000) (disch := omega) only [gg, p97_0, p97_1, p97_2, p97_3, hx, h57, l5, go_sem] | (refine br ?_ ?_ <;> intro gg <;> try (exfalso; omega)) | (refine And.intro ?_ ?_; focus omega) | omega
  apply ih
end Go.Abs
