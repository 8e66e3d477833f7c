import Derived.Test.YtambgnjkakdoeaaGreatDoorBlocks12
/- PART OF A PROOF (texts joined by a program): F75 F76 F77 F78 F79 F80 F81 F68 F69 F82 B4 F83 F84 F43 F44 F91. -/
set_option linter.unusedVariables false
set_option linter.unusedSimpArgs false
set_option linter.unusedSectionVars false
namespace Go.Abs
open Am Lib
set_option maxRecDepth 10000
set_option linter.unusedSimpArgs false
end Go.Abs
namespace Go.Abs
open Am Lib
set_option maxRecDepth 20000
set_option linter.unusedSimpArgs false
end Go.Abs
namespace Go.Abs
open Am Lib
set_option maxRecDepth 20000
set_option linter.unusedSimpArgs false
end Go.Abs
namespace Go.Abs
open Am Lib
set_option maxRecDepth 20000
set_option linter.unusedSimpArgs false
end Go.Abs
namespace Go.Abs
open Am Lib
set_option maxRecDepth 20000
set_option linter.unusedSimpArgs false
end Go.Abs
namespace Go.Abs
open Am Lib
set_option maxRecDepth 20000
set_option linter.unusedSimpArgs false
end Go.Abs
namespace Go.Abs
open Am Lib
set_option maxRecDepth 20000
set_option linter.unusedSimpArgs false
end Go.Abs
namespace Go.Abs
open Am Lib
set_option maxRecDepth 10000
set_option linter.unusedSimpArgs false
/-- what the code knows behind some entries, and these -/
structure CkOk (c : Ck) (done : List Ent) : Prop where
  ks : c.ks = done.map fun e => (e.path, e.kind)
  ord : ∀ d ∈ done, d.path = c.last ∨ cmpPath d.path c.last = -1
  size : 0 ≤ c.size ∧ c.size ≤ 1048576
theorem lk_kind (p : List UInt8) : ∀ done : List Ent, lk p (done.map fun e => (e.path, e.kind)) = kindF p done
  | [] => rfl
  | e :: r => by
    have ih := lk_kind p r
    simp only [List.map_cons, lk, kindF, ih]
    by_cases h : p = e.path
    · rw [if_pos h, if_pos h.symm]
    · rw [if_neg h, if_neg (fun hh => h hh.symm)]
theorem putK_new (p : List UInt8) (v : Int) : ∀ ks : Kinds, (∀ x ∈ ks, x.1 ≠ p) → putK p v ks = ks ++ [(p, v)]
  | [], _ => rfl
  | (q, u) :: r, h => by
    have ih := putK_new p v r fun x hx => h x (by simp [hx])
    have hq : ¬ p = q := fun hh => h (q, u) (by simp) hh.symm
    rw [putK, if_neg hq, ih]
    rfl
theorem ck_first : CkOk ⟨[], [], 0⟩ [] := ⟨rfl, by simp, by simp⟩
/-- the step, by the entries ahead -/
def stepE (done : List Ent) (last : List UInt8) (size : Int) (e : Ent) : Int :=
  if goodB e.path = false then 12 else
  if fieldsB e = false then 13 else
  if 0 < done.length ∧ cmpPath last e.path ≠ -1 then 13 else
  if (parentP e.path).2 = true ∧ kindF (parentP e.path).1 done ≠ 1 then 13 else
  if e.kind = 4 ∧ kindF e.link done ≠ 2 then 13 else
  if 1048576 < size + e.data.l.length then 18 else 0
theorem step_entry {c : Ck} {done : List Ent} (h : CkOk c done) (e : Ent) : (entryE c e).1 = stepE done c.last c.size e := by
  have hk := h.ks
  have h3 : (0 < c.ks.length ∧ 0 ≤ cmpPath c.last e.path) ↔ (0 < done.length ∧ cmpPath c.last e.path ≠ -1) := by
    rw [hk, List.length_map]
    have := path_range c.last e.path
    omega
  unfold entryE stepE
  rw [hk, lk_kind, lk_kind, ← hk]
  simp only [h3]
  repeat' split
  all_goals rfl
theorem step_ok {c : Ck} {done : List Ent} (h : CkOk c done) {e : Ent} (h0 : (entryE c e).1 = 0) : CkOk (entryE c e).2 (done ++ [e]) ∧ (entryE c e).2.last = e.path ∧ (entryE c e).2.size = c.size + e.data.l.length := by
  obtain ⟨a1, a2, a3⟩ := entryE_ok h0
  have hs := step_entry h e
  rw [h0] at hs
  have h3 : ¬ (0 < done.length ∧ cmpPath c.last e.path ≠ -1) := by
    intro hh
    unfold stepE at hs
    rw [if_pos hh] at hs
    split at hs
    · omega
    · split at hs
      · omega
      · omega
  have hn : ∀ d ∈ done, cmpPath d.path e.path = -1 := by
    intro d hd
    have hl : 0 < done.length := List.length_pos_of_mem hd
    have h4 : cmpPath c.last e.path = -1 := by
      apply Classical.byContradiction
      intro h5
      exact h3 ⟨hl, h5⟩
    rcases h.ord d hd with h5 | h5
    · rw [h5]; exact h4
    · exact path_trans h5 h4
  have hks : (entryE c e).2.ks = putK e.path e.kind c.ks := by
    clear hs a1 a2 a3 hn h3
    unfold entryE at h0 ⊢
    by_cases g1 : goodB e.path = false
    · rw [if_pos g1] at h0; simp at h0
    rw [if_neg g1] at h0 ⊢
    by_cases g2 : fieldsB e = false
    · rw [if_pos g2] at h0; simp at h0
    rw [if_neg g2] at h0 ⊢
    by_cases g3 : 0 < c.ks.length ∧ 0 ≤ cmpPath c.last e.path
    · rw [if_pos g3] at h0; simp at h0
    rw [if_neg g3] at h0 ⊢
    by_cases g4 : (parentP e.path).2 = true ∧ lk (parentP e.path).1 c.ks ≠ 1
    · rw [if_pos g4] at h0; simp at h0
    rw [if_neg g4] at h0 ⊢
    by_cases g5 : e.kind = 4 ∧ lk e.link c.ks ≠ 2
    · rw [if_pos g5] at h0; simp at h0
    rw [if_neg g5] at h0 ⊢
    by_cases g6 : 1048576 < c.size + (e.data.l.length : Int)
    · rw [if_pos g6] at h0; simp at h0
    rw [if_neg g6] at h0 ⊢
  refine ⟨⟨?_, ?_, ?_⟩, a1, a3⟩
  · rw [hks, putK_new, h.ks]
    · simp
    · intro x hx hxp
      rw [h.ks] at hx
      obtain ⟨d, hd, he⟩ := List.mem_map.1 hx
      have h6 := hn d hd
      have h7 : d.path = e.path := by rw [← hxp, ← he]
      rw [h7, path_self] at h6
      omega
  · intro d hd
    rw [a1]
    rcases List.mem_append.1 hd with hd | hd
    · exact Or.inr (hn d hd)
    · rw [List.mem_singleton.1 hd]; exact Or.inl rfl
  · have := h.size
    omega
end Go.Abs
namespace Go.Abs
open Am Lib
set_option maxRecDepth 10000
set_option linter.unusedSimpArgs false
set_option maxHeartbeats 4000000 in
theorem h41 (cl tmp : Bool) (t : List Ent) (ht : t.length ≤ 200) (hq : ∀ e ∈ t, EntOk e) (r0 : Int × Int) : ∀ (rest done : List Ent) (c : Ck) (i : Int), t = done ++ rest → i = done.length → CkOk c done → (∀ p ∈ done.getLast?, c.last = p.path) → r0 = checkL c i rest →
    HD AA 0 [0, 2, 3, 4, 5] l41_0 ⟨[.view 8 (t.map Ent.av) cl tmp, .junk, .int .i64 0, .int .i64 0, .int .i64 c.size, .int .i64 i, .junk, .junk, .junk, .junk, .junk, .junk, .junk, .junk, .junk, .junk, .junk, .junk, .junk, .junk, .junk, .junk, .junk, .junk, .junk, .junk, .junk, .junk, .junk, .junk, .junk, .junk, .junk, .junk, .junk, .junk, .junk, .junk, .junk, .junk, .junk, .junk, .junk, .junk, .junk, .junk, .junk, .junk, .junk, .junk, .junk, .junk, .junk, .junk, .junk, .junk, .junk, .junk, .junk, .junk, .junk, .junk, .junk, .junk, .junk, .junk, .junk, .junk, .junk, .junk, .junk, .junk, .junk, .junk, .junk, .junk, .junk, .junk, .junk, .junk, .junk, .junk, .junk, .junk, .junk, .junk, .junk, .junk, .junk, .junk, .junk], [], 0⟩ [.blk 0, .code r41_0] (Fin [(2, none), (3, none)] 0 (.tuple [.int .i64 r0.1, .int .i64 r0.2]) [])
  | [], done, c, i, h1, h2, hck, hlast, h5 => by
    have hl : t.length = done.length := by rw [h1]; simp
    have hr : r0 = (-1, 0) := h5
    subst hr
    refine hd_of (by unfold l41_0; rfl) ?_
    have gg := trivial; repeat' first | simp (maxSteps := 2000000) (disch := omega) only [gg, r41_0, go_sem] | (refine br ?_ ?_ <;> intro gg <;> try (exfalso; omega)) | (refine And.intro ?_ ?_; focus omega) | omega
  | e :: rest, done, c, i, h1, h2, hck, hlast, h5 => by
    have hl : t.length = done.length + (rest.length + 1) := by rw [h1]; simp
    have hm : e ∈ t := by rw [h1]; simp
    obtain ⟨b1, b2, b3, b4⟩ := hq e hm
    have hsz := hck.size
    have hx : t[i.toNat]? = some e := by
      rw [show i.toNat = done.length by omega, h1, List.getElem?_append_right (by omega)]
      simp
    have k1 := s75 e.path b2
    have k2 := s76 e.path b2
    have k3 := s77 e b1
    have k4 := fun p => s79 cl tmp t (by omega) p i (by omega) (by omega)
    have hti : t.take i.toNat = done := by rw [show i.toNat = done.length by omega, h1, List.take_left' rfl]
    simp only [hti] at k4
    simp only [Ent.av] at k3
    have hs := step_entry hck e
    rw [checkL, hs] at h5
    have S : ∀ k, stepE done c.last c.size e = k → k ≠ 0 → r0 = (i, k) := by
      intro k h6 h7
      rw [h5, h6, if_neg h7]
    have K : stepE done c.last c.size e = 0 → HD AA 0 [0, 2, 3, 4, 5] l41_0 ⟨[.view 8 (t.map Ent.av) cl tmp, .junk, .int .i64 0, .int .i64 0, .int .i64 (c.size + e.data.l.length), .int .i64 (i + 1), .junk, .junk, .junk, .junk, .junk, .junk, .junk, .junk, .junk, .junk, .junk, .junk, .junk, .junk, .junk, .junk, .junk, .junk, .junk, .junk, .junk, .junk, .junk, .junk, .junk, .junk, .junk, .junk, .junk, .junk, .junk, .junk, .junk, .junk, .junk, .junk, .junk, .junk, .junk, .junk, .junk, .junk, .junk, .junk, .junk, .junk, .junk, .junk, .junk, .junk, .junk, .junk, .junk, .junk, .junk, .junk, .junk, .junk, .junk, .junk, .junk, .junk, .junk, .junk, .junk, .junk, .junk, .junk, .junk, .junk, .junk, .junk, .junk, .junk, .junk, .junk, .junk, .junk, .junk, .junk, .junk, .junk, .junk, .junk, .junk], [], 0⟩ [.blk 0, .code r41_0] (Fin [(2, none), (3, none)] 0 (.tuple [.int .i64 r0.1, .int .i64 r0.2]) []) := by
      intro h6
      rw [h6] at hs
      rw [h6, if_pos rfl] at h5
      obtain ⟨a1, a2, a3⟩ := step_ok hck hs
      have ih := h41 cl tmp t ht hq r0 rest (done ++ [e]) (entryE c e).2 (i + 1) (by rw [h1]; simp) (by simp; omega) a1 (by simp [a2]) h5
      rw [a3] at ih
      exact ih
    clear h5 hs
    by_cases hi : 0 < i
    · obtain ⟨p, hp⟩ : ∃ p, done.getLast? = some p := by
        cases hd : done.getLast? with
        | none => rw [List.getLast?_eq_none_iff.1 hd] at h2; simp at h2; omega
        | some p => exact ⟨p, rfl⟩
      have hcl : c.last = p.path := hlast p (by rw [hp]; rfl)
      have hx2 : t[(i - 1).toNat]? = some p := by
        rw [show (i - 1).toNat = done.length - 1 by omega, h1, List.getElem?_append_left (by omega), ← List.getLast?_eq_getElem?, hp]
      have hpm : p ∈ t := by rw [h1]; exact List.mem_append_left _ (List.mem_of_getLast? hp)
      have k5 := s78 p.path e.path (hq p hpm).2.1 b2
      have hdl : 0 < done.length := by omega
      rw [hcl] at S K
      refine hd_of (by unfold l41_0; rfl) ?_
      have gg := trivial; repeat' first | simp (maxSteps := 2000000) (disch := omega) only [gg, hx, hx2, k1, k2, k3, k4, k5, lp_head, go_sem] | (refine br ?_ ?_ <;> intro gg <;> try (exfalso; omega)) | (refine And.intro ?_ ?_; focus omega) | omega
      all_goals clear k1 k2 k3 k4 k5
      all_goals (try simp only [Bool.not_eq_true', Bool.not_eq_false'] at *)
      all_goals first
        | (refine K ?_; simp [stepE, *]; done)
        | (rw [S 12] <;> first | omega | (simp [stepE, *]; done))
        | (rw [S 13] <;> first | omega | (simp [stepE, *]; done))
        | (rw [S 18] <;> first | omega | (simp [stepE, *]; done))
    · have hdl : ¬ 0 < done.length := by omega
      refine hd_of (by unfold l41_0; rfl) ?_
      have gg := trivial; repeat' first | simp (maxSteps := 2000000) (disch := omega) only [gg, hx, k1, k2, k3, k4, lp_head, go_sem] | (refine br ?_ ?_ <;> intro gg <;> try (exfalso; omega)) | (refine And.intro ?_ ?_; focus omega) | omega
      all_goals clear k1 k2 k3 k4
      all_goals (try simp only [Bool.not_eq_true', Bool.not_eq_false'] at *)
      all_goals first
        | (refine K ?_; simp [stepE, *]; done)
        | (rw [S 12] <;> first | omega | (simp [stepE, *]; done))
        | (rw [S 13] <;> first | omega | (simp [stepE, *]; done))
        | (rw [S 18] <;> first | omega | (simp [stepE, *]; done))
theorem s41 (cl tmp : Bool) (t : List Ent) (hq : ∀ e ∈ t, EntOk e) (hl : t.length ≤ 1000000000) : callT AA 41 [.view 8 (t.map Ent.av) cl tmp] [] = some (.tuple [.int .i64 (checkT t).1, .int .i64 (checkT t).2], []) := by
  refine enter fn41 np41 rfl ?_
  unfold checkT
  by_cases h : 200 < t.length
  · rw [if_pos h]
    have gg := trivial; repeat' first | simp (maxSteps := 2000000) (disch := omega) only [gg, b41, go_sem] | (refine br ?_ ?_ <;> intro gg <;> try (exfalso; omega)) | (refine And.intro ?_ ?_; focus omega) | omega
  · rw [if_neg h]
    have hh := h41 cl tmp t (by omega) hq (checkL ⟨[], [], 0⟩ 0 t) t [] ⟨[], [], 0⟩ 0 rfl rfl ck_first (by simp) rfl
    have gg := trivial; repeat' first | simp (maxSteps := 2000000) (disch := omega) only [gg, b41, lp_head, go_sem] | (refine br ?_ ?_ <;> intro gg <;> try (exfalso; omega)) | (refine And.intro ?_ ?_; focus omega) | omega
end Go.Abs
namespace Go.Abs
open Am Lib
set_option maxRecDepth 20000
set_option linter.unusedSimpArgs false
end Go.Abs
namespace Go.Abs
def b19 : AFn := ⟨1, 19, [(2, none)], (.seq (rg [oo 2 (.mov (ci 0))]) (.seq (.seq (rg [mv 5 0, oo 6 (.bin .eql (.iface [58]) true (.t 5) (.c (.lit .nilIface)))]) (.cond (.t 6) (.seq (rg [oo 2 (.mov (ci 0))]) .ret) .skip)) (.seq (rg [mv 8 0, oo 9 (.tass 58 true (.int .i64 0) (.t 8)), mv 7 9, oo 10 (.ext (.t 7) 0), oo 11 (.ext (.t 7) 1), mv 3 10, mv 4 11]) (.seq (.seq (rg [mv 12 4, oo 13 (.un .not (.t 12)), mv 14 13, og 15 (.mov (.t 3)) 14 false, og 16 (.bin .eql .other true (.t 15) (ci 0)) 14 false, oo 17 (.pick (.t 14) (.c (.bool true)) (.t 16))]) (.cond (.t 17) (.seq (rg [oo 2 (.mov (.c (.int .i64 (-1))))]) .ret) .skip)) (.seq (rg [mv 18 3, mv 2 18]) .ret)))))⟩
theorem fn19 : AA.fn 19 = some b19 := by kernel_rfl
theorem np19 : AA.prim 19 = none := rfl
def l5_0 : ACode := (.seq (rg [oo 59 (.bin .lss .other false (.t 58) (.t 57))]) (.seq (.cond (.t 59) .skip (.exit 0)) (.seq (.block 1 (.seq (rg [oo 60 (.ixa 1 (.t 56) (.t 58)), oo 61 (.ld 1 false (.t 60)), mv 13 61]) (.seq (rg [mv 62 13, mv 63 11, oo 64 (.minmax true (.t 62) (.t 63)), mv 65 0, oo 66 (.len 1 (.t 65)), oo 67 (.minmax false (.t 64) (.t 66)), mv 14 67]) (.seq (rg [mv 69 9, mv 70 0, mv 71 11, mv 72 14, oo 73 (.slc 8 (.t 70) (some (.t 71)) (some (.t 72)) none), cl 74 29 [(.t 69), (.t 73)], mv 68 74, oo 75 (.ext (.t 68) 0), oo 76 (.ext (.t 68) 1), mv 15 75, mv 16 76]) (.seq (.seq (rg [mv 77 16, oo 78 (.bin .neq (.iface [58]) true (.t 77) (.c (.lit .nilIface))), mv 79 78, og 80 (.mov (.t 9)) 79 false, og 81 (.call (.c (.func (.func 30) [])) [(.t 80)]) 79 false, og 82 (.mov (.t 14)) 79 false, og 83 (.bin .neq .other false (.t 81) (.t 82)) 79 false, oo 84 (.pick (.t 79) (.c (.bool true)) (.t 83))]) (.cond (.t 84) (.seq (rg [oo 6 (.mov (.c (.bool false)))]) .ret) .skip)) (.seq (rg [mv 85 10, mv 86 15, oo 87 (.app 1 1 (.t 85) (.t 86)), mv 10 87]) (.seq (rg [mv 88 14, mv 11 88]) (.seq (.reg true [(0, 1), (0, 2), (0, 3), (0, 5), (1, 5), (2, 5), (3, 5), (4, 5), (0, 6), (1, 6), (2, 6), (3, 6), (4, 6), (5, 6), (0, 7), (1, 7), (2, 7), (3, 7), (4, 7)] [oo 90 (.bslice 8 0 [(.str []), (.int .i64 0), (.int .i64 0), (.int .i64 0), (.int .i64 0), (.int .i64 0), (.str []), (.lit (.slice none 0 0))] []), mv 91 0, mv 92 11, oo 93 (.slc 8 (.t 91) none (some (.t 92)) none), oo 94 (.app 96 8 (.t 90) (.t 93)), oo 95 (.ld 8 true (.t 5)), oo 96 (.ld 8 true (.t 5)), oo 97 (.bslice 8 2 [(.str []), (.int .i64 0), (.int .i64 0), (.int .i64 0), (.int .i64 0), (.int .i64 0), (.str []), (.lit (.slice none 0 0))] [(.t 95), (.t 96)]), oo 98 (.app 96 8 (.t 94) (.t 97)), cl 99 31 [(.t 98)], mv 89 99, oo 100 (.ext (.t 89) 0), oo 101 (.ext (.t 89) 1), mv 17 100, mv 18 101]) (.seq (rg [mv 103 9, oo 104 (.ld 8 true (.t 5)), oo 105 (.ld 8 true (.t 5)), oo 106 (.bslice 8 2 [(.str []), (.int .i64 0), (.int .i64 0), (.int .i64 0), (.int .i64 0), (.int .i64 0), (.str []), (.lit (.slice none 0 0))] [(.t 104), (.t 105)]), cl 107 29 [(.t 103), (.t 106)], mv 102 107, oo 108 (.ext (.t 102) 0), oo 109 (.ext (.t 102) 1), mv 15 108, mv 16 109]) (.seq (rg [mv 110 18, oo 111 (.bin .eql (.iface [58]) true (.t 110) (.c (.lit .nilIface))), mv 112 111, og 113 (.mov (.t 16)) 112 false, og 114 (.call (.c (.func (.func 19) [])) [(.t 113)]) 112 false, og 115 (.mov (.t 18)) 112 false, og 116 (.call (.c (.func (.func 19) [])) [(.t 115)]) 112 false, og 117 (.bin .neq .other false (.t 114) (.t 116)) 112 false, oo 118 (.pick (.t 112) (.c (.bool true)) (.t 117)), mv 119 118, og 120 (.mov (.t 15)) 119 false, og 121 (.len 1 (.t 120)) 119 false, og 122 (.bin .neq .other true (.t 121) (ci 0)) 119 false, oo 123 (.pick (.t 119) (.c (.bool true)) (.t 122)), mv 124 123, og 125 (.mov (.t 9)) 124 false, og 126 (.call (.c (.func (.func 30) [])) [(.t 125)]) 124 false, og 127 (.mov (.t 11)) 124 false, og 128 (.bin .neq .other false (.t 126) (.t 127)) 124 false, oo 129 (.pick (.t 124) (.c (.bool true)) (.t 128))]) (.cond (.t 129) (.seq (rg [oo 6 (.mov (.c (.bool false)))]) .ret) .skip))))))))))) (rg [oo 130 (.bin .add .other true (.t 58) (ci 1)), mv 58 130]))))
def r5_0 : ACode := (.seq (rg [mv 131 10, mv 132 9, cl 133 32 [(.t 132)], oo 134 (.app 1 1 (.t 131) (.t 133)), mv 10 134]) (.seq (rg [mv 135 10, oo 136 (.cvbs (.t 135)), mv 137 7, oo 138 (.cvbs (.t 137)), oo 139 (.bin .eql .other false (.t 136) (.t 138)), mv 140 139, og 141 (.mov (.t 9)) 140 true, og 142 (.call (.c (.func (.func 30) [])) [(.t 141)]) 140 true, og 143 (.bin .eql .other true (.t 142) (ci 0)) 140 true, oo 144 (.pick (.t 140) (.t 143) (.c (.bool false))), mv 6 144]) .ret))
def b5 : AFn := ⟨3, 145, [(6, none)], (.seq (rg [oo 5 (.box (.t 2)), oo 6 (.mov (.c (.bool false)))]) (.seq (.seq (rg [cl 19 14 [], oo 20 (.un .not (.t 19))]) (.cond (.t 20) (.seq (rg [oo 6 (.mov (.c (.bool false)))]) .ret) .skip)) (.seq (.seq (rg [mv 21 0, cl 22 15 [(.t 21)], mv 23 22, og 24 (.fa 7 (.t 5)) 23 false, og 25 (.ld 1 false (.t 24)) 23 false, og 26 (.len 1 (.t 25)) 23 false, og 27 (.bin .gtr .other true (.t 26) (ci 4096)) 23 false, oo 28 (.pick (.t 23) (.c (.bool true)) (.t 27)), mv 29 28, og 30 (.fa 0 (.t 5)) 29 false, og 31 (.ld 1 false (.t 30)) 29 false, og 32 (.len 0 (.t 31)) 29 false, og 33 (.bin .gtr .other true (.t 32) (ci 4096)) 29 false, oo 34 (.pick (.t 29) (.c (.bool true)) (.t 33))]) (.cond (.t 34) (.seq (rg [oo 6 (.mov (.c (.bool true)))]) .ret) .skip)) (.seq (rg [mv 36 0, cl 37 17 [(.t 36)], mv 35 37, oo 38 (.ext (.t 35) 0), oo 39 (.ext (.t 35) 1), mv 7 38, mv 8 39]) (.seq (rg [cl 40 28 [], mv 9 40]) (.seq (.seq (rg [mv 41 8, oo 42 (.bin .neq (.iface [58]) true (.t 41) (.c (.lit .nilIface))), mv 43 42, og 44 (.mov (.t 9)) 43 false, og 45 (.bin .eql .ptr true (.t 44) (.c (.lit (.pointer none)))) 43 false, oo 46 (.pick (.t 43) (.c (.bool true)) (.t 45))]) (.cond (.t 46) (.seq (rg [mv 47 8, oo 48 (.bin .neq (.iface [58]) true (.t 47) (.c (.lit .nilIface))), mv 6 48]) .ret) .skip)) (.seq (rg [oo 49 (.bslice 1 0 [(.int .u8 0)] []), mv 10 49]) (.seq (rg [oo 11 (.mov (ci 0))]) (.seq (.seq (rg [oo 50 (.bslice 1 0 [(.int .i64 0)] []), mv 51 1, oo 52 (.app 8 1 (.t 50) (.t 51)), mv 53 0, oo 54 (.len 1 (.t 53)), oo 55 (.bslice 1 1 [(.int .i64 0)] [(.t 54)]), oo 56 (.app 8 1 (.t 52) (.t 55)), oo 57 (.len 1 (.t 56)), oo 58 (.mov (ci 0))]) (.block 0 (.loop [0, 5, 6, 7, 9, 10, 11, 56, 57, 58] l5_0))) r5_0)))))))))⟩
end Go.Abs
namespace Go.Abs
open Am Lib
set_option maxRecDepth 100000
set_option linter.unusedSimpArgs false
theorem s19w (n : Int) (hn : n ≠ 0) : callT AA 19 [.iface 58 (.int .i64 n)] [] = some (.int .i64 n, []) := by
  refine enter fn19 np19 rfl ?_
  have gg := trivial; repeat' first | simp (maxSteps := 2000000) (disch := omega) only [gg, b19, go_sem] | (refine br ?_ ?_ <;> intro gg <;> try (exfalso; omega)) | (refine And.intro ?_ ?_; focus omega) | omega
end Go.Abs
namespace Go.Abs
open Am Lib
set_option maxRecDepth 100000
set_option linter.unusedSimpArgs false
end Go.Abs
namespace Go.Abs
open Am
set_option maxRecDepth 100000
set_option linter.unusedSimpArgs false
end Go.Abs
namespace Go.Abs
open Am
set_option maxRecDepth 100000
set_option linter.unusedSimpArgs false
theorem fields_of {t : List Ent} (h : (checkT (t.map Ent.cp)).2 = 0) : ∀ e ∈ t, FieldsOk e ∧ e.path.length ≤ 400 := by
  intro e he
  rw [checkT_map Ent.cp same_cp] at h
  obtain ⟨_, h2⟩ := checkT_good h
  obtain ⟨g1, g2⟩ := h2 e he
  exact ⟨fields_ok g2, good_le g1⟩
end Go.Abs
namespace Go.Abs
open Am
set_option maxRecDepth 100000
set_option linter.unusedSimpArgs false
/-- an entry's rounds -/
theorem step10 (ct tt : Bool) (t : List Ent) (W : List UInt8) (q k r i : Nat) (n x : Int) (e : Ent) (R : List UInt8) (F : FinP) (hW : W.drop k = pieceL i e ++ R) (hR : 1024 ≤ R.length) (hq : W.length = q) (hr : k + r + 1024 = q) (hi : x = i) (hn : n = t.length) (hlt : i < t.length) (hg : t[i]? = some e) (htl : t.length ≤ 128) (hf : FieldsOk e) (hp : e.path.length ≤ 400) (hq1 : q ≤ 1000000000)
    (ih : HD AB 0 [2, 3, 60, 61, 62] l10_1 ⟨EnvO ct tt t (k + (pieceL i e).length) (r - (pieceL i e).length) n (x + 1), [(0, .row (W.map .byte) 1)], 1⟩ [.blk 0, .code r10_2] F) :
    HD AB 0 [2, 3, 60, 61, 62] l10_1 ⟨EnvO ct tt t k r n x, [(0, .row (W.map .byte) 1)], 1⟩ [.blk 0, .code r10_2] F := by
  have hE := entB_of hf hp
  have hpo := pieceOk_of hf hp (show i < 201 by omega)
  have hsz : (hdrE e (recsE e)).size = e.data.l.length := by rw [hdrE_eq]
  have hmo : (hdrE e (recsE e)).mode = e.mode := by rw [hdrE_eq]
  have hty : ¬ ((hdrE e (recsE e)).type.toNat : Int) = 120 := by
    have h1 : (hdrE e (recsE e)).type = typeB e.kind := by rw [hdrE_eq]
    rw [h1]
    rcases hf.kinds with h | h | h | h
    all_goals rw [h.1]
    all_goals decide
  have hbl := hf.data
  have hgn : t[x.toNat]? = some e := by
    have : x.toNat = i := by omega
    rw [this]
    exact hg
  have hL5 := recsE_length e
  obtain ⟨ok1, ok2⟩ := hpo
  have hw : ∀ n : Nat, ((n : Int) + 511) / 512 * 512 = (n : Int) + padN n := by
    intro n
    unfold padN
    omega
  have hpl := padL_length e.data.l
  have hWl := congrArg List.length hW
  rw [List.length_drop, List.length_append] at hWl
  suffices h0 : HD AB 0 [2, 3, 8, 9, 60, 61, 62] l10_0 ⟨EnvI ct tt t k r 0 n x, HeapI W e [], 3⟩ S10 F by
    dsimp only [EnvI, HeapI, S10] at h0
    simp only [List.map_nil] at h0
    have hxl : x.toNat < t.length := by omega
    refine hd_of (by unfold l10_1; rfl) ?_
    have gg := trivial; repeat' first | simp (maxSteps := 2000000) (disch := omega) only [gg, hgn, lp_head, go_sem] | (refine br ?_ ?_ <;> intro gg <;> try (exfalso; omega)) | (refine And.intro ?_ ?_; focus omega) | omega
  by_cases hr0 : recsE e = []
  · have hpc : pieceL i e = encB (hdrE e (recsE e)) ++ padL e.data.l := by
      unfold pieceL preE
      rw [if_pos hr0, List.nil_append]
    have hb := blkAt_of (W := W) (R := R) (k := k) (by rw [hW, hpc, List.append_assoc]) ok1 hsz hR
    have hlen : (pieceL i e).length = 512 + (e.data.l.length + padN e.data.l.length) := by
      rw [hpc, List.length_append, encB_length, hpl]
    exact f10s ct tt t W q k r _ _ _ n x ((e.data.l.length : Int) + padN e.data.l.length) e _ e.data.l hb hq hr (by rw [hsz]; exact hw _) (by omega) (by omega) hq1 (by omega) hE hty [] (by simp) hr0.symm hmo rfl (by omega) (by omega) F ih
  · obtain ⟨o1, o2⟩ := ok2 hr0
    obtain ⟨body, hbo⟩ := Option.isSome_iff_exists.1 o1
    have hbe : bodyE e = body := by unfold bodyE; rw [hbo]; rfl
    have hbo2 := paxE_le _ _ _ _ (by simp) hbo
    have hpc : pieceL i e = encB (hdX i body) ++ (padL body ++ (encB (hdrE e (recsE e)) ++ padL e.data.l)) := by
      unfold pieceL preE
      rw [if_neg hr0, hbe]
      simp
    rw [hbe] at o2
    have hpb := padL_length body
    have hW1 : W.drop k = encB (hdX i body) ++ (padL body ++ (encB (hdrE e (recsE e)) ++ (padL e.data.l ++ R))) := by
      rw [hW, hpc]
      simp
    have hb1 := blkAt_of (W := W) (k := k) hW1 o2 rfl (by simp only [List.length_append]; omega)
    have hW2 : W.drop (k + (512 + (body.length + padN body.length))) = encB (hdrE e (recsE e)) ++ (padL e.data.l ++ R) := by
      rw [← List.drop_drop, hW1, ← List.append_assoc, List.drop_left' (by rw [List.length_append, encB_length, hpb])]
    have hb2 := blkAt_of (W := W) (R := R) hW2 ok1 hsz hR
    have hlen : (pieceL i e).length = (512 + (body.length + padN body.length)) + (512 + (e.data.l.length + padN e.data.l.length)) := by
      rw [hpc]
      simp only [List.length_append, encB_length, hpl, hpb]
      omega
    have ih2 := f10s ct tt t W q (k + (512 + (body.length + padN body.length))) (r - (512 + (body.length + padN body.length))) _ _ _ n x ((e.data.l.length : Int) + padN e.data.l.length) e _ e.data.l hb2 hq (by omega) (by rw [hsz]; exact hw _) (by omega) (by omega) hq1 (by omega) hE hty (recsE e) (by omega) rfl hmo rfl (by omega) (by omega) F ih
    exact f10x ct tt t W q k r _ _ _ n x ((body.length : Int) + padN body.length) e _ body hb1 hq hr (hw _) (by omega) (by omega) hq1 (by omega) rfl (recsE e) (paxD_paxE hbo) hr0 F ih2
theorem loop10 (ct tt : Bool) (t : List Ent) (W : List UInt8) (q : Nat) (n : Int) (hq : W.length = q) (hn : n = t.length) (htl : t.length ≤ 128) (hq1 : q ≤ 1000000000) (hf : ∀ e ∈ t, FieldsOk e ∧ e.path.length ≤ 400) : ∀ (rest done : List Ent) (k r i : Nat) (x : Int), t = done ++ rest → i = done.length → W.drop k = outL i rest ++ zeros1024 → k + r + 1024 = q → x = i →
    HD AB 0 [2, 3, 60, 61, 62] l10_1 ⟨EnvO ct tt t k r n x, [(0, .row (W.map .byte) 1)], 1⟩ [.blk 0, .code r10_2] (Fin [(2, none)] 0 (.bool true) [])
  | [], done, k, r, i, x, h1, h2, h3, h4, h5 => by
    have hz := zeros1024_length
    have hl := congrArg List.length h3
    simp only [List.length_drop, outL, List.nil_append] at hl
    have hlt : t.length = i := by rw [h1, h2]; simp
    have hr0 : r = 0 := by omega
    subst hr0
    dsimp only [EnvO]
    refine hd_of (by unfold l10_1; rfl) ?_
    have gg := trivial; repeat' first | simp (maxSteps := 2000000) (disch := omega) only [gg, r10_2, go_sem] | (refine br ?_ ?_ <;> intro gg <;> try (exfalso; omega)) | (refine And.intro ?_ ?_; focus omega) | omega
  | e :: rest, done, k, r, i, x, h1, h2, h3, h4, h5 => by
    have hg : t[i]? = some e := by
      rw [h1, h2]
      simp
    have hlt : i < t.length := by rw [h1, h2]; simp
    obtain ⟨f1, f2⟩ := hf e (by rw [h1]; simp)
    have hW : W.drop k = pieceL i e ++ (outL (i + 1) rest ++ zeros1024) := by
      rw [h3]
      simp [outL]
    have hWl := congrArg List.length hW
    rw [List.length_drop, List.length_append, List.length_append, zeros1024_length] at hWl
    refine step10 ct tt t W q k r i n x e _ _ hW (by rw [List.length_append, zeros1024_length]; omega) hq h4 h5 hn hlt hg htl f1 f2 hq1 ?_
    exact loop10 ct tt t W q n hq hn htl hq1 hf rest (done ++ [e]) (k + (pieceL i e).length) _ (i + 1) _ (by simp [h1]) (by simp [h2]) (by rw [← List.drop_drop, hW, List.drop_left' rfl]) (by omega) (by omega)
set_option maxHeartbeats 4000000 in
theorem t10 (ct tt : Bool) (t : List Ent) (W : List UInt8) (q : Nat) (htl : t.length ≤ 128) (hf : ∀ e ∈ t, FieldsOk e ∧ e.path.length ≤ 400) (hW : W = writeL t) (hq : W.length = q) (hq1 : q ≤ 1000000000)
    (h40 : callT AB 40 [.view 8 (t.map Ent.av) ct tt] [] = some (.bool true, []))
    (h17 : callT AB 17 [.view 8 (t.map Ent.av) ct tt] [] = some (.tuple [.own 0 1 0 q false, .lit .nilIface], [(0, .row (W.map .byte) 1)])) :
    callT AB 10 [.view 8 (t.map Ent.av) ct tt] [] = some (.bool true, []) := by
  have hm := out_mod t 0
  have hlen : q = (outL 0 t).length + 1024 := by
    rw [← hq, hW]
    unfold writeL
    rw [List.length_append, zeros1024_length]
  obtain ⟨r, hr⟩ : ∃ r : Nat, r + 1024 = q := ⟨q - 1024, by omega⟩
  have hh := loop10 ct tt t W q t.length hq rfl htl hq1 hf t [] 0 r 0 0 rfl rfl (by rw [List.drop_zero, hW]; rfl) (by omega) rfl
  dsimp only [EnvO] at hh
  have e1 : (0 : Int) < 1 → ((q : Int)).tmod 512 = 0 := fun _ => by
    rw [Int.tmod_eq_emod_of_nonneg (by omega)]
    omega
  have e2 : (0 : Int) < 1 → (q : Int) - 1024 = r := fun _ => by omega
  have g1 := sl_from (k := 0) (n := q) (i := r) (a := r) rfl (by omega)
  have g2 : aSlice 1 (.own 0 1 0 q false) none (some (.int .i64 r)) none = some (.own 0 1 0 r false) := by
    rw [sl_own (a := 0) (c := r) rfl (by simp [natOr, toNat?])]
    rw [if_pos (by simp; omega)]
    rfl
  rw [Nat.zero_add, show q - r = 1024 by omega] at g1
  have e5 : (W.map AVal.byte).length = q := by rw [List.length_map, hq]
  have p1 : List.take 1024 (List.drop r (W.map AVal.byte)) = zeros1024.map .byte := by
    refine part_map ?_
    rw [hW]
    unfold writeL
    rw [List.drop_left' (by omega), List.take_of_length_le (by rw [zeros1024_length]; omega)]
  have p1b : List.take (q - r) (List.drop r (W.map AVal.byte)) = zeros1024.map .byte := by
    rw [show q - r = 1024 by omega]
    exact p1
  have c42 := fun c t => callT_ext (s42 (.mk c t zeros1024) (by rw [mk_l, zeros1024_length]; omega))
  have hz : zerosB zeros1024 = true := by simp [zerosB, zeros1024]
  simp only [mk_l, hz, mk_av] at c42
  have h39 := s39
  clear hm hf hW
  refine enter (ab_fn fn10) rfl rfl ?_
  have gg := trivial; repeat' first | simp (maxSteps := 2000000) (disch := omega) only [gg, b10, h39, h40, h17, c42, e1, e2, g1, g2, e5, p1, p1b, lp_head, go_sem] | (refine br ?_ ?_ <;> intro gg <;> try (exfalso; omega)) | (refine And.intro ?_ ?_; focus omega) | omega
set_option maxHeartbeats 4000000 in
theorem t10n : callT AB 10 [.lit (.slice none 0 0)] [] = some (.bool true, []) := by
  have e1 : (0 : Int) < 1 → (1024 : Int).tmod 512 = 0 := fun _ => rfl
  have p1 : List.take 1024 (zeros1024.map AVal.byte) = zeros1024.map .byte := zeros1024_take
  have c42 := fun c t => callT_ext (s42 (.mk c t zeros1024) (by rw [mk_l, zeros1024_length]; omega))
  have hz : zerosB zeros1024 = true := by simp [zerosB, zeros1024]
  have hl := zeros1024_length
  simp only [mk_l, hz, mk_av] at c42
  have h39 := s39
  have h40 := callT_ext s40n
  have h17 := callT_ext s17n
  have g2 : aSlice 1 (.own 0 1 0 1024 false) none (some (.int .i64 0)) none = some (.own 0 1 0 0 false) := rfl
  have g1 : aSlice 1 (.own 0 1 0 1024 false) (some (.int .i64 0)) none none = some (.own 0 1 0 1024 false) := rfl
  refine enter (ab_fn fn10) rfl rfl ?_
  have gg := trivial; repeat' first | simp (maxSteps := 2000000) (disch := omega) only [gg, b10, h39, h40, h17, c42, e1, g1, g2, p1, hl, Int.reduceSub, lp_head, go_sem] | (refine br ?_ ?_ <;> intro gg <;> try (exfalso; omega)) | (refine And.intro ?_ ?_; focus omega) | omega
  all_goals refine hd_of (by unfold l10_1; rfl) ?_
  all_goals (have gg := trivial; repeat' first | simp (maxSteps := 2000000) (disch := omega) only [gg, r10_2, go_sem] | (refine br ?_ ?_ <;> intro gg <;> try (exfalso; omega)) | (refine And.intro ?_ ?_; focus omega) | omega)
theorem s10 (t : Option (List Ent)) (ht : ∀ e ∈ esL t, EntW e) (hl : (esL t).length ≤ 140737488351232) : callT AB 10 [esAv t] [] = some (.bool true, []) := by
  cases t with
  | none => exact t10n
  | some t =>
    simp only [esL] at ht hl
    show callT AB 10 [.view 8 (t.map Ent.av) false false] [] = _
    have h40 := callT_ext (s40 false false t hl fun e he => entL_of (ht e he))
    have h39 := s39
    cases hb : largeB 0 t with
    | true =>
      rw [hb] at h40
      refine enter (ab_fn fn10) rfl rfl ?_
      have gg := trivial; repeat' first | simp (maxSteps := 2000000) (disch := omega) only [gg, b10, h39, h40, go_sem] | (refine br ?_ ?_ <;> intro gg <;> try (exfalso; omega)) | (refine And.intro ?_ ?_; focus omega) | omega
    | false =>
      rw [hb] at h40
      have hlen := large_len hb
      have hsm := (large_small t 0 (by omega) hb).2
      cases t with
      | nil =>
        exact t10 false false [] zeros1024 1024 (by simp) (by simp) rfl zeros1024_length (by omega) h40 (callT_ext (s17v false false))
      | cons e r =>
        have hq : ∀ x ∈ e :: r, EntOk x := fun x hx => entOk_of (ht x hx) (hsm x hx)
        by_cases hc : (checkT ((e :: r).map Ent.cp)).2 = 0
        · have hwl := outL_le _ 0 (checkT_pieces hc)
          exact t10 false false (e :: r) (writeL (e :: r)) _ hlen (fields_of hc) rfl rfl (by
            unfold writeL
            rw [List.length_append, zeros1024_length]
            omega) h40 (callT_ext (s17 false false e r (by omega) hq hc (checkT_pieces hc)))
        · have h17 := callT_ext (s17no false false e r (by omega) hq hc (fun x hx => by have := hsm x hx; omega))
          have h41 := callT_ext (s41 false false (e :: r) hq (by omega))
          rw [checkT_map Ent.cp same_cp] at h17 hc
          unfold errV at h17
          rw [if_neg hc] at h17
          have h19 := callT_ext (s19w _ hc)
          generalize (checkT (e :: r)).2 = E at *
          generalize e :: r = t at *
          refine enter (ab_fn fn10) rfl rfl ?_
          have gg := trivial; repeat' first | simp (maxSteps := 2000000) (disch := omega) only [gg, b10, h39, h40, h17, h41, h19, go_sem] | (refine br ?_ ?_ <;> intro gg <;> try (exfalso; omega)) | (refine And.intro ?_ ?_; focus omega) | omega
end Go.Abs
