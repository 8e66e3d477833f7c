import Derived.Test.YtambgnjkakdoeaaGreatDoorForms12
/- PART OF A PROOF (texts joined by a program): F39 T6 F40 F41 F36 F42 Q4 F37 F43. -/
set_option linter.unusedVariables false
set_option linter.unusedSimpArgs false
set_option linter.unusedSectionVars false
/- THE LAWS' OWN FUNCTIONS: large, Find, Decimal, field. -/
namespace Go.Abs
open Am
set_option maxRecDepth 10000
set_option linter.unusedSimpArgs false
/-- a list that is too large -/
def largeB : Int → List Ent → Bool
  | _, [] => false
  | n, e :: r => if 65536 < n + (512 + (e.data.l.length : Int) + e.path.length + e.link.length) then true else largeB (n + (512 + (e.data.l.length : Int) + e.path.length + e.link.length)) r
def EntL (e : Ent) : Prop := e.path.length ≤ 140737488351232 ∧ e.link.length ≤ 140737488351232 ∧ e.data.l.length ≤ 140737488351232
theorem h15 (c tmp : Bool) (t : List Ent) (ht : t.length ≤ 140737488351232) (hq : ∀ e ∈ t, EntL e) (r0 : Bool) : ∀ (rest done : List Ent) (acc n i : Int), t = done ++ rest → i = done.length → n = t.length → 0 ≤ acc → acc ≤ 65536 → r0 = largeB acc rest →
    HD AA 0 [2, 3, 6, 7, 8] l15_0 ⟨[.junk, .junk, .bool false, .int .i64 acc, .junk, .junk, .view 8 (t.map Ent.av) c tmp, .int .i64 n, .int .i64 i, .junk, .junk, .junk, .junk, .junk, .junk, .junk, .junk, .junk, .junk, .junk, .junk, .junk, .junk, .junk, .junk, .junk, .junk, .junk, .junk], [], 0⟩ [.blk 0, .code r15_0] (Fin [(2, none)] 0 (.bool r0) [])
  | [], done, acc, n, i, h1, h2, h3, h4, h5, h6 => by
    subst h1
    simp at h3
    refine hd_of (by unfold l15_0; rfl) ?_
    simp only [largeB] at h6
    rw [h6]
    (simp (maxSteps := 2000000) (disch := omega) only [r15_0, go_sem]) <;> repeat' (first | ((first | refine gd_dec ?_ ?_ | refine gd_ndec ?_ ?_ | refine cd_dec ?_ ?_ | refine cd_ndec ?_ ?_ | refine gdd_dec ?_ ?_ | refine gdd_ndec ?_ ?_ | refine gd_of ?_ ?_ | refine cd_of ?_ ?_ | refine gdd_of ?_ ?_) <;> intro hg <;> first | (exfalso; omega) | (simp (maxSteps := 2000000) (disch := omega) only [hg, r15_0, go_sem])) | (refine And.intro ?_ ?_; focus omega) | omega)
  | e :: rest, done, acc, n, i, h1, h2, h3, h4, h5, h6 => by
    have hg0 : t[i.toNat]? = some e := by
      rw [h1]
      simp [h2]
    have hl : i.toNat < t.length := by rw [h1]; simp; omega
    obtain ⟨l1, l2, l3⟩ := hq e (by simp [h1])
    unfold largeB at h6
    refine hd_of (by unfold l15_0; rfl) ?_
    by_cases hc : 65536 < acc + (512 + (e.data.l.length : Int) + e.path.length + e.link.length)
    · rw [if_pos hc] at h6
      rw [h6]
      (simp (maxSteps := 2000000) (disch := omega) only [hg0, lp_head, go_sem]) <;> repeat' (first | ((first | refine gd_dec ?_ ?_ | refine gd_ndec ?_ ?_ | refine cd_dec ?_ ?_ | refine cd_ndec ?_ ?_ | refine gdd_dec ?_ ?_ | refine gdd_ndec ?_ ?_ | refine gd_of ?_ ?_ | refine cd_of ?_ ?_ | refine gdd_of ?_ ?_) <;> intro hg <;> first | (exfalso; omega) | (simp (maxSteps := 2000000) (disch := omega) only [hg, hg0, lp_head, go_sem])) | (refine And.intro ?_ ?_; focus omega) | omega)
    · rw [if_neg hc] at h6
      have ih := h15 c tmp t ht hq r0 rest (done ++ [e]) (acc + (512 + (e.data.l.length : Int) + e.path.length + e.link.length)) n (i + 1) (by simp [h1]) (by first | omega | (simp; omega) | (simp; done)) h3 (by omega) (by omega) h6
      (simp (maxSteps := 2000000) (disch := omega) only [hg0, lp_head, go_sem]) <;> repeat' (first | ((first | refine gd_dec ?_ ?_ | refine gd_ndec ?_ ?_ | refine cd_dec ?_ ?_ | refine cd_ndec ?_ ?_ | refine gdd_dec ?_ ?_ | refine gdd_ndec ?_ ?_ | refine gd_of ?_ ?_ | refine cd_of ?_ ?_ | refine gdd_of ?_ ?_) <;> intro hg <;> first | (exfalso; omega) | (simp (maxSteps := 2000000) (disch := omega) only [hg, hg0, lp_head, go_sem])) | (refine And.intro ?_ ?_; focus omega) | omega)
theorem s15 (c tmp : Bool) (t : List Ent) (ht : t.length ≤ 140737488351232) (hq : ∀ e ∈ t, EntL e) : callT AA 15 [.view 8 (t.map Ent.av) c tmp] [] = some (.bool (largeB 0 t), []) := by
  have hh := h15 c tmp t ht hq (largeB 0 t) t [] 0 t.length 0 rfl rfl rfl (by omega) (by omega) rfl
  refine enter fn15 np15 rfl ?_
  (simp (maxSteps := 2000000) (disch := omega) only [b15, lp_head, go_sem]) <;> repeat' (first | ((first | refine gd_dec ?_ ?_ | refine gd_ndec ?_ ?_ | refine cd_dec ?_ ?_ | refine cd_ndec ?_ ?_ | refine gdd_dec ?_ ?_ | refine gdd_ndec ?_ ?_ | refine gd_of ?_ ?_ | refine cd_of ?_ ?_ | refine gdd_of ?_ ?_) <;> intro hg <;> first | (exfalso; omega) | (simp (maxSteps := 2000000) (disch := omega) only [hg, b15, lp_head, go_sem])) | (refine And.intro ?_ ?_; focus omega) | omega)
theorem s15n : callT AA 15 [.lit (.slice none 0 0)] [] = some (.bool false, []) := by
  refine enter fn15 np15 rfl ?_
  (simp (maxSteps := 2000000) (disch := omega) only [b15, lp_head, go_sem]) <;> repeat' (first | ((first | refine gd_dec ?_ ?_ | refine gd_ndec ?_ ?_ | refine cd_dec ?_ ?_ | refine cd_ndec ?_ ?_ | refine gdd_dec ?_ ?_ | refine gdd_ndec ?_ ?_ | refine gd_of ?_ ?_ | refine cd_of ?_ ?_ | refine gdd_of ?_ ?_) <;> intro hg <;> first | (exfalso; omega) | (simp (maxSteps := 2000000) (disch := omega) only [hg, b15, lp_head, go_sem])) | (refine And.intro ?_ ?_; focus omega) | omega)
  refine hd_of (by unfold l15_0; rfl) ?_
  (simp (maxSteps := 2000000) (disch := omega) only [r15_0, go_sem]) <;> repeat' (first | ((first | refine gd_dec ?_ ?_ | refine gd_ndec ?_ ?_ | refine cd_dec ?_ ?_ | refine cd_ndec ?_ ?_ | refine gdd_dec ?_ ?_ | refine gdd_ndec ?_ ?_ | refine gd_of ?_ ?_ | refine cd_of ?_ ?_ | refine gdd_of ?_ ?_) <;> intro hg <;> first | (exfalso; omega) | (simp (maxSteps := 2000000) (disch := omega) only [hg, r15_0, go_sem])) | (refine And.intro ?_ ?_; focus omega) | omega)
/-! ## rows of records -/
inductive RS where
  | nil
  | mk (clip tmp : Bool) (l : List Rcd)
namespace RS
def av : RS → AVal
  | .nil => .lit (.slice none 0 0)
  | .mk c t l => .view 2 (l.map Rcd.av) c t
def l : RS → List Rcd
  | .nil => []
  | .mk _ _ l => l
def isTmp : RS → Bool
  | .nil => false
  | .mk _ t _ => t
end RS
section
variable {r : RS} {f : Nat → Option Nat} {h : Heap}
@[go_sem] theorem ids_rs : r.av.ids = [] := by cases r <;> rfl
@[go_sem] theorem ren_rs : r.av.ren f = r.av := by cases r <;> rfl
@[go_sem] theorem ownIds_rs : r.av.ownIds = [] := by cases r <;> rfl
@[go_sem] theorem lend_rs : r.av.lend h = some r.av := by cases r <;> rfl
@[go_sem] theorem cells_rs : r.av.cells = [r.av] := by cases r <;> rfl
@[go_sem] theorem leaf_rs : r.av.leaf = true := by cases r <;> rfl
@[go_sem] theorem noTmp_rs : r.av.noTmp = !r.isTmp := by cases r <;> rfl
@[go_sem] theorem lenV_rs : lenV r.av h = some (.int .i64 r.l.length, h) := by cases r <;> simp [lenV, RS.av, RS.l]
theorem xp_ixa_rs {k : IntKind} {i : Int} {K : AVal × Heap → Prop} : (∃ x, ixaV 2 r.av (.int k i) h = some x ∧ K x) ↔ (0 ≤ i ∧ i.toNat < r.l.length) ∧ ∀ a, r.l[i.toNat]? = some a → K (.rptr (Rcd.av a).cells r.isTmp, h) := by
  cases r with
  | nil =>
    simp only [RS.av, RS.l, List.length_nil, Nat.not_lt_zero, and_false, false_and, iff_false]
    rintro ⟨x, h1, _⟩
    unfold ixaV at h1
    simp at h1
  | mk clip tmp l =>
    simp only [RS.av, RS.l, xp_ixa_map, true_and, RS.isTmp]
@[go_sem] theorem op_ixa_rs {A : AProg} {m n nid : Nat} {d : Option Nat} {env : List AVal} {S : List Frame} {F : FinP} {ops : List AOper} {k : IntKind} {i : Int} : OP A m (ixaV 2 r.av (.int k i) h) d ops nid env n S F ↔ (0 ≤ i ∧ i.toNat < r.l.length) ∧ ∀ a, r.l[i.toNat]? = some a → RN A m ops (nid + stride) (setAt d (.rptr (Rcd.av a).cells r.isTmp) env) h n S F := xp_ixa_rs
end
/-! ## Find -/
def findR (key : List UInt8) : List Rcd → List UInt8 × Bool
  | [] => ([], false)
  | r :: rs => if r.key = key then (r.value, true) else findR key rs
theorem h80 (rs : RS) (key : List UInt8) (ht : rs.l.length ≤ 1000000) (r0 : List UInt8 × Bool) : ∀ (rest done : List Rcd) (n i : Int), rs.l = done ++ rest → i = done.length → n = rs.l.length → r0 = findR key rest →
    HD AA 0 [1, 4, 5, 8, 9, 10] l80_0 ⟨[.junk, .str key, .junk, .junk, .str [], .bool false, .junk, .junk, rs.av, .int .i64 n, .int .i64 i, .junk, .junk, .junk, .junk, .junk, .junk, .junk, .junk, .junk, .junk], [], 0⟩ [.blk 0, .code r80_0] (Fin [(4, none), (5, none)] 0 (.tuple [.str r0.1, .bool r0.2]) [])
  | [], done, n, i, h1, h2, h3, h4 => by
    have hl : rs.l.length = done.length := by rw [h1]; simp
    refine hd_of (by unfold l80_0; rfl) ?_
    simp only [findR] at h4
    rw [h4]
    (simp (maxSteps := 2000000) (disch := omega) only [r80_0, go_sem]) <;> repeat' (first | ((first | refine gd_dec ?_ ?_ | refine gd_ndec ?_ ?_ | refine cd_dec ?_ ?_ | refine cd_ndec ?_ ?_ | refine gdd_dec ?_ ?_ | refine gdd_ndec ?_ ?_ | refine gd_of ?_ ?_ | refine cd_of ?_ ?_ | refine gdd_of ?_ ?_) <;> intro hg <;> first | (exfalso; omega) | (simp (maxSteps := 2000000) (disch := omega) only [hg, r80_0, go_sem])) | (refine And.intro ?_ ?_; focus omega) | omega)
  | r :: rest, done, n, i, h1, h2, h3, h4 => by
    have hg0 : rs.l[i.toNat]? = some r := by
      rw [h1]
      simp [h2]
    have hl : i.toNat < rs.l.length := by rw [h1]; simp; omega
    unfold findR at h4
    refine hd_of (by unfold l80_0; rfl) ?_
    by_cases hc : r.key = key
    · rw [if_pos hc] at h4
      rw [h4]
      (simp (maxSteps := 2000000) (disch := omega) only [hg0, decide_eq_true hc, lp_head, go_sem]) <;> repeat' (first | ((first | refine gd_dec ?_ ?_ | refine gd_ndec ?_ ?_ | refine cd_dec ?_ ?_ | refine cd_ndec ?_ ?_ | refine gdd_dec ?_ ?_ | refine gdd_ndec ?_ ?_ | refine gd_of ?_ ?_ | refine cd_of ?_ ?_ | refine gdd_of ?_ ?_) <;> intro hg <;> first | (exfalso; omega) | (simp (maxSteps := 2000000) (disch := omega) only [hg, hg0, decide_eq_true hc, lp_head, go_sem])) | (refine And.intro ?_ ?_; focus omega) | omega)
    · rw [if_neg hc] at h4
      have ih := h80 rs key ht r0 rest (done ++ [r]) n (i + 1) (by simp [h1]) (by first | omega | (simp; omega) | (simp; done)) h3 h4
      (simp (maxSteps := 2000000) (disch := omega) only [hg0, decide_eq_false hc, lp_head, go_sem]) <;> repeat' (first | ((first | refine gd_dec ?_ ?_ | refine gd_ndec ?_ ?_ | refine cd_dec ?_ ?_ | refine cd_ndec ?_ ?_ | refine gdd_dec ?_ ?_ | refine gdd_ndec ?_ ?_ | refine gd_of ?_ ?_ | refine cd_of ?_ ?_ | refine gdd_of ?_ ?_) <;> intro hg <;> first | (exfalso; omega) | (simp (maxSteps := 2000000) (disch := omega) only [hg, hg0, decide_eq_false hc, lp_head, go_sem])) | (refine And.intro ?_ ?_; focus omega) | omega)
theorem s80 (rs : RS) (key : List UInt8) (ht : rs.l.length ≤ 1000000) : callT AA 80 [rs.av, .str key] [] = some (.tuple [.str (findR key rs.l).1, .bool (findR key rs.l).2], []) := by
  have hh := h80 rs key ht (findR key rs.l) rs.l [] rs.l.length 0 rfl rfl rfl rfl
  refine enter fn80 np80 rfl ?_
  (simp (maxSteps := 2000000) (disch := omega) only [b80, lp_head, go_sem]) <;> repeat' (first | ((first | refine gd_dec ?_ ?_ | refine gd_ndec ?_ ?_ | refine cd_dec ?_ ?_ | refine cd_ndec ?_ ?_ | refine gdd_dec ?_ ?_ | refine gdd_ndec ?_ ?_ | refine gd_of ?_ ?_ | refine cd_of ?_ ?_ | refine gdd_of ?_ ?_) <;> intro hg <;> first | (exfalso; omega) | (simp (maxSteps := 2000000) (disch := omega) only [hg, b80, lp_head, go_sem])) | (refine And.intro ?_ ?_; focus omega) | omega)
/-! ## field -/
def fieldR (fits same : Bool) (rs : List Rcd) (key value : List UInt8) : Bool := if fits = true then same && !(findR key rs).2 else (findR key rs).2 && decide ((findR key rs).1 = value)
theorem s72 (rs : RS) (ht : rs.l.length ≤ 1000000) (fits same : Bool) (key value : List UInt8) : callT AA 72 [.bool fits, .bool same, rs.av, .str key, .str value] [] = some (.bool (fieldR fits same rs.l key value), []) := by
  have h := s80 rs key ht
  refine enter fn72 np72 rfl ?_
  unfold fieldR
  generalize findR key rs.l = R at *
  obtain ⟨v, ok⟩ := R
  simp only at h ⊢
  cases fits <;> cases same <;> cases ok
  all_goals (simp (maxSteps := 2000000) (disch := omega) only [b72, h, go_sem]) <;> repeat' (first | ((first | refine gd_dec ?_ ?_ | refine gd_ndec ?_ ?_ | refine cd_dec ?_ ?_ | refine cd_ndec ?_ ?_ | refine gdd_dec ?_ ?_ | refine gdd_ndec ?_ ?_ | refine gd_of ?_ ?_ | refine cd_of ?_ ?_ | refine gdd_of ?_ ?_) <;> intro hg <;> first | (exfalso; omega) | (simp (maxSteps := 2000000) (disch := omega) only [hg, b72, h, go_sem])) | (refine And.intro ?_ ?_; focus omega) | omega)
/-! ## Decimal -/
theorem bytesOf_one {x : Int} : bytesOf [.int .u8 x] = some [UInt8.ofNat x.toNat] := rfl
theorem dec_small {n : Int} (h0 : 0 ≤ n) (h : n < 10) : Lib.decDigits n.toNat = [UInt8.ofNat (48 + n % 10).toNat] := by
  rw [Lib.decDigits, dif_pos (by omega)]
  congr 2
  omega
theorem dec_big {n : Int} (h0 : 0 ≤ n) (h : ¬ n < 10) : Lib.decDigits n.toNat = Lib.decDigits (n / 10).toNat ++ [UInt8.ofNat (48 + n % 10).toNat] := by
  rw [Lib.decDigits, dif_neg (by omega)]
  have e1 : n.toNat / 10 = (n / 10).toNat := by omega
  have e2 : 48 + n.toNat % 10 = (48 + n % 10).toNat := by omega
  rw [e1, e2]
theorem h47 (neg : Bool) (r0 : List UInt8) : ∀ (k : Nat) (n : Int) (s : List UInt8), 0 ≤ n → n < 10 ^ k → n ≤ 9223372036854775807 → s.length + k ≤ 20 → (s = [] ∨ 0 < n → r0 = (if neg then [45] else []) ++ (Lib.decDigits n.toNat ++ s)) → (s ≠ [] → n = 0 → r0 = (if neg then [45] else []) ++ s) → (s = [] → 0 < k) →
    HD AA 0 [0, 2, 3, 4] l47_0 ⟨[.int .i64 n, .junk, .str [], .str s, .bool neg, .junk, .junk, .junk, .junk, .junk, .junk, .junk, .junk, .junk, .junk, .junk, .junk, .junk, .junk, .junk, .junk, .junk, .junk, .junk, .junk, .junk, .junk, .junk, .junk, .junk, .junk, .junk], [], 0⟩ [.blk 0, .code r47_0] (Fin [(2, none)] 0 (.str r0) [])
  | k, n, s, h0, h1, h1', h2, h3, h4, h5 => by
    by_cases hs : s = [] ∨ 0 < n
    · have hk : 0 < k := by
        rcases hs with hs | hs
        · exact h5 hs
        · rcases Nat.eq_zero_or_pos k with hk | hk
          · rw [hk] at h1
            simp at h1
            omega
          · exact hk
      obtain ⟨k, rfl⟩ : ∃ j, k = j + 1 := ⟨k - 1, by omega⟩
      have e1 : n.tmod 10 = n % 10 := Int.tmod_eq_emod_of_nonneg h0
      have e2 : n.tdiv 10 = n / 10 := Int.tdiv_eq_ediv_of_nonneg h0
      have hr := h3 hs
      have hp : n / 10 < 10 ^ k := by
        rw [Int.pow_succ] at h1
        omega
      have ih := h47 neg r0 k (n / 10) (UInt8.ofNat (48 + n % 10).toNat :: s) (by omega) hp (by omega) (by simp; omega) (fun h => by
        have hb : ¬ n < 10 := by
          rcases h with h | h
          · cases h
          · omega
        rw [hr, dec_big h0 hb]
        simp) (fun _ h => by
        rw [hr, dec_small h0 (by omega)]
        simp) (fun h => by cases h)
      refine hd_of (by unfold l47_0; rfl) ?_
      by_cases hse : s = []
      · (simp (maxSteps := 2000000) (disch := omega) only [decide_eq_true hse, e1, e2, bytesOf_one, lp_head, go_sem]) <;> repeat' (first | ((first | refine gd_dec ?_ ?_ | refine gd_ndec ?_ ?_ | refine cd_dec ?_ ?_ | refine cd_ndec ?_ ?_ | refine gdd_dec ?_ ?_ | refine gdd_ndec ?_ ?_ | refine gd_of ?_ ?_ | refine cd_of ?_ ?_ | refine gdd_of ?_ ?_) <;> intro hg <;> first | (exfalso; omega) | (simp (maxSteps := 2000000) (disch := omega) only [hg, decide_eq_true hse, e1, e2, bytesOf_one, lp_head, go_sem])) | (refine And.intro ?_ ?_; focus omega) | omega)
      · have hn : 0 < n := by
          rcases hs with hs | hs
          · exact (hse hs).elim
          · exact hs
        (simp (maxSteps := 2000000) (disch := omega) only [decide_eq_false hse, e1, e2, bytesOf_one, lp_head, go_sem]) <;> repeat' (first | ((first | refine gd_dec ?_ ?_ | refine gd_ndec ?_ ?_ | refine cd_dec ?_ ?_ | refine cd_ndec ?_ ?_ | refine gdd_dec ?_ ?_ | refine gdd_ndec ?_ ?_ | refine gd_of ?_ ?_ | refine cd_of ?_ ?_ | refine gdd_of ?_ ?_) <;> intro hg <;> first | (exfalso; omega) | (simp (maxSteps := 2000000) (disch := omega) only [hg, decide_eq_false hse, e1, e2, bytesOf_one, lp_head, go_sem])) | (refine And.intro ?_ ?_; focus omega) | omega)
    · have hs1 : s ≠ [] := fun h => hs (.inl h)
      have hn : n = 0 := by
        have : ¬ 0 < n := fun h => hs (.inr h)
        omega
      have hr := h4 hs1 hn
      subst hn
      refine hd_of (by unfold l47_0; rfl) ?_
      cases neg
      · rw [hr]
        (simp (maxSteps := 2000000) (disch := omega) only [decide_eq_false hs1, r47_0, go_sem]) <;> repeat' (first | ((first | refine gd_dec ?_ ?_ | refine gd_ndec ?_ ?_ | refine cd_dec ?_ ?_ | refine cd_ndec ?_ ?_ | refine gdd_dec ?_ ?_ | refine gdd_ndec ?_ ?_ | refine gd_of ?_ ?_ | refine cd_of ?_ ?_ | refine gdd_of ?_ ?_) <;> intro hg <;> first | (exfalso; omega) | (simp (maxSteps := 2000000) (disch := omega) only [hg, decide_eq_false hs1, r47_0, go_sem])) | (refine And.intro ?_ ?_; focus omega) | omega)
        all_goals simp
      · rw [hr]
        (simp (maxSteps := 2000000) (disch := omega) only [decide_eq_false hs1, r47_0, go_sem]) <;> repeat' (first | ((first | refine gd_dec ?_ ?_ | refine gd_ndec ?_ ?_ | refine cd_dec ?_ ?_ | refine cd_ndec ?_ ?_ | refine gdd_dec ?_ ?_ | refine gdd_ndec ?_ ?_ | refine gd_of ?_ ?_ | refine cd_of ?_ ?_ | refine gdd_of ?_ ?_) <;> intro hg <;> first | (exfalso; omega) | (simp (maxSteps := 2000000) (disch := omega) only [hg, decide_eq_false hs1, r47_0, go_sem])) | (refine And.intro ?_ ?_; focus omega) | omega)
        all_goals simp
theorem itoa_min : Lib.itoa (-9223372036854775808) = [45, 57, 50, 50, 51, 51, 55, 50, 48, 51, 54, 56, 53, 52, 55, 55, 53, 56, 48, 56] := by
  have h : (-9223372036854775808 : Int).natAbs = 9223372036854775808 := rfl
  unfold Lib.itoa
  rw [if_pos (by omega), h]
  simp [Lib.decDigits]
theorem s47 (n : Int) (h1 : -9223372036854775808 ≤ n) (h2 : n ≤ 9223372036854775807) : callT AA 47 [.int .i64 n] [] = some (.str (Lib.itoa n), []) := by
  refine enter fn47 np47 rfl ?_
  by_cases hm : n = -9223372036854775808
  · subst hm
    rw [itoa_min]
    (simp (maxSteps := 2000000) (disch := omega) only [b47, go_sem]) <;> repeat' (first | ((first | refine gd_dec ?_ ?_ | refine gd_ndec ?_ ?_ | refine cd_dec ?_ ?_ | refine cd_ndec ?_ ?_ | refine gdd_dec ?_ ?_ | refine gdd_ndec ?_ ?_ | refine gd_of ?_ ?_ | refine cd_of ?_ ?_ | refine gdd_of ?_ ?_) <;> intro hg <;> first | (exfalso; omega) | (simp (maxSteps := 2000000) (disch := omega) only [hg, b47, go_sem])) | (refine And.intro ?_ ?_; focus omega) | omega)
  by_cases hn : n < 0
  · have hh := h47 true (Lib.itoa n) 19 (-n) [] (by omega) (by omega) (by omega) (by simp) (fun _ => by
      unfold Lib.itoa
      rw [if_pos hn]
      have e : n.natAbs = (-n).toNat := by omega
      rw [e]
      simp) (fun h => (h rfl).elim) (fun _ => by omega)
    have e : 0 - n = -n := by omega
    (simp (maxSteps := 2000000) (disch := omega) only [b47, e, lp_head, go_sem]) <;> repeat' (first | ((first | refine gd_dec ?_ ?_ | refine gd_ndec ?_ ?_ | refine cd_dec ?_ ?_ | refine cd_ndec ?_ ?_ | refine gdd_dec ?_ ?_ | refine gdd_ndec ?_ ?_ | refine gd_of ?_ ?_ | refine cd_of ?_ ?_ | refine gdd_of ?_ ?_) <;> intro hg <;> first | (exfalso; omega) | (simp (maxSteps := 2000000) (disch := omega) only [hg, b47, e, lp_head, go_sem])) | (refine And.intro ?_ ?_; focus omega) | omega)
  · have hh := h47 false (Lib.itoa n) 19 n [] (by omega) (by omega) (by omega) (by simp) (fun _ => by
      unfold Lib.itoa
      rw [if_neg hn]
      simp) (fun h => (h rfl).elim) (fun _ => by omega)
    (simp (maxSteps := 2000000) (disch := omega) only [b47, lp_head, go_sem]) <;> repeat' (first | ((first | refine gd_dec ?_ ?_ | refine gd_ndec ?_ ?_ | refine cd_dec ?_ ?_ | refine cd_ndec ?_ ?_ | refine gdd_dec ?_ ?_ | refine gdd_ndec ?_ ?_ | refine gd_of ?_ ?_ | refine cd_of ?_ ?_ | refine gdd_of ?_ ?_) <;> intro hg <;> first | (exfalso; omega) | (simp (maxSteps := 2000000) (disch := omega) only [hg, b47, lp_head, go_sem])) | (refine And.intro ?_ ?_; focus omega) | omega)
end Go.Abs
/- SYMBOLIC EVALUATION: drawn regions in which nothing is written and nothing made: their order does not matter. -/
namespace Go.Abs
section
variable {A : AProg} {m nid n : Nat} {d : Option Nat} {env : List AVal} {h h' : Heap} {st : ASt} {S : List Frame} {F : FinP} {ops : List AOper} {v : AVal} {op : AOp} {ps : List (Nat × Nat)} {base : Nat} {fs : List Foot} {f : Foot}
def RZ (A : AProg) (m base : Nat) (ops : List AOper) (nid : Nat) (env : List AVal) (h : Heap) (n : Nat) (S : List Frame) (F : FinP) : Prop :=
  FeetT A ops nid ⟨env, h, n⟩ fun fs st => (∀ f ∈ fs, f.wr = [] ∧ ∀ id ∈ f.rd, id < base) ∧ toK A m F S .norm st
def OZ (A : AProg) (m base : Nat) (f : Foot) (x : Option (AVal × Heap)) (d : Option Nat) (ops : List AOper) (nid : Nat) (env : List AVal) (n : Nat) (S : List Frame) (F : FinP) : Prop :=
  (f.wr = [] ∧ f.rd.all (fun id => decide (id < base)) = true) ∧ ∃ r, x = some r ∧ RZ A m base ops (nid + stride) (setAt d r.1 env) r.2 n S F
def GZ (A : AProg) (m base : Nat) (v : AVal) (want : Bool) (d : Option Nat) (op : AOp) (ops : List AOper) (nid : Nat) (env : List AVal) (h : Heap) (n : Nat) (S : List Frame) (F : FinP) : Prop := match v with
  | .bool b => (b = want → RZ A m base (⟨d, op, none⟩ :: ops) nid env h n S F) ∧ (b ≠ want → RZ A m base ops (nid + stride) (setAt d .undef env) h n S F)
  | .lit (.tuple _) => RZ A m base ops (nid + stride) (setAt d .undef env) h n S F
  | _ => False
theorem ownB_below {base i id : Nat} (h : id < base) : ownB base i id = false := by
  unfold ownB
  have : ¬ base + i * stride ≤ id := by omega
  simp [this]
theorem indep_read {p : Nat × Nat} (h : ∀ f ∈ fs, f.wr = [] ∧ ∀ id ∈ f.rd, id < base) : indepB base fs p = true := by
  have hg : ∀ k, (fs.getD k ⟨[], []⟩).wr = [] ∧ ∀ id ∈ (fs.getD k ⟨[], []⟩).rd, id < base := by
    intro k
    rw [List.getD]
    cases hk : fs[k]? with
    | none => exact ⟨rfl, by intro id hid; cases hid⟩
    | some f => exact h f (List.mem_of_getElem? hk)
  unfold indepB
  simp only [(hg p.1).1, (hg p.2).1, List.all_nil, Bool.true_and, Bool.and_eq_true, List.all_eq_true]
  refine ⟨fun id hid => ?_, fun id hid => ?_⟩
  · rw [ownB_below ((hg p.2).2 id hid)]; rfl
  · rw [ownB_below ((hg p.1).2 id hid)]; rfl
theorem ex_drawz (hz : RZ A m n ops n env h n S F) : EX A m (.reg true ps ops) ⟨env, h, n⟩ S F := by
  rw [ex_draw]
  unfold RD
  unfold RZ at hz
  obtain ⟨st', fs, h1, h2, h3⟩ := hz
  refine ⟨st', fs, h1, ?_, h3⟩
  rw [List.nil_append, List.all_eq_true]
  exact fun p _ => indep_read h2
@[go_sem] theorem rz_nil : RZ A m base [] nid env h n S F ↔ RT A m .norm ⟨env, h, nid⟩ S F := by
  unfold RZ
  rw [feetT_nil]
  simp [RT]
theorem rz_step {o : AOper} {x : Option ASt} (hx : stepOp A.C o nid ⟨env, h, n⟩ = x) : RZ A m base (o :: ops) nid env h n S F ↔ ((footOf A.C o ⟨env, h, n⟩).wr = [] ∧ ∀ id ∈ (footOf A.C o ⟨env, h, n⟩).rd, id < base) ∧ ∃ st1, x = some st1 ∧ RZ A m base ops (nid + stride) st1.env st1.heap st1.next S F := by
  unfold RZ
  rw [feet_step hx]
  constructor
  · rintro ⟨st1, h1, st', fs, h2, h3, h4⟩
    exact ⟨h3 _ (by simp), st1, h1, st', fs, h2, fun f hf => h3 f (by simp [hf]), h4⟩
  · rintro ⟨h0, st1, h1, st', fs, h2, h3, h4⟩
    refine ⟨st1, h1, st', fs, h2, fun f hf => ?_, h4⟩
    rcases List.mem_cons.1 hf with rfl | hf
    · exact h0
    · exact h3 f hf
@[go_sem] theorem rz_op : RZ A m base (⟨d, op, none⟩ :: ops) nid env h n S F ↔ OZ A m base (ftp A op env h) (stp A op env nid h) d ops nid env n S F := by
  unfold OZ
  rw [rz_step step_stp, foot_ftp]
  simp only [List.all_eq_true, decide_eq_true_eq]
  cases stp A op env nid h with
  | none => simp
  | some r => simp
@[go_sem] theorem rz_guard {g : Nat} {want : Bool} : RZ A m base (⟨d, op, some (g, want)⟩ :: ops) nid env h n S F ↔ GZ A m base (env.getD g .junk) want d op ops nid env h n S F := by
  rw [rz_step (step_guard (A := A) (g := g) (want := want))]
  have hf : footOf A.C ⟨d, op, some (g, want)⟩ ⟨env, h, n⟩ = match env.getD g .junk with
    | .bool b => if b = want then footOf A.C ⟨d, op, none⟩ ⟨env, h, n⟩ else ⟨[], []⟩
    | _ => ⟨[], []⟩ := rfl
  rw [hf]
  unfold GZ
  generalize env.getD g .junk = v
  cases v with
  | bool b =>
    simp only
    by_cases hw : b = want
    · subst hw
      simp only [if_true]
      constructor
      · rintro ⟨h0, st1, h1, h2⟩
        exact ⟨fun _ => (rz_step rfl).2 ⟨h0, st1, h1, h2⟩, fun h => (h rfl).elim⟩
      · rintro ⟨h1, _⟩
        exact (rz_step rfl).1 (h1 trivial)
    · rw [if_neg hw, if_neg hw]
      constructor
      · rintro ⟨_, st1, h1, h2⟩
        simp only [Option.some.injEq] at h1
        subst h1
        exact ⟨fun h => (hw h).elim, fun _ => h2⟩
      · rintro ⟨_, h2⟩
        exact ⟨⟨rfl, by intro id hid; cases hid⟩, _, rfl, h2 hw⟩
  | lit v =>
    cases v with
    | tuple vs => simp
    | _ => simp
  | _ => simp
@[go_sem] theorem oz_some {r : AVal × Heap} : OZ A m base f (some r) d ops nid env n S F ↔ (f.wr = [] ∧ f.rd.all (fun id => decide (id < base)) = true) ∧ RZ A m base ops (nid + stride) (setAt d r.1 env) r.2 n S F := by simp [OZ]
@[go_sem] theorem oz_ite {c : Prop} [Decidable c] {x : Option (AVal × Heap)} : OZ A m base f (if c then x else none) d ops nid env n S F ↔ c ∧ OZ A m base f x d ops nid env n S F := by
  by_cases h : c <;> simp [OZ, h]
@[go_sem] theorem oz_ite' {c : Prop} [Decidable c] {x : Option (AVal × Heap)} : OZ A m base f (if c then none else x) d ops nid env n S F ↔ ¬ c ∧ OZ A m base f x d ops nid env n S F := by
  by_cases h : c <;> simp [OZ, h]
@[go_sem] theorem gz_true_true : GZ A m base (.bool true) true d op ops nid env h n S F ↔ RZ A m base (⟨d, op, none⟩ :: ops) nid env h n S F := by simp [GZ]
@[go_sem] theorem gz_false_false : GZ A m base (.bool false) false d op ops nid env h n S F ↔ RZ A m base (⟨d, op, none⟩ :: ops) nid env h n S F := by simp [GZ]
@[go_sem] theorem gz_true_false : GZ A m base (.bool true) false d op ops nid env h n S F ↔ RZ A m base ops (nid + stride) (setAt d .undef env) h n S F := by simp [GZ]
@[go_sem] theorem gz_false_true : GZ A m base (.bool false) true d op ops nid env h n S F ↔ RZ A m base ops (nid + stride) (setAt d .undef env) h n S F := by simp [GZ]
@[go_sem] theorem gz_undef {want : Bool} : GZ A m base (.lit Go.undef) want d op ops nid env h n S F ↔ RZ A m base ops (nid + stride) (setAt d .undef env) h n S F := Iff.rfl
@[go_sem] theorem foot_wr {a b : List Nat} : Foot.wr ⟨a, b⟩ = b := rfl
@[go_sem] theorem foot_rd {a b : List Nat} : Foot.rd ⟨a, b⟩ = a := rfl
end
end Go.Abs
/- THE LAWS' OWN FUNCTIONS: says. -/
namespace Go.Abs
open Am
set_option maxRecDepth 10000
set_option linter.unusedSimpArgs false
def Key5 (k : List UInt8) : Prop := k = [103, 105, 100] ∨ k = [108, 105, 110, 107, 112, 97, 116, 104] ∨ k = [109, 116, 105, 109, 101] ∨ k = [112, 97, 116, 104] ∨ k = [117, 105, 100]
/-- do a header and records say the entry? -/
structure SaysOk (H : Hd) (rs : List Rcd) (e : Ent) : Prop where
  mode : H.mode = e.mode
  keys : ∀ r ∈ rs, Key5 r.key
  kind : (e.kind = 1 ∧ H.type = 53) ∨ (e.kind = 2 ∧ H.type = 48) ∨ (e.kind = 3 ∧ H.type = 50) ∨ (e.kind = 4 ∧ H.type = 49)
  path : fieldR (splitN e.path).2.2 (decide (H.path = e.path)) rs [112, 97, 116, 104] e.path = true
  link0 : e.link = [] → fieldR true (decide (H.link = e.link)) rs [108, 105, 110, 107, 112, 97, 116, 104] e.link = true
  link1 : e.link ≠ [] → fieldR (linkB e.link) (decide (H.link = e.link)) rs [108, 105, 110, 107, 112, 97, 116, 104] e.link = true
  uid : fieldR (decide (e.uid < 2097152)) (decide (H.uid = e.uid)) rs [117, 105, 100] (Lib.itoa e.uid) = true
  gid : fieldR (decide (e.gid < 2097152)) (decide (H.gid = e.gid)) rs [103, 105, 100] (Lib.itoa e.gid) = true
  time0 : 0 ≤ e.time → fieldR (decide (e.time < 8589934592)) (decide (H.time = e.time)) rs [109, 116, 105, 109, 101] (Lib.itoa e.time) = true
  time1 : ¬ 0 ≤ e.time → fieldR false (decide (H.time = e.time)) rs [109, 116, 105, 109, 101] (Lib.itoa e.time) = true
def p36 : ACode := (.seq (.reg true [(0, 2), (6, 8), (7, 8), (5, 9), (6, 9), (7, 9), (6, 10), (7, 10), (9, 10), (5, 11), (6, 11), (7, 11), (8, 11), (9, 11), (6, 12), (7, 12), (6, 13), (7, 13), (9, 13), (11, 13), (6, 14), (7, 14), (9, 14), (11, 14), (5, 15), (6, 15), (7, 15), (8, 15), (9, 15), (10, 15), (11, 15), (12, 15), (13, 15), (20, 27), (24, 27), (25, 27), (19, 28), (20, 28), (21, 28), (22, 28), (23, 28), (24, 28), (25, 28), (26, 28), (20, 29), (24, 29), (25, 29), (28, 29), (19, 30), (20, 30), (21, 30), (22, 30), (23, 30), (24, 30), (25, 30), (26, 30), (27, 30), (28, 30), (20, 31), (24, 31), (25, 31), (20, 32), (24, 32), (25, 32), (28, 32), (30, 32), (20, 33), (24, 33), (25, 33), (28, 33), (30, 33), (19, 34), (20, 34), (21, 34), (22, 34), (23, 34), (24, 34), (25, 34), (26, 34), (27, 34), (28, 34), (29, 34), (30, 34), (31, 34), (32, 34), (39, 41), (38, 42), (39, 42), (40, 42), (39, 43), (42, 43), (38, 44), (39, 44), (40, 44), (41, 44), (42, 44), (39, 45), (39, 46), (42, 46), (44, 46), (39, 47), (42, 47), (44, 47), (38, 48), (39, 48), (40, 48), (41, 48), (42, 48), (43, 48), (44, 48), (45, 48), (46, 48), (38, 49), (39, 49), (40, 49), (41, 49), (42, 49), (43, 49), (44, 49), (45, 49), (46, 49), (54, 56), (53, 57), (54, 57), (55, 57), (54, 58), (57, 58), (53, 59), (54, 59), (55, 59), (56, 59), (57, 59), (54, 60), (54, 61), (57, 61), (59, 61), (54, 62), (57, 62), (59, 62), (53, 63), (54, 63), (55, 63), (56, 63), (57, 63), (58, 63), (59, 63), (60, 63), (61, 63), (53, 64), (54, 64), (55, 64), (56, 64), (57, 64), (58, 64), (59, 64), (60, 64), (61, 64), (69, 76), (73, 76), (68, 77), (69, 77), (70, 77), (71, 77), (72, 77), (73, 77), (74, 77), (75, 77), (69, 78), (73, 78), (77, 78), (68, 79), (69, 79), (70, 79), (71, 79), (72, 79), (73, 79), (74, 79), (75, 79), (76, 79), (77, 79), (69, 80), (73, 80), (69, 81), (73, 81), (77, 81), (79, 81), (69, 82), (73, 82), (77, 82), (79, 82), (68, 83), (69, 83), (70, 83), (71, 83), (72, 83), (73, 83), (74, 83), (75, 83), (76, 83), (77, 83), (78, 83), (79, 83), (80, 83), (81, 83), (72, 84), (73, 84), (74, 84), (75, 84), (76, 84), (77, 84), (78, 84), (79, 84), (80, 84), (81, 84)] [⟨(some 65), (.mov (.t 11)), none⟩, ⟨(some 66), (.fa 1 (.t 7)), none⟩, ⟨(some 67), (.ld 1 false (.t 66)), none⟩, ⟨(some 68), (.bin .eql .other false (.t 65) (.t 67)), none⟩, ⟨(some 69), (.mov (.t 68)), none⟩, ⟨(some 70), (.fa 0 (.t 7)), (some (69, true))⟩, ⟨(some 71), (.ld 1 false (.t 70)), (some (69, true))⟩, ⟨(some 72), (.call (.c (.func (.func 44) [])) [(.t 71)]), (some (69, true))⟩, ⟨(some 73), (.fa 0 (.t 4)), (some (69, true))⟩, ⟨(some 74), (.ld 1 false (.t 73)), (some (69, true))⟩, ⟨(some 75), (.fa 0 (.t 7)), (some (69, true))⟩, ⟨(some 76), (.ld 1 false (.t 75)), (some (69, true))⟩, ⟨(some 77), (.bin .eql .other false (.t 74) (.t 76)), (some (69, true))⟩, ⟨(some 78), (.mov (.t 2)), (some (69, true))⟩, ⟨(some 79), (.fa 0 (.t 7)), (some (69, true))⟩, ⟨(some 80), (.ld 1 false (.t 79)), (some (69, true))⟩, ⟨(some 81), (.call (.c (.func (.func 72) [])) [(.t 72), (.t 77), (.t 78), (.c (.str [112, 97, 116, 104])), (.t 80)]), (some (69, true))⟩, ⟨(some 82), (.pick (.t 69) (.t 81) (.c (.bool false))), none⟩, ⟨(some 83), (.mov (.t 82)), none⟩, ⟨(some 84), (.fa 6 (.t 7)), (some (83, true))⟩, ⟨(some 85), (.ld 1 false (.t 84)), (some (83, true))⟩, ⟨(some 86), (.bin .eql .other true (.t 85) (.c (.str []))), (some (83, true))⟩, ⟨(some 87), (.mov (.t 86)), (some (83, true))⟩, ⟨(some 88), (.fa 6 (.t 7)), (some (87, false))⟩, ⟨(some 89), (.ld 1 false (.t 88)), (some (87, false))⟩, ⟨(some 90), (.call (.c (.func (.func 45) [])) [(.t 89)]), (some (87, false))⟩, ⟨(some 91), (.pick (.t 87) (.c (.bool true)) (.t 90)), (some (83, true))⟩, ⟨(some 92), (.fa 7 (.t 4)), (some (83, true))⟩, ⟨(some 93), (.ld 1 false (.t 92)), (some (83, true))⟩, ⟨(some 94), (.fa 6 (.t 7)), (some (83, true))⟩, ⟨(some 95), (.ld 1 false (.t 94)), (some (83, true))⟩, ⟨(some 96), (.bin .eql .other false (.t 93) (.t 95)), (some (83, true))⟩, ⟨(some 97), (.mov (.t 2)), (some (83, true))⟩, ⟨(some 98), (.fa 6 (.t 7)), (some (83, true))⟩, ⟨(some 99), (.ld 1 false (.t 98)), (some (83, true))⟩, ⟨(some 100), (.call (.c (.func (.func 72) [])) [(.t 91), (.t 96), (.t 97), (.c (.str [108, 105, 110, 107, 112, 97, 116, 104])), (.t 99)]), (some (83, true))⟩, ⟨(some 101), (.pick (.t 83) (.t 100) (.c (.bool false))), none⟩, ⟨(some 102), (.mov (.t 101)), none⟩, ⟨(some 103), (.fa 3 (.t 7)), (some (102, true))⟩, ⟨(some 104), (.ld 1 false (.t 103)), (some (102, true))⟩, ⟨(some 105), (.bin .lss .other true (.t 104) (.c (.int .i64 2097152))), (some (102, true))⟩, ⟨(some 106), (.fa 2 (.t 4)), (some (102, true))⟩, ⟨(some 107), (.ld 1 false (.t 106)), (some (102, true))⟩, ⟨(some 108), (.fa 3 (.t 7)), (some (102, true))⟩, ⟨(some 109), (.ld 1 false (.t 108)), (some (102, true))⟩, ⟨(some 110), (.bin .eql .other false (.t 107) (.t 109)), (some (102, true))⟩, ⟨(some 111), (.mov (.t 2)), (some (102, true))⟩, ⟨(some 112), (.fa 3 (.t 7)), (some (102, true))⟩, ⟨(some 113), (.ld 1 false (.t 112)), (some (102, true))⟩, ⟨(some 114), (.call (.c (.func (.func 47) [])) [(.t 113)]), (some (102, true))⟩, ⟨(some 115), (.call (.c (.func (.func 72) [])) [(.t 105), (.t 110), (.t 111), (.c (.str [117, 105, 100])), (.t 114)]), (some (102, true))⟩, ⟨(some 116), (.pick (.t 102) (.t 115) (.c (.bool false))), none⟩, ⟨(some 117), (.mov (.t 116)), none⟩, ⟨(some 118), (.fa 4 (.t 7)), (some (117, true))⟩, ⟨(some 119), (.ld 1 false (.t 118)), (some (117, true))⟩, ⟨(some 120), (.bin .lss .other true (.t 119) (.c (.int .i64 2097152))), (some (117, true))⟩, ⟨(some 121), (.fa 3 (.t 4)), (some (117, true))⟩, ⟨(some 122), (.ld 1 false (.t 121)), (some (117, true))⟩, ⟨(some 123), (.fa 4 (.t 7)), (some (117, true))⟩, ⟨(some 124), (.ld 1 false (.t 123)), (some (117, true))⟩, ⟨(some 125), (.bin .eql .other false (.t 122) (.t 124)), (some (117, true))⟩, ⟨(some 126), (.mov (.t 2)), (some (117, true))⟩, ⟨(some 127), (.fa 4 (.t 7)), (some (117, true))⟩, ⟨(some 128), (.ld 1 false (.t 127)), (some (117, true))⟩, ⟨(some 129), (.call (.c (.func (.func 47) [])) [(.t 128)]), (some (117, true))⟩, ⟨(some 130), (.call (.c (.func (.func 72) [])) [(.t 120), (.t 125), (.t 126), (.c (.str [103, 105, 100])), (.t 129)]), (some (117, true))⟩, ⟨(some 131), (.pick (.t 117) (.t 130) (.c (.bool false))), none⟩, ⟨(some 132), (.mov (.t 131)), none⟩, ⟨(some 133), (.fa 5 (.t 7)), (some (132, true))⟩, ⟨(some 134), (.ld 1 false (.t 133)), (some (132, true))⟩, ⟨(some 135), (.bin .geq .other true (.t 134) (.c (.int .i64 0))), (some (132, true))⟩, ⟨(some 136), (.mov (.t 135)), (some (132, true))⟩, ⟨(some 137), (.fa 5 (.t 7)), (some (136, true))⟩, ⟨(some 138), (.ld 1 false (.t 137)), (some (136, true))⟩, ⟨(some 139), (.bin .lss .other true (.t 138) (.c (.int .i64 8589934592))), (some (136, true))⟩, ⟨(some 140), (.pick (.t 136) (.t 139) (.c (.bool false))), (some (132, true))⟩, ⟨(some 141), (.fa 5 (.t 4)), (some (132, true))⟩, ⟨(some 142), (.ld 1 false (.t 141)), (some (132, true))⟩, ⟨(some 143), (.fa 5 (.t 7)), (some (132, true))⟩, ⟨(some 144), (.ld 1 false (.t 143)), (some (132, true))⟩, ⟨(some 145), (.bin .eql .other false (.t 142) (.t 144)), (some (132, true))⟩, ⟨(some 146), (.mov (.t 2)), (some (132, true))⟩, ⟨(some 147), (.fa 5 (.t 7)), (some (132, true))⟩, ⟨(some 148), (.ld 1 false (.t 147)), (some (132, true))⟩, ⟨(some 149), (.call (.c (.func (.func 47) [])) [(.t 148)]), (some (132, true))⟩, ⟨(some 150), (.call (.c (.func (.func 72) [])) [(.t 140), (.t 145), (.t 146), (.c (.str [109, 116, 105, 109, 101])), (.t 149)]), (some (132, true))⟩, ⟨(some 151), (.pick (.t 132) (.t 150) (.c (.bool false))), none⟩, ⟨(some 8), (.mov (.t 151)), none⟩]) .ret)
theorem r36_p : r36_0 = (.seq (.reg false [] [⟨(some 11), (.mov (.c (.int .i64 0))), none⟩]) (.seq (.seq (.reg false [] [⟨(some 55), (.fa 6 (.t 4)), none⟩, ⟨(some 56), (.ld 1 false (.t 55)), none⟩]) (.block 2 (.seq (.reg false [] [⟨(some 58), (.bin .eql .other true (.t 56) (.c (.int .u8 48))), none⟩, ⟨(some 57), (.mov (.t 58)), none⟩]) (.cond (.t 57) (.reg false [] [⟨(some 11), (.mov (.c (.int .i64 2))), none⟩]) (.seq (.reg false [] [⟨(some 60), (.bin .eql .other true (.t 56) (.c (.int .u8 49))), none⟩, ⟨(some 59), (.mov (.t 60)), none⟩]) (.cond (.t 59) (.reg false [] [⟨(some 11), (.mov (.c (.int .i64 4))), none⟩]) (.seq (.reg false [] [⟨(some 62), (.bin .eql .other true (.t 56) (.c (.int .u8 50))), none⟩, ⟨(some 61), (.mov (.t 62)), none⟩]) (.cond (.t 61) (.reg false [] [⟨(some 11), (.mov (.c (.int .i64 3))), none⟩]) (.seq (.reg false [] [⟨(some 64), (.bin .eql .other true (.t 56) (.c (.int .u8 53))), none⟩, ⟨(some 63), (.mov (.t 64)), none⟩]) (.cond (.t 63) (.reg false [] [⟨(some 11), (.mov (.c (.int .i64 1))), none⟩]) .skip)))))))))) p36)) := rfl
set_option maxHeartbeats 40000000 in
theorem q36 (rs : RS) (H : Hd) (e : Ent) (hs : SaysOk H rs.l e) (hb : EntB e) (hl : rs.l.length ≤ 1000000) (K : Int) (n : Nat) (hn : 2 ≤ n) (hK : K = e.kind) (x25 x26 x27 x28 x55 x56 x57 x58 x59 x60 x61 x62 x63 x64 : AVal) :
    EX AA 0 p36 ⟨[.junk, .junk, rs.av, .junk, .ptr 0 0, .junk, .junk, .ptr 1 0, .bool false, .junk, .junk, .int .i64 K, .junk, .junk, .junk, .junk, .junk, .junk, .junk, .junk, .junk, .junk, .junk, .junk, .junk, x25, x26, x27, x28, .junk, .junk, .junk, .junk, .junk, .junk, .junk, .junk, .junk, .junk, .junk, .junk, .junk, .junk, .junk, .junk, .junk, .junk, .junk, .junk, .junk, .junk, .junk, .junk, .junk, .junk, x55, x56, x57, x58, x59, x60, x61, x62, x63, x64, .junk, .junk, .junk, .junk, .junk, .junk, .junk, .junk, .junk, .junk, .junk, .junk, .junk, .junk, .junk, .junk, .junk, .junk, .junk, .junk, .junk, .junk, .junk, .junk, .junk, .junk, .junk, .junk, .junk, .junk, .junk, .junk, .junk, .junk, .junk, .junk, .junk, .junk, .junk, .junk, .junk, .junk, .junk, .junk, .junk, .junk, .junk, .junk, .junk, .junk, .junk, .junk, .junk, .junk, .junk, .junk, .junk, .junk, .junk, .junk, .junk, .junk, .junk, .junk, .junk, .junk, .junk, .junk, .junk, .junk, .junk, .junk, .junk, .junk, .junk, .junk, .junk, .junk, .junk, .junk, .junk, .junk, .junk, .junk, .junk, .junk, .junk], [(0, .var [.str H.path, .int .i64 H.mode, .int .i64 H.uid, .int .i64 H.gid, .int .i64 H.size, .int .i64 H.time, .int .u8 H.type.toNat, .str H.link]), (1, .var [.str e.path, .int .i64 e.kind, .int .i64 e.mode, .int .i64 e.uid, .int .i64 e.gid, .int .i64 e.time, .str e.link, e.data.av])], n⟩ [] (Fin [(8, none)] 0 (.bool true) []) := by
    obtain ⟨b1, b2, b3, b4, b5, b6, b7, b8⟩ := hb
    have c1 := s44 e.path b8
    have c2 := i45 e.link b7
    have c3 := s47 e.uid b3 b4
    have c4 := s47 e.gid b1 b2
    have c5 := s47 e.time b5 b6
    have h72 := s72 rs hl
    have k1 := h72 (splitN e.path).2.2 (decide (H.path = e.path)) [112, 97, 116, 104] e.path
    have k3 := h72 (decide (e.uid < 2097152)) (decide (H.uid = e.uid)) [117, 105, 100] (Lib.itoa e.uid)
    have k4 := h72 (decide (e.gid < 2097152)) (decide (H.gid = e.gid)) [103, 105, 100] (Lib.itoa e.gid)
    rw [hs.path] at k1
    rw [hs.uid] at k3
    rw [hs.gid] at k4
    have n0 : decide (0 < n) = true := decide_eq_true (by omega)
    have n1 : decide (1 < n) = true := decide_eq_true (by omega)
    unfold p36
    by_cases hl : e.link = []
    · have k2 := h72 true (decide (H.link = e.link)) [108, 105, 110, 107, 112, 97, 116, 104] e.link
      rw [hs.link0 hl] at k2
      have dl := decide_eq_true hl
      by_cases ht : 0 ≤ e.time
      · have k5 := h72 (decide (e.time < 8589934592)) (decide (H.time = e.time)) [109, 116, 105, 109, 101] (Lib.itoa e.time)
        rw [hs.time0 ht] at k5
        refine ex_seq.2 (ex_drawz ?_)
        (simp (maxSteps := 2000000) (disch := omega) only [c1, c2, c3, c4, c5, k1, k2, k3, k4, k5, hK, n0, n1, dl, decide_eq_true ht, go_sem]) <;> repeat' (first | ((first | refine gd_dec ?_ ?_ | refine gd_ndec ?_ ?_ | refine cd_dec ?_ ?_ | refine cd_ndec ?_ ?_ | refine gdd_dec ?_ ?_ | refine gdd_ndec ?_ ?_ | refine gd_of ?_ ?_ | refine cd_of ?_ ?_ | refine gdd_of ?_ ?_) <;> intro hg <;> first | (exfalso; omega) | (simp (maxSteps := 2000000) (disch := omega) only [hg, c1, c2, c3, c4, c5, k1, k2, k3, k4, k5, hK, n0, n1, dl, decide_eq_true ht, go_sem])) | (refine And.intro ?_ ?_; focus omega) | omega)
      · have k5 := h72 false (decide (H.time = e.time)) [109, 116, 105, 109, 101] (Lib.itoa e.time)
        rw [hs.time1 ht] at k5
        refine ex_seq.2 (ex_drawz ?_)
        (simp (maxSteps := 2000000) (disch := omega) only [c1, c2, c3, c4, c5, k1, k2, k3, k4, k5, hK, n0, n1, dl, decide_eq_false ht, go_sem]) <;> repeat' (first | ((first | refine gd_dec ?_ ?_ | refine gd_ndec ?_ ?_ | refine cd_dec ?_ ?_ | refine cd_ndec ?_ ?_ | refine gdd_dec ?_ ?_ | refine gdd_ndec ?_ ?_ | refine gd_of ?_ ?_ | refine cd_of ?_ ?_ | refine gdd_of ?_ ?_) <;> intro hg <;> first | (exfalso; omega) | (simp (maxSteps := 2000000) (disch := omega) only [hg, c1, c2, c3, c4, c5, k1, k2, k3, k4, k5, hK, n0, n1, dl, decide_eq_false ht, go_sem])) | (refine And.intro ?_ ?_; focus omega) | omega)
    · have k2 := h72 (linkB e.link) (decide (H.link = e.link)) [108, 105, 110, 107, 112, 97, 116, 104] e.link
      rw [hs.link1 hl] at k2
      have dl := decide_eq_false hl
      by_cases ht : 0 ≤ e.time
      · have k5 := h72 (decide (e.time < 8589934592)) (decide (H.time = e.time)) [109, 116, 105, 109, 101] (Lib.itoa e.time)
        rw [hs.time0 ht] at k5
        refine ex_seq.2 (ex_drawz ?_)
        (simp (maxSteps := 2000000) (disch := omega) only [c1, c2, c3, c4, c5, k1, k2, k3, k4, k5, hK, n0, n1, dl, decide_eq_true ht, go_sem]) <;> repeat' (first | ((first | refine gd_dec ?_ ?_ | refine gd_ndec ?_ ?_ | refine cd_dec ?_ ?_ | refine cd_ndec ?_ ?_ | refine gdd_dec ?_ ?_ | refine gdd_ndec ?_ ?_ | refine gd_of ?_ ?_ | refine cd_of ?_ ?_ | refine gdd_of ?_ ?_) <;> intro hg <;> first | (exfalso; omega) | (simp (maxSteps := 2000000) (disch := omega) only [hg, c1, c2, c3, c4, c5, k1, k2, k3, k4, k5, hK, n0, n1, dl, decide_eq_true ht, go_sem])) | (refine And.intro ?_ ?_; focus omega) | omega)
      · have k5 := h72 false (decide (H.time = e.time)) [109, 116, 105, 109, 101] (Lib.itoa e.time)
        rw [hs.time1 ht] at k5
        refine ex_seq.2 (ex_drawz ?_)
        (simp (maxSteps := 2000000) (disch := omega) only [c1, c2, c3, c4, c5, k1, k2, k3, k4, k5, hK, n0, n1, dl, decide_eq_false ht, go_sem]) <;> repeat' (first | ((first | refine gd_dec ?_ ?_ | refine gd_ndec ?_ ?_ | refine cd_dec ?_ ?_ | refine cd_ndec ?_ ?_ | refine gdd_dec ?_ ?_ | refine gdd_ndec ?_ ?_ | refine gd_of ?_ ?_ | refine cd_of ?_ ?_ | refine gdd_of ?_ ?_) <;> intro hg <;> first | (exfalso; omega) | (simp (maxSteps := 2000000) (disch := omega) only [hg, c1, c2, c3, c4, c5, k1, k2, k3, k4, k5, hK, n0, n1, dl, decide_eq_false ht, go_sem])) | (refine And.intro ?_ ?_; focus omega) | omega)
end Go.Abs
/- THE LAWS' OWN FUNCTIONS: says. -/
namespace Go.Abs
open Am
set_option maxRecDepth 100000
set_option linter.unusedSimpArgs false
set_option maxHeartbeats 40000000 in
theorem h36 (rs : RS) (H : Hd) (e : Ent) (hs : SaysOk H rs.l e) (hb : EntB e) (hl : rs.l.length ≤ 1000000) : ∀ (rest done : List Rcd) (n i : Int), rs.l = done ++ rest → i = done.length → n = rs.l.length →
    HD AA 0 [2, 4, 7, 8, 25, 26, 27] l36_0 ⟨[.junk, .junk, rs.av, .junk, .ptr 0 0, .junk, .junk, .ptr 1 0, .bool false, .junk, .junk, .junk, .junk, .junk, .junk, .junk, .junk, .junk, .junk, .junk, .junk, .junk, .junk, .junk, .junk, rs.av, .int .i64 n, .int .i64 i, .junk, .junk, .junk, .junk, .junk, .junk, .junk, .junk, .junk, .junk, .junk, .junk, .junk, .junk, .junk, .junk, .junk, .junk, .junk, .junk, .junk, .junk, .junk, .junk, .junk, .junk, .junk, .junk, .junk, .junk, .junk, .junk, .junk, .junk, .junk, .junk, .junk, .junk, .junk, .junk, .junk, .junk, .junk, .junk, .junk, .junk, .junk, .junk, .junk, .junk, .junk, .junk, .junk, .junk, .junk, .junk, .junk, .junk, .junk, .junk, .junk, .junk, .junk, .junk, .junk, .junk, .junk, .junk, .junk, .junk, .junk, .junk, .junk, .junk, .junk, .junk, .junk, .junk, .junk, .junk, .junk, .junk, .junk, .junk, .junk, .junk, .junk, .junk, .junk, .junk, .junk, .junk, .junk, .junk, .junk, .junk, .junk, .junk, .junk, .junk, .junk, .junk, .junk, .junk, .junk, .junk, .junk, .junk, .junk, .junk, .junk, .junk, .junk, .junk, .junk, .junk, .junk, .junk, .junk, .junk, .junk, .junk, .junk, .junk], [(0, .var [.str H.path, .int .i64 H.mode, .int .i64 H.uid, .int .i64 H.gid, .int .i64 H.size, .int .i64 H.time, .int .u8 H.type.toNat, .str H.link]), (1, .var [.str e.path, .int .i64 e.kind, .int .i64 e.mode, .int .i64 e.uid, .int .i64 e.gid, .int .i64 e.time, .str e.link, e.data.av])], 2⟩ [.blk 0, .code r36_0] (Fin [(8, none)] 0 (.bool true) [])
  | [], done, n, i, h1, h2, h3 => by
    have hl2 : rs.l.length = done.length := by rw [h1]; simp
    have hty : (e.kind = 1 ∧ (H.type.toNat : Int) = 53) ∨ (e.kind = 2 ∧ (H.type.toNat : Int) = 48) ∨ (e.kind = 3 ∧ (H.type.toNat : Int) = 50) ∨ (e.kind = 4 ∧ (H.type.toNat : Int) = 49) := by
      rcases hs.kind with ⟨h1, h2⟩ | ⟨h1, h2⟩ | ⟨h1, h2⟩ | ⟨h1, h2⟩
      · exact .inl ⟨h1, by rw [h2]; rfl⟩
      · exact .inr (.inl ⟨h1, by rw [h2]; rfl⟩)
      · exact .inr (.inr (.inl ⟨h1, by rw [h2]; rfl⟩))
      · exact .inr (.inr (.inr ⟨h1, by rw [h2]; rfl⟩))
    have q := q36 rs H e hs hb hl
    rw [r36_p]
    generalize (H.type.toNat : Int) = T at *
    refine hd_of (by unfold l36_0; rfl) ?_
    rcases hty with ⟨k1, k2⟩ | ⟨k1, k2⟩ | ⟨k1, k2⟩ | ⟨k1, k2⟩
    all_goals rw [k2] at q ⊢
    all_goals ((simp (maxSteps := 2000000) (disch := omega) only [go_sem]) <;> repeat' (first | ((first | refine gd_dec ?_ ?_ | refine gd_ndec ?_ ?_ | refine cd_dec ?_ ?_ | refine cd_ndec ?_ ?_ | refine gdd_dec ?_ ?_ | refine gdd_ndec ?_ ?_ | refine gd_of ?_ ?_ | refine cd_of ?_ ?_ | refine gdd_of ?_ ?_) <;> intro hg <;> first | (exfalso; omega) | (simp (maxSteps := 2000000) (disch := omega) only [hg, go_sem])) | (refine And.intro ?_ ?_; focus omega) | omega))
    all_goals exact q _ _ (by simp [stride]) (by omega) _ _ _ _ _ _ _ _ _ _ _ _ _ _
  | r :: rest, done, n, i, h1, h2, h3 => by
    have hg0 : rs.l[i.toNat]? = some r := by
      rw [h1]
      simp [h2]
    have hl2 : i.toNat < rs.l.length := by rw [h1]; simp; omega
    have ih := h36 rs H e hs hb hl rest (done ++ [r]) n (i + 1) (by simp [h1]) (by first | omega | (simp; omega) | (simp; done)) h3
    dsimp only at ih
    have hk : (decide (r.key = [103, 105, 100]) = true) ∨ (decide (r.key = [103, 105, 100]) = false ∧ decide (r.key = [108, 105, 110, 107, 112, 97, 116, 104]) = true) ∨ (decide (r.key = [103, 105, 100]) = false ∧ decide (r.key = [108, 105, 110, 107, 112, 97, 116, 104]) = false ∧ decide (r.key = [109, 116, 105, 109, 101]) = true) ∨ (decide (r.key = [103, 105, 100]) = false ∧ decide (r.key = [108, 105, 110, 107, 112, 97, 116, 104]) = false ∧ decide (r.key = [109, 116, 105, 109, 101]) = false ∧ decide (r.key = [112, 97, 116, 104]) = true) ∨ (decide (r.key = [103, 105, 100]) = false ∧ decide (r.key = [108, 105, 110, 107, 112, 97, 116, 104]) = false ∧ decide (r.key = [109, 116, 105, 109, 101]) = false ∧ decide (r.key = [112, 97, 116, 104]) = false ∧ decide (r.key = [117, 105, 100]) = true) := by
      rcases hs.keys r (by simp [h1]) with k | k | k | k | k <;> rw [k] <;> decide
    refine hd_of (by unfold l36_0; rfl) ?_
    rcases hk with d0 | ⟨d0, d1⟩ | ⟨d0, d1, d2⟩ | ⟨d0, d1, d2, d3⟩ | ⟨d0, d1, d2, d3, d4⟩
    · (simp (maxSteps := 2000000) (disch := omega) only [hg0, d0, lp_head, go_sem]) <;> repeat' (first | ((first | refine gd_dec ?_ ?_ | refine gd_ndec ?_ ?_ | refine cd_dec ?_ ?_ | refine cd_ndec ?_ ?_ | refine gdd_dec ?_ ?_ | refine gdd_ndec ?_ ?_ | refine gd_of ?_ ?_ | refine cd_of ?_ ?_ | refine gdd_of ?_ ?_) <;> intro hg <;> first | (exfalso; omega) | (simp (maxSteps := 2000000) (disch := omega) only [hg, hg0, d0, lp_head, go_sem])) | (refine And.intro ?_ ?_; focus omega) | omega)
    · (simp (maxSteps := 2000000) (disch := omega) only [hg0, d0, d1, lp_head, go_sem]) <;> repeat' (first | ((first | refine gd_dec ?_ ?_ | refine gd_ndec ?_ ?_ | refine cd_dec ?_ ?_ | refine cd_ndec ?_ ?_ | refine gdd_dec ?_ ?_ | refine gdd_ndec ?_ ?_ | refine gd_of ?_ ?_ | refine cd_of ?_ ?_ | refine gdd_of ?_ ?_) <;> intro hg <;> first | (exfalso; omega) | (simp (maxSteps := 2000000) (disch := omega) only [hg, hg0, d0, d1, lp_head, go_sem])) | (refine And.intro ?_ ?_; focus omega) | omega)
    · (simp (maxSteps := 2000000) (disch := omega) only [hg0, d0, d1, d2, lp_head, go_sem]) <;> repeat' (first | ((first | refine gd_dec ?_ ?_ | refine gd_ndec ?_ ?_ | refine cd_dec ?_ ?_ | refine cd_ndec ?_ ?_ | refine gdd_dec ?_ ?_ | refine gdd_ndec ?_ ?_ | refine gd_of ?_ ?_ | refine cd_of ?_ ?_ | refine gdd_of ?_ ?_) <;> intro hg <;> first | (exfalso; omega) | (simp (maxSteps := 2000000) (disch := omega) only [hg, hg0, d0, d1, d2, lp_head, go_sem])) | (refine And.intro ?_ ?_; focus omega) | omega)
    · (simp (maxSteps := 2000000) (disch := omega) only [hg0, d0, d1, d2, d3, lp_head, go_sem]) <;> repeat' (first | ((first | refine gd_dec ?_ ?_ | refine gd_ndec ?_ ?_ | refine cd_dec ?_ ?_ | refine cd_ndec ?_ ?_ | refine gdd_dec ?_ ?_ | refine gdd_ndec ?_ ?_ | refine gd_of ?_ ?_ | refine cd_of ?_ ?_ | refine gdd_of ?_ ?_) <;> intro hg <;> first | (exfalso; omega) | (simp (maxSteps := 2000000) (disch := omega) only [hg, hg0, d0, d1, d2, d3, lp_head, go_sem])) | (refine And.intro ?_ ?_; focus omega) | omega)
    · (simp (maxSteps := 2000000) (disch := omega) only [hg0, d0, d1, d2, d3, d4, lp_head, go_sem]) <;> repeat' (first | ((first | refine gd_dec ?_ ?_ | refine gd_ndec ?_ ?_ | refine cd_dec ?_ ?_ | refine cd_ndec ?_ ?_ | refine gdd_dec ?_ ?_ | refine gdd_ndec ?_ ?_ | refine gd_of ?_ ?_ | refine cd_of ?_ ?_ | refine gdd_of ?_ ?_) <;> intro hg <;> first | (exfalso; omega) | (simp (maxSteps := 2000000) (disch := omega) only [hg, hg0, d0, d1, d2, d3, d4, lp_head, go_sem])) | (refine And.intro ?_ ?_; focus omega) | omega)
set_option maxHeartbeats 4000000 in
theorem s36 (b : BS) (rs : RS) (H : Hd) (e : Ent) (hs : SaysOk H rs.l e) (hb : EntB e) (hl : rs.l.length ≤ 1000000) (hd : b.l = e.data.l) : callT AA 36 [H.av, b.av, rs.av, e.av] [] = some (.bool true, []) := by
  have hh := h36 rs H e hs hb hl rs.l [] rs.l.length 0 rfl rfl rfl
  have hm := decide_eq_true hs.mode
  dsimp only at hh
  refine enter fn36 np36 rfl ?_
  (simp (maxSteps := 2000000) (disch := omega) only [b36, hm, decide_eq_true hd, lp_head, go_sem]) <;> repeat' (first | ((first | refine gd_dec ?_ ?_ | refine gd_ndec ?_ ?_ | refine cd_dec ?_ ?_ | refine cd_ndec ?_ ?_ | refine gdd_dec ?_ ?_ | refine gdd_ndec ?_ ?_ | refine gd_of ?_ ?_ | refine cd_of ?_ ?_ | refine gdd_of ?_ ?_) <;> intro hg <;> first | (exfalso; omega) | (simp (maxSteps := 2000000) (disch := omega) only [hg, b36, hm, decide_eq_true hd, lp_head, go_sem])) | (refine And.intro ?_ ?_; focus omega) | omega)
end Go.Abs
/- THE LAWS' OWN FUNCTIONS: Len, zeros. -/
namespace Go.Abs
open Am
set_option maxRecDepth 10000
set_option linter.unusedSimpArgs false
theorem sl_own_both {sz id z off len : Nat} {k k' : IntKind} {i j : Int} : aSlice sz (.own id z off len false) (some (.int k i)) (some (.int k' j)) none = if 0 ≤ i ∧ i ≤ j ∧ j ≤ len ∧ z = sz then some (.own id z (off + i.toNat) (j.toNat - i.toNat) false) else none := by
  by_cases h0 : 0 ≤ i
  · by_cases h1 : 0 ≤ j
    · rw [sl_own (a := i.toNat) (c := j.toNat) (by simp [natOr, toNat?, h0]) (by simp [natOr, toNat?, h1])]
      simp only [true_or, and_true]
      have : (i.toNat ≤ j.toNat ∧ j.toNat ≤ len ∧ z = sz) = (0 ≤ i ∧ i ≤ j ∧ j ≤ len ∧ z = sz) := by
        apply propext
        constructor
        · rintro ⟨a, b, c⟩; exact ⟨h0, by omega, by omega, c⟩
        · rintro ⟨a, b, c, d⟩; exact ⟨by omega, by omega, d⟩
      exact (ite_congr this (fun _ => rfl) (fun _ => rfl))
    · have hf : ¬ (0 ≤ i ∧ i ≤ j ∧ j ≤ len ∧ z = sz) := by omega
      rw [if_neg hf]
      simp [aSlice, bounds, natOr, toNat?, h1, h0]
  · simp [aSlice, bounds, natOr, toNat?, h0]
theorem ldE_head {e : AVal} {r : List AVal} {o sz : Nat} {agg : Bool} {h : Heap} : ldE (e :: r) 0 o sz agg h = (part e.cells o sz agg).map (·, h) := rfl
theorem s30n : callT AA 30 [.lit (.pointer none)] [] = some (.int .i64 0, []) := by
  refine enter fn30 np30 rfl ?_
  (simp (maxSteps := 2000000) (disch := omega) only [b30, go_sem]) <;> repeat' (first | ((first | refine gd_dec ?_ ?_ | refine gd_ndec ?_ ?_ | refine cd_dec ?_ ?_ | refine cd_ndec ?_ ?_ | refine gdd_dec ?_ ?_ | refine gdd_ndec ?_ ?_ | refine gd_of ?_ ?_ | refine cd_of ?_ ?_ | refine gdd_of ?_ ?_) <;> intro hg <;> first | (exfalso; omega) | (simp (maxSteps := 2000000) (disch := omega) only [hg, b30, go_sem])) | (refine And.intro ?_ ?_; focus omega) | omega)
def zerosB (l : List UInt8) : Bool := l.all fun b => decide (b = 0)
theorem zero_eq (x : UInt8) : decide ((x.toNat : Int) = 0) = decide (x = 0) := by
  rw [Bool.eq_iff_iff]
  simp only [decide_eq_true_eq]
  constructor
  · intro h
    have : x.toNat = 0 := by omega
    rw [← UInt8.toNat_inj, this]
    rfl
  · rintro rfl
    rfl
theorem h33 (b : BS) (hb : b.l.length ≤ 1000000000) (r0 : Bool) : ∀ (rest done : List UInt8) (n i : Int), b.l = done ++ rest → i = done.length → n = b.l.length → r0 = zerosB rest →
    HD AA 0 [2, 5, 6, 7] l33_0 ⟨[.junk, .junk, .bool false, .junk, .junk, b.av, .int .i64 n, .int .i64 i, .junk, .junk, .junk, .junk, .junk, .junk], [], 0⟩ [.blk 0, .code r33_0] (Fin [(2, none)] 0 (.bool r0) [])
  | [], done, n, i, h1, h2, h3, h4 => by
    have hl : b.l.length = done.length := by rw [h1]; simp
    refine hd_of (by unfold l33_0; rfl) ?_
    rw [h4]
    (simp (maxSteps := 2000000) (disch := omega) only [r33_0, go_sem]) <;> repeat' (first | ((first | refine gd_dec ?_ ?_ | refine gd_ndec ?_ ?_ | refine cd_dec ?_ ?_ | refine cd_ndec ?_ ?_ | refine gdd_dec ?_ ?_ | refine gdd_ndec ?_ ?_ | refine gd_of ?_ ?_ | refine cd_of ?_ ?_ | refine gdd_of ?_ ?_) <;> intro hg <;> first | (exfalso; omega) | (simp (maxSteps := 2000000) (disch := omega) only [hg, r33_0, go_sem])) | (refine And.intro ?_ ?_; focus omega) | omega)
    all_goals simp [zerosB]
  | x :: rest, done, n, i, h1, h2, h3, h4 => by
    have hl : b.l.length = done.length + (rest.length + 1) := by rw [h1]; simp
    have hg0 : b.l[i.toNat]? = some x := by
      rw [h1]
      simp [h2]
    have ih := h33 b hb r0 rest (done ++ [x]) n (i + 1) (by simp [h1]) (by first | omega | (simp; omega) | (simp; done)) h3
    refine hd_of (by unfold l33_0; rfl) ?_
    by_cases hx : x = 0
    · have ih := ih (by rw [h4]; simp [zerosB, hx])
      have hx' : (x.toNat : Int) = 0 := by rw [hx]; rfl
      (simp (maxSteps := 2000000) (disch := omega) only [hg0, hx', lp_head, go_sem]) <;> repeat' (first | ((first | refine gd_dec ?_ ?_ | refine gd_ndec ?_ ?_ | refine cd_dec ?_ ?_ | refine cd_ndec ?_ ?_ | refine gdd_dec ?_ ?_ | refine gdd_ndec ?_ ?_ | refine gd_of ?_ ?_ | refine cd_of ?_ ?_ | refine gdd_of ?_ ?_) <;> intro hg <;> first | (exfalso; omega) | (simp (maxSteps := 2000000) (disch := omega) only [hg, hg0, hx', lp_head, go_sem])) | (refine And.intro ?_ ?_; focus omega) | omega)
    · have hr : r0 = false := by rw [h4]; simp [zerosB, hx]
      have hx' : ¬ (x.toNat : Int) = 0 := by
        intro h
        have := zero_eq x
        simp [h, hx] at this
      rw [hr]
      (simp (maxSteps := 2000000) (disch := omega) only [hg0, hx', lp_head, go_sem]) <;> repeat' (first | ((first | refine gd_dec ?_ ?_ | refine gd_ndec ?_ ?_ | refine cd_dec ?_ ?_ | refine cd_ndec ?_ ?_ | refine gdd_dec ?_ ?_ | refine gdd_ndec ?_ ?_ | refine gd_of ?_ ?_ | refine cd_of ?_ ?_ | refine gdd_of ?_ ?_) <;> intro hg <;> first | (exfalso; omega) | (simp (maxSteps := 2000000) (disch := omega) only [hg, hg0, hx', lp_head, go_sem])) | (refine And.intro ?_ ?_; focus omega) | omega)
theorem s33 (b : BS) (hb : b.l.length ≤ 1000000000) : callT AA 33 [b.av] [] = some (.bool (zerosB b.l), []) := by
  refine enter fn33 np33 rfl ?_
  have hh := h33 b hb (zerosB b.l) b.l [] b.l.length 0 rfl rfl rfl rfl
  (simp (maxSteps := 2000000) (disch := omega) only [b33, lp_head, go_sem]) <;> repeat' (first | ((first | refine gd_dec ?_ ?_ | refine gd_ndec ?_ ?_ | refine cd_dec ?_ ?_ | refine cd_ndec ?_ ?_ | refine gdd_dec ?_ ?_ | refine gdd_ndec ?_ ?_ | refine gd_of ?_ ?_ | refine cd_of ?_ ?_ | refine gdd_of ?_ ?_) <;> intro hg <;> first | (exfalso; omega) | (simp (maxSteps := 2000000) (disch := omega) only [hg, b33, lp_head, go_sem])) | (refine And.intro ?_ ?_; focus omega) | omega)
end Go.Abs
/- THE LAWS: TarForms' loop, round by round. -/
namespace Go.Abs
open Am
set_option maxRecDepth 100000
set_option linter.unusedSimpArgs false
/-- a part of a row that is lent -/
theorem sl_at {q k n : Nat} {a b : Int} (h1 : a = k) (h2 : b = k + n) (h3 : k + n ≤ q) : aSlice 1 (.own 0 1 0 q false) (some (.int .i64 a)) (some (.int .i64 b)) none = some (.own 0 1 k n false) := by
  rw [sl_own_both, if_pos ⟨by omega, by omega, by omega, rfl⟩]
  have e1 : 0 + a.toNat = k := by omega
  have e2 : b.toNat - a.toNat = n := by omega
  rw [e1, e2]
theorem part_map {W X : List UInt8} {k n : Nat} (h : (W.drop k).take n = X) : List.take n (List.drop k (W.map AVal.byte)) = X.map .byte := by
  rw [← List.map_drop, ← List.map_take, h]
/-- what a header's block in an archive is -/
structure BlkAt (W : List UInt8) (k : Nat) (H : Hd) (body : List UInt8) (p : Nat) : Prop where
  ok : encOk H = true
  size : H.size = body.length
  pad : p = padN body.length
  hd : (W.drop k).take 512 = encB H
  bdy : (W.drop (k + 512)).take body.length = body
  zeros : (W.drop (k + 512 + body.length)).take p = List.replicate p 0
  lt : k + 512 + body.length + p + 1024 ≤ W.length
set_option maxHeartbeats 40000000 in
theorem f7s_nil (ct tt : Bool) (t : List Ent) (W : List UInt8) (q k p : Nat) (N a nx wh : Int) (H : Hd) (body : List UInt8) (hb : BlkAt W k H body p) (hq : W.length = q) (hN : N = (q : Int) - 1024) (ha : a = k) (hw : (H.size + 511) / 512 * 512 = wh) (hq1 : q ≤ 1000000000) (hbl : body.length ≤ 1000000) (e : Ent) (xb : Bool) (hE : EntB e) (hnx : 0 ≤ nx) (hlt : nx.toNat < t.length) (hg : t[nx.toNat]? = some e) (htl : t.length ≤ 1000000) (hty : ¬ (H.type.toNat : Int) = 120) (hsa : SaysOk H [] e) (hd : body = e.data.l) (F : FinP)
    (ih : HD AA 0 [0, 2, 3, 5, 6, 7, 8, 9] l7_0 ⟨[.view 8 (t.map Ent.av) ct tt, .junk, .bool false, .own 0 1 0 q false, .junk, .int .i64 N, .int .i64 (a + 512 + wh), .int .i64 (nx + 1), .lit (.slice none 0 0), .bool false, .junk, .junk, .junk, .junk, .junk, .junk, .junk, .junk, .junk, .junk, .junk, .junk, .junk, .junk, .junk, .junk, .junk, .junk, .junk, .junk, .junk, .junk, .junk, .junk, .junk, .junk, .junk, .junk, .junk, .junk, .junk, .junk, .junk, .junk, .junk, .junk, .junk, .junk, .junk, .junk, .junk, .junk, .junk, .junk, .junk, .junk, .junk, .junk, .junk, .junk, .junk, .junk, .junk, .junk, .junk, .junk, .junk, .junk, .junk, .junk, .junk, .junk, .junk, .junk, .junk, .junk, .junk, .junk, .junk, .junk, .junk, .junk, .junk, .junk, .junk, .junk, .junk, .junk, .junk, .junk, .junk, .junk, .junk, .junk, .junk, .junk, .junk, .junk, .junk, .junk, .junk, .junk, .junk, .junk, .junk, .junk, .junk, .junk, .junk, .junk, .junk, .junk, .junk, .junk, .junk, .junk, .junk, .junk, .junk, .junk, .junk, .junk, .junk, .junk, .junk, .junk, .junk, .junk, .junk, .junk, .junk, .junk, .junk, .junk, .junk, .junk, .junk, .junk, .junk, .junk, .junk, .junk, .junk, .junk], [(0, .row (W.map .byte) 1)], 1⟩ [.blk 0, .code r7_0] F) :
    HD AA 0 [0, 2, 3, 5, 6, 7, 8, 9] l7_0 ⟨[.view 8 (t.map Ent.av) ct tt, .junk, .bool false, .own 0 1 0 q false, .junk, .int .i64 N, .int .i64 a, .int .i64 nx, .lit (.slice none 0 0), .bool xb, .junk, .junk, .junk, .junk, .junk, .junk, .junk, .junk, .junk, .junk, .junk, .junk, .junk, .junk, .junk, .junk, .junk, .junk, .junk, .junk, .junk, .junk, .junk, .junk, .junk, .junk, .junk, .junk, .junk, .junk, .junk, .junk, .junk, .junk, .junk, .junk, .junk, .junk, .junk, .junk, .junk, .junk, .junk, .junk, .junk, .junk, .junk, .junk, .junk, .junk, .junk, .junk, .junk, .junk, .junk, .junk, .junk, .junk, .junk, .junk, .junk, .junk, .junk, .junk, .junk, .junk, .junk, .junk, .junk, .junk, .junk, .junk, .junk, .junk, .junk, .junk, .junk, .junk, .junk, .junk, .junk, .junk, .junk, .junk, .junk, .junk, .junk, .junk, .junk, .junk, .junk, .junk, .junk, .junk, .junk, .junk, .junk, .junk, .junk, .junk, .junk, .junk, .junk, .junk, .junk, .junk, .junk, .junk, .junk, .junk, .junk, .junk, .junk, .junk, .junk, .junk, .junk, .junk, .junk, .junk, .junk, .junk, .junk, .junk, .junk, .junk, .junk, .junk, .junk, .junk, .junk, .junk, .junk, .junk], [(0, .row (W.map .byte) 1)], 1⟩ [.blk 0, .code r7_0] F := by
  have hk := hb.lt
  have hl := encB_length H
  have hsz := hb.size
  obtain ⟨dv, hdv⟩ : ∃ dv : Int, dv = (H.size + 511) / 512 := ⟨_, rfl⟩
  have e1 : (0 : Int) < 1 → (H.size + 511).tdiv 512 = dv := fun _ => by
    rw [Int.tdiv_eq_ediv_of_nonneg (by omega)]
    exact hdv.symm
  rw [← hdv] at hw
  have hwh : (body.length : Int) + p = wh := by
    have := pad_whole body
    rw [padL_length] at this
    rw [hb.pad, ← hw, hdv, hb.size]
    unfold wholeN at this
    omega
  have hk2 : k + 512 + body.length + p + 1024 ≤ q := by omega
  have hdv3 : 0 ≤ dv ∧ dv ≤ 4000000 := by omega
  have hwl : wh ≤ 2000000000 ∧ 0 ≤ wh := by omega
  have e3 : (0 : Int) < 1 → dv * 512 = wh := fun _ => hw
  clear hdv hk hw
  have g1 := sl_at (q := q) (k := k) (n := 512) (a := a) (b := a + 512) ha (by omega) (by omega)
  have g2 := sl_at (q := q) (k := k + 512 + body.length) (n := p) (a := a + 512 + H.size) (b := a + 512 + wh) (by omega) (by omega) (by omega)
  have g3 := sl_at (q := q) (k := k + 512) (n := body.length) (a := a + 512) (b := a + 512 + H.size) (by omega) (by omega) (by omega)
  have p1 := part_map hb.hd
  have p2 := part_map hb.zeros
  have p3 := part_map hb.bdy
  have hdk := decOk_encB hb.ok
  have hdh := decH_encB hb.ok
  have c34 := fun c t => s34 (.mk c t (encB H)) (by rw [mk_l]; exact hl)
  simp only [mk_l, hdk, hdh, if_true, mk_av, Hd.av] at c34
  have c33 := fun c t => s33 (.mk c t (List.replicate p 0)) (by simp only [mk_l, List.length_replicate]; omega)
  have hz : zerosB (List.replicate p 0) = true := by simp [zerosB]
  simp only [mk_l, hz, mk_av] at c33
  have wl : (W.map AVal.byte).length = q := by rw [List.length_map]; exact hq
  clear hdk hdh
  have c36 := fun c' t' => s36 (.mk c' t' body) .nil H e hsa hE (by simp [RS.l]) (by rw [mk_l]; exact hd)
  simp only [mk_av, Hd.av, Ent.av, RS.av] at c36
  dsimp only at ih
  clear hb
  generalize hS : H.size = S at *
  generalize encB H = B at *
  generalize (H.type.toNat : Int) = T at *
  refine hd_of (by unfold l7_0; rfl) ?_
  (simp (maxSteps := 2000000) (disch := omega) only [g1, g2, g3, p1, p2, p3, c34, c33, e1, e3, c36, wl, hl, hg, lp_head, go_sem]) <;> repeat' (first | ((first | refine gd_dec ?_ ?_ | refine gd_ndec ?_ ?_ | refine cd_dec ?_ ?_ | refine cd_ndec ?_ ?_ | refine gdd_dec ?_ ?_ | refine gdd_ndec ?_ ?_ | refine gd_of ?_ ?_ | refine cd_of ?_ ?_ | refine gdd_of ?_ ?_) <;> intro hg <;> first | (exfalso; omega) | (simp (maxSteps := 2000000) (disch := omega) only [hg, g1, g2, g3, p1, p2, p3, c34, c33, e1, e3, c36, wl, hl, hg, lp_head, go_sem])) | (refine And.intro ?_ ?_; focus omega) | omega)
set_option maxHeartbeats 40000000 in
theorem f7s_own (ct tt : Bool) (t : List Ent) (W : List UInt8) (q k p : Nat) (N a nx wh : Int) (H : Hd) (body : List UInt8) (hb : BlkAt W k H body p) (hq : W.length = q) (hN : N = (q : Int) - 1024) (ha : a = k) (hw : (H.size + 511) / 512 * 512 = wh) (hq1 : q ≤ 1000000000) (hbl : body.length ≤ 1000000) (e : Ent) (L : List Rcd) (hL : L.length ≤ 1000000) (xb : Bool) (hE : EntB e) (hnx : 0 ≤ nx) (hlt : nx.toNat < t.length) (hg : t[nx.toNat]? = some e) (htl : t.length ≤ 1000000) (hty : ¬ (H.type.toNat : Int) = 120) (hsa : SaysOk H L e) (hd : body = e.data.l) (F : FinP)
    (ih : HD AA 0 [0, 2, 3, 5, 6, 7, 8, 9] l7_0 ⟨[.view 8 (t.map Ent.av) ct tt, .junk, .bool false, .own 0 1 0 q false, .junk, .int .i64 N, .int .i64 (a + 512 + wh), .int .i64 (nx + 1), .lit (.slice none 0 0), .bool false, .junk, .junk, .junk, .junk, .junk, .junk, .junk, .junk, .junk, .junk, .junk, .junk, .junk, .junk, .junk, .junk, .junk, .junk, .junk, .junk, .junk, .junk, .junk, .junk, .junk, .junk, .junk, .junk, .junk, .junk, .junk, .junk, .junk, .junk, .junk, .junk, .junk, .junk, .junk, .junk, .junk, .junk, .junk, .junk, .junk, .junk, .junk, .junk, .junk, .junk, .junk, .junk, .junk, .junk, .junk, .junk, .junk, .junk, .junk, .junk, .junk, .junk, .junk, .junk, .junk, .junk, .junk, .junk, .junk, .junk, .junk, .junk, .junk, .junk, .junk, .junk, .junk, .junk, .junk, .junk, .junk, .junk, .junk, .junk, .junk, .junk, .junk, .junk, .junk, .junk, .junk, .junk, .junk, .junk, .junk, .junk, .junk, .junk, .junk, .junk, .junk, .junk, .junk, .junk, .junk, .junk, .junk, .junk, .junk, .junk, .junk, .junk, .junk, .junk, .junk, .junk, .junk, .junk, .junk, .junk, .junk, .junk, .junk, .junk, .junk, .junk, .junk, .junk, .junk, .junk, .junk, .junk, .junk, .junk], [(0, .row (W.map .byte) 1)], 1⟩ [.blk 0, .code r7_0] F) :
    HD AA 0 [0, 2, 3, 5, 6, 7, 8, 9] l7_0 ⟨[.view 8 (t.map Ent.av) ct tt, .junk, .bool false, .own 0 1 0 q false, .junk, .int .i64 N, .int .i64 a, .int .i64 nx, .own 1 2 0 L.length false, .bool xb, .junk, .junk, .junk, .junk, .junk, .junk, .junk, .junk, .junk, .junk, .junk, .junk, .junk, .junk, .junk, .junk, .junk, .junk, .junk, .junk, .junk, .junk, .junk, .junk, .junk, .junk, .junk, .junk, .junk, .junk, .junk, .junk, .junk, .junk, .junk, .junk, .junk, .junk, .junk, .junk, .junk, .junk, .junk, .junk, .junk, .junk, .junk, .junk, .junk, .junk, .junk, .junk, .junk, .junk, .junk, .junk, .junk, .junk, .junk, .junk, .junk, .junk, .junk, .junk, .junk, .junk, .junk, .junk, .junk, .junk, .junk, .junk, .junk, .junk, .junk, .junk, .junk, .junk, .junk, .junk, .junk, .junk, .junk, .junk, .junk, .junk, .junk, .junk, .junk, .junk, .junk, .junk, .junk, .junk, .junk, .junk, .junk, .junk, .junk, .junk, .junk, .junk, .junk, .junk, .junk, .junk, .junk, .junk, .junk, .junk, .junk, .junk, .junk, .junk, .junk, .junk, .junk, .junk, .junk, .junk, .junk, .junk, .junk, .junk, .junk, .junk, .junk, .junk, .junk, .junk, .junk, .junk, .junk, .junk], [(0, .row (W.map .byte) 1), (1, .row (L.map Rcd.av) 2)], 2⟩ [.blk 0, .code r7_0] F := by
  have hk := hb.lt
  have hl := encB_length H
  have hsz := hb.size
  obtain ⟨dv, hdv⟩ : ∃ dv : Int, dv = (H.size + 511) / 512 := ⟨_, rfl⟩
  have e1 : (0 : Int) < 1 → (H.size + 511).tdiv 512 = dv := fun _ => by
    rw [Int.tdiv_eq_ediv_of_nonneg (by omega)]
    exact hdv.symm
  rw [← hdv] at hw
  have hwh : (body.length : Int) + p = wh := by
    have := pad_whole body
    rw [padL_length] at this
    rw [hb.pad, ← hw, hdv, hb.size]
    unfold wholeN at this
    omega
  have hk2 : k + 512 + body.length + p + 1024 ≤ q := by omega
  have hdv3 : 0 ≤ dv ∧ dv ≤ 4000000 := by omega
  have hwl : wh ≤ 2000000000 ∧ 0 ≤ wh := by omega
  have e3 : (0 : Int) < 1 → dv * 512 = wh := fun _ => hw
  clear hdv hk hw
  have g1 := sl_at (q := q) (k := k) (n := 512) (a := a) (b := a + 512) ha (by omega) (by omega)
  have g2 := sl_at (q := q) (k := k + 512 + body.length) (n := p) (a := a + 512 + H.size) (b := a + 512 + wh) (by omega) (by omega) (by omega)
  have g3 := sl_at (q := q) (k := k + 512) (n := body.length) (a := a + 512) (b := a + 512 + H.size) (by omega) (by omega) (by omega)
  have p1 := part_map hb.hd
  have p2 := part_map hb.zeros
  have p3 := part_map hb.bdy
  have hdk := decOk_encB hb.ok
  have hdh := decH_encB hb.ok
  have c34 := fun c t => s34 (.mk c t (encB H)) (by rw [mk_l]; exact hl)
  simp only [mk_l, hdk, hdh, if_true, mk_av, Hd.av] at c34
  have c33 := fun c t => s33 (.mk c t (List.replicate p 0)) (by simp only [mk_l, List.length_replicate]; omega)
  have hz : zerosB (List.replicate p 0) = true := by simp [zerosB]
  simp only [mk_l, hz, mk_av] at c33
  have wl : (W.map AVal.byte).length = q := by rw [List.length_map]; exact hq
  clear hdk hdh
  have c36 := fun c t c' t' => s36 (.mk c' t' body) (.mk c t L) H e hsa hE (by simpa only [RS.l] using hL) (by rw [mk_l]; exact hd)
  simp only [mk_av, Hd.av, Ent.av, RS.av] at c36
  dsimp only at ih
  clear hb
  generalize hS : H.size = S at *
  generalize encB H = B at *
  generalize (H.type.toNat : Int) = T at *
  refine hd_of (by unfold l7_0; rfl) ?_
  (simp (maxSteps := 2000000) (disch := omega) only [g1, g2, g3, p1, p2, p3, c34, c33, e1, e3, c36, wl, hl, hg, lp_head, go_sem]) <;> repeat' (first | ((first | refine gd_dec ?_ ?_ | refine gd_ndec ?_ ?_ | refine cd_dec ?_ ?_ | refine cd_ndec ?_ ?_ | refine gdd_dec ?_ ?_ | refine gdd_ndec ?_ ?_ | refine gd_of ?_ ?_ | refine cd_of ?_ ?_ | refine gdd_of ?_ ?_) <;> intro hg <;> first | (exfalso; omega) | (simp (maxSteps := 2000000) (disch := omega) only [hg, g1, g2, g3, p1, p2, p3, c34, c33, e1, e3, c36, wl, hl, hg, lp_head, go_sem])) | (refine And.intro ?_ ?_; focus omega) | omega)
set_option maxHeartbeats 40000000 in
theorem f7x_nil (ct tt : Bool) (t : List Ent) (W : List UInt8) (q k p : Nat) (N a nx wh : Int) (H : Hd) (body : List UInt8) (hb : BlkAt W k H body p) (hq : W.length = q) (hN : N = (q : Int) - 1024) (ha : a = k) (hw : (H.size + 511) / 512 * 512 = wh) (hq1 : q ≤ 1000000000) (hbl : body.length ≤ 1000000) (hnx : 0 ≤ nx) (hlt : nx.toNat < t.length) (htl : t.length ≤ 1000000) (hty : (H.type.toNat : Int) = 120) (M : List Rcd) (hM : paxD body = some M) (hMn : M ≠ []) (F : FinP)
    (ih : HD AA 0 [0, 2, 3, 5, 6, 7, 8, 9] l7_0 ⟨[.view 8 (t.map Ent.av) ct tt, .junk, .bool false, .own 0 1 0 q false, .junk, .int .i64 N, .int .i64 (a + 512 + wh), .int .i64 nx, .own 1 2 0 M.length false, .bool true, .junk, .junk, .junk, .junk, .junk, .junk, .junk, .junk, .junk, .junk, .junk, .junk, .junk, .junk, .junk, .junk, .junk, .junk, .junk, .junk, .junk, .junk, .junk, .junk, .junk, .junk, .junk, .junk, .junk, .junk, .junk, .junk, .junk, .junk, .junk, .junk, .junk, .junk, .junk, .junk, .junk, .junk, .junk, .junk, .junk, .junk, .junk, .junk, .junk, .junk, .junk, .junk, .junk, .junk, .junk, .junk, .junk, .junk, .junk, .junk, .junk, .junk, .junk, .junk, .junk, .junk, .junk, .junk, .junk, .junk, .junk, .junk, .junk, .junk, .junk, .junk, .junk, .junk, .junk, .junk, .junk, .junk, .junk, .junk, .junk, .junk, .junk, .junk, .junk, .junk, .junk, .junk, .junk, .junk, .junk, .junk, .junk, .junk, .junk, .junk, .junk, .junk, .junk, .junk, .junk, .junk, .junk, .junk, .junk, .junk, .junk, .junk, .junk, .junk, .junk, .junk, .junk, .junk, .junk, .junk, .junk, .junk, .junk, .junk, .junk, .junk, .junk, .junk, .junk, .junk, .junk, .junk, .junk, .junk], [(0, .row (W.map .byte) 1), (1, .row (M.map Rcd.av) 2)], 2⟩ [.blk 0, .code r7_0] F) :
    HD AA 0 [0, 2, 3, 5, 6, 7, 8, 9] l7_0 ⟨[.view 8 (t.map Ent.av) ct tt, .junk, .bool false, .own 0 1 0 q false, .junk, .int .i64 N, .int .i64 a, .int .i64 nx, .lit (.slice none 0 0), .bool false, .junk, .junk, .junk, .junk, .junk, .junk, .junk, .junk, .junk, .junk, .junk, .junk, .junk, .junk, .junk, .junk, .junk, .junk, .junk, .junk, .junk, .junk, .junk, .junk, .junk, .junk, .junk, .junk, .junk, .junk, .junk, .junk, .junk, .junk, .junk, .junk, .junk, .junk, .junk, .junk, .junk, .junk, .junk, .junk, .junk, .junk, .junk, .junk, .junk, .junk, .junk, .junk, .junk, .junk, .junk, .junk, .junk, .junk, .junk, .junk, .junk, .junk, .junk, .junk, .junk, .junk, .junk, .junk, .junk, .junk, .junk, .junk, .junk, .junk, .junk, .junk, .junk, .junk, .junk, .junk, .junk, .junk, .junk, .junk, .junk, .junk, .junk, .junk, .junk, .junk, .junk, .junk, .junk, .junk, .junk, .junk, .junk, .junk, .junk, .junk, .junk, .junk, .junk, .junk, .junk, .junk, .junk, .junk, .junk, .junk, .junk, .junk, .junk, .junk, .junk, .junk, .junk, .junk, .junk, .junk, .junk, .junk, .junk, .junk, .junk, .junk, .junk, .junk, .junk, .junk, .junk, .junk, .junk, .junk], [(0, .row (W.map .byte) 1)], 1⟩ [.blk 0, .code r7_0] F := by
  have hk := hb.lt
  have hl := encB_length H
  have hsz := hb.size
  obtain ⟨dv, hdv⟩ : ∃ dv : Int, dv = (H.size + 511) / 512 := ⟨_, rfl⟩
  have e1 : (0 : Int) < 1 → (H.size + 511).tdiv 512 = dv := fun _ => by
    rw [Int.tdiv_eq_ediv_of_nonneg (by omega)]
    exact hdv.symm
  rw [← hdv] at hw
  have hwh : (body.length : Int) + p = wh := by
    have := pad_whole body
    rw [padL_length] at this
    rw [hb.pad, ← hw, hdv, hb.size]
    unfold wholeN at this
    omega
  have hk2 : k + 512 + body.length + p + 1024 ≤ q := by omega
  have hdv3 : 0 ≤ dv ∧ dv ≤ 4000000 := by omega
  have hwl : wh ≤ 2000000000 ∧ 0 ≤ wh := by omega
  have e3 : (0 : Int) < 1 → dv * 512 = wh := fun _ => hw
  clear hdv hk hw
  have g1 := sl_at (q := q) (k := k) (n := 512) (a := a) (b := a + 512) ha (by omega) (by omega)
  have g2 := sl_at (q := q) (k := k + 512 + body.length) (n := p) (a := a + 512 + H.size) (b := a + 512 + wh) (by omega) (by omega) (by omega)
  have g3 := sl_at (q := q) (k := k + 512) (n := body.length) (a := a + 512) (b := a + 512 + H.size) (by omega) (by omega) (by omega)
  have p1 := part_map hb.hd
  have p2 := part_map hb.zeros
  have p3 := part_map hb.bdy
  have hdk := decOk_encB hb.ok
  have hdh := decH_encB hb.ok
  have c34 := fun c t => s34 (.mk c t (encB H)) (by rw [mk_l]; exact hl)
  simp only [mk_l, hdk, hdh, if_true, mk_av, Hd.av] at c34
  have c33 := fun c t => s33 (.mk c t (List.replicate p 0)) (by simp only [mk_l, List.length_replicate]; omega)
  have hz : zerosB (List.replicate p 0) = true := by simp [zerosB]
  simp only [mk_l, hz, mk_av] at c33
  have wl : (W.map AVal.byte).length = q := by rw [List.length_map]; exact hq
  clear hdk hdh
  have c35 := fun c t => s35 (.mk c t body) (by rw [mk_l]; exact hbl)
  simp only [mk_l, hM, mk_av] at c35
  have hv : pdV (some M) = .tuple [.own 0 2 0 M.length false, .lit .nilIface] ∧ pdH (some M) = [(0, .row (M.map Rcd.av) 2)] := by
    cases M with
    | nil => exact (hMn rfl).elim
    | cons x y => exact ⟨rfl, rfl⟩
  simp only [hv.1, hv.2] at c35
  have hM0 : 0 < M.length := by
    cases M with
    | nil => exact (hMn rfl).elim
    | cons x y => simp
  dsimp only at ih
  clear hb
  generalize hS : H.size = S at *
  generalize encB H = B at *
  generalize (H.type.toNat : Int) = T at *
  refine hd_of (by unfold l7_0; rfl) ?_
  (simp (maxSteps := 2000000) (disch := omega) only [g1, g2, g3, p1, p2, p3, c34, c33, e1, e3, c35, wl, hl, hty, lp_head, go_sem]) <;> repeat' (first | ((first | refine gd_dec ?_ ?_ | refine gd_ndec ?_ ?_ | refine cd_dec ?_ ?_ | refine cd_ndec ?_ ?_ | refine gdd_dec ?_ ?_ | refine gdd_ndec ?_ ?_ | refine gd_of ?_ ?_ | refine cd_of ?_ ?_ | refine gdd_of ?_ ?_) <;> intro hg <;> first | (exfalso; omega) | (simp (maxSteps := 2000000) (disch := omega) only [hg, g1, g2, g3, p1, p2, p3, c34, c33, e1, e3, c35, wl, hl, hty, lp_head, go_sem])) | (refine And.intro ?_ ?_; focus omega) | omega)
set_option maxHeartbeats 40000000 in
theorem f7x_own (ct tt : Bool) (t : List Ent) (W : List UInt8) (q k p : Nat) (N a nx wh : Int) (H : Hd) (body : List UInt8) (hb : BlkAt W k H body p) (hq : W.length = q) (hN : N = (q : Int) - 1024) (ha : a = k) (hw : (H.size + 511) / 512 * 512 = wh) (hq1 : q ≤ 1000000000) (hbl : body.length ≤ 1000000) (L : List Rcd) (hnx : 0 ≤ nx) (hlt : nx.toNat < t.length) (htl : t.length ≤ 1000000) (hty : (H.type.toNat : Int) = 120) (M : List Rcd) (hM : paxD body = some M) (hMn : M ≠ []) (F : FinP)
    (ih : HD AA 0 [0, 2, 3, 5, 6, 7, 8, 9] l7_0 ⟨[.view 8 (t.map Ent.av) ct tt, .junk, .bool false, .own 0 1 0 q false, .junk, .int .i64 N, .int .i64 (a + 512 + wh), .int .i64 nx, .own 1 2 0 M.length false, .bool true, .junk, .junk, .junk, .junk, .junk, .junk, .junk, .junk, .junk, .junk, .junk, .junk, .junk, .junk, .junk, .junk, .junk, .junk, .junk, .junk, .junk, .junk, .junk, .junk, .junk, .junk, .junk, .junk, .junk, .junk, .junk, .junk, .junk, .junk, .junk, .junk, .junk, .junk, .junk, .junk, .junk, .junk, .junk, .junk, .junk, .junk, .junk, .junk, .junk, .junk, .junk, .junk, .junk, .junk, .junk, .junk, .junk, .junk, .junk, .junk, .junk, .junk, .junk, .junk, .junk, .junk, .junk, .junk, .junk, .junk, .junk, .junk, .junk, .junk, .junk, .junk, .junk, .junk, .junk, .junk, .junk, .junk, .junk, .junk, .junk, .junk, .junk, .junk, .junk, .junk, .junk, .junk, .junk, .junk, .junk, .junk, .junk, .junk, .junk, .junk, .junk, .junk, .junk, .junk, .junk, .junk, .junk, .junk, .junk, .junk, .junk, .junk, .junk, .junk, .junk, .junk, .junk, .junk, .junk, .junk, .junk, .junk, .junk, .junk, .junk, .junk, .junk, .junk, .junk, .junk, .junk, .junk, .junk, .junk], [(0, .row (W.map .byte) 1), (1, .row (M.map Rcd.av) 2)], 2⟩ [.blk 0, .code r7_0] F) :
    HD AA 0 [0, 2, 3, 5, 6, 7, 8, 9] l7_0 ⟨[.view 8 (t.map Ent.av) ct tt, .junk, .bool false, .own 0 1 0 q false, .junk, .int .i64 N, .int .i64 a, .int .i64 nx, .own 1 2 0 L.length false, .bool false, .junk, .junk, .junk, .junk, .junk, .junk, .junk, .junk, .junk, .junk, .junk, .junk, .junk, .junk, .junk, .junk, .junk, .junk, .junk, .junk, .junk, .junk, .junk, .junk, .junk, .junk, .junk, .junk, .junk, .junk, .junk, .junk, .junk, .junk, .junk, .junk, .junk, .junk, .junk, .junk, .junk, .junk, .junk, .junk, .junk, .junk, .junk, .junk, .junk, .junk, .junk, .junk, .junk, .junk, .junk, .junk, .junk, .junk, .junk, .junk, .junk, .junk, .junk, .junk, .junk, .junk, .junk, .junk, .junk, .junk, .junk, .junk, .junk, .junk, .junk, .junk, .junk, .junk, .junk, .junk, .junk, .junk, .junk, .junk, .junk, .junk, .junk, .junk, .junk, .junk, .junk, .junk, .junk, .junk, .junk, .junk, .junk, .junk, .junk, .junk, .junk, .junk, .junk, .junk, .junk, .junk, .junk, .junk, .junk, .junk, .junk, .junk, .junk, .junk, .junk, .junk, .junk, .junk, .junk, .junk, .junk, .junk, .junk, .junk, .junk, .junk, .junk, .junk, .junk, .junk, .junk, .junk, .junk, .junk], [(0, .row (W.map .byte) 1), (1, .row (L.map Rcd.av) 2)], 2⟩ [.blk 0, .code r7_0] F := by
  have hk := hb.lt
  have hl := encB_length H
  have hsz := hb.size
  obtain ⟨dv, hdv⟩ : ∃ dv : Int, dv = (H.size + 511) / 512 := ⟨_, rfl⟩
  have e1 : (0 : Int) < 1 → (H.size + 511).tdiv 512 = dv := fun _ => by
    rw [Int.tdiv_eq_ediv_of_nonneg (by omega)]
    exact hdv.symm
  rw [← hdv] at hw
  have hwh : (body.length : Int) + p = wh := by
    have := pad_whole body
    rw [padL_length] at this
    rw [hb.pad, ← hw, hdv, hb.size]
    unfold wholeN at this
    omega
  have hk2 : k + 512 + body.length + p + 1024 ≤ q := by omega
  have hdv3 : 0 ≤ dv ∧ dv ≤ 4000000 := by omega
  have hwl : wh ≤ 2000000000 ∧ 0 ≤ wh := by omega
  have e3 : (0 : Int) < 1 → dv * 512 = wh := fun _ => hw
  clear hdv hk hw
  have g1 := sl_at (q := q) (k := k) (n := 512) (a := a) (b := a + 512) ha (by omega) (by omega)
  have g2 := sl_at (q := q) (k := k + 512 + body.length) (n := p) (a := a + 512 + H.size) (b := a + 512 + wh) (by omega) (by omega) (by omega)
  have g3 := sl_at (q := q) (k := k + 512) (n := body.length) (a := a + 512) (b := a + 512 + H.size) (by omega) (by omega) (by omega)
  have p1 := part_map hb.hd
  have p2 := part_map hb.zeros
  have p3 := part_map hb.bdy
  have hdk := decOk_encB hb.ok
  have hdh := decH_encB hb.ok
  have c34 := fun c t => s34 (.mk c t (encB H)) (by rw [mk_l]; exact hl)
  simp only [mk_l, hdk, hdh, if_true, mk_av, Hd.av] at c34
  have c33 := fun c t => s33 (.mk c t (List.replicate p 0)) (by simp only [mk_l, List.length_replicate]; omega)
  have hz : zerosB (List.replicate p 0) = true := by simp [zerosB]
  simp only [mk_l, hz, mk_av] at c33
  have wl : (W.map AVal.byte).length = q := by rw [List.length_map]; exact hq
  clear hdk hdh
  have c35 := fun c t => s35 (.mk c t body) (by rw [mk_l]; exact hbl)
  simp only [mk_l, hM, mk_av] at c35
  have hv : pdV (some M) = .tuple [.own 0 2 0 M.length false, .lit .nilIface] ∧ pdH (some M) = [(0, .row (M.map Rcd.av) 2)] := by
    cases M with
    | nil => exact (hMn rfl).elim
    | cons x y => exact ⟨rfl, rfl⟩
  simp only [hv.1, hv.2] at c35
  have hM0 : 0 < M.length := by
    cases M with
    | nil => exact (hMn rfl).elim
    | cons x y => simp
  dsimp only at ih
  clear hb
  generalize hS : H.size = S at *
  generalize encB H = B at *
  generalize (H.type.toNat : Int) = T at *
  refine hd_of (by unfold l7_0; rfl) ?_
  (simp (maxSteps := 2000000) (disch := omega) only [g1, g2, g3, p1, p2, p3, c34, c33, e1, e3, c35, wl, hl, hty, lp_head, go_sem]) <;> repeat' (first | ((first | refine gd_dec ?_ ?_ | refine gd_ndec ?_ ?_ | refine cd_dec ?_ ?_ | refine cd_ndec ?_ ?_ | refine gdd_dec ?_ ?_ | refine gdd_ndec ?_ ?_ | refine gd_of ?_ ?_ | refine cd_of ?_ ?_ | refine gdd_of ?_ ?_) <;> intro hg <;> first | (exfalso; omega) | (simp (maxSteps := 2000000) (disch := omega) only [hg, g1, g2, g3, p1, p2, p3, c34, c33, e1, e3, c35, wl, hl, hty, lp_head, go_sem])) | (refine And.intro ?_ ?_; focus omega) | omega)
end Go.Abs
/- PLAIN: an entry's header and records say the entry; blocks of an archive; lists that are not large. -/
namespace Go.Abs
open Am
set_option maxRecDepth 10000
set_option linter.unusedSimpArgs false
theorem key5_recs {e : Ent} : ∀ r ∈ recsE e, Key5 r.key := by
  have key : ∀ (f : Bool) (k v : List UInt8), Key5 k → ∀ r ∈ recIf f k v, Key5 r.key := by
    intro f k v hk r hr
    unfold recIf at hr
    cases f with
    | true => simp at hr
    | false => simp at hr; subst hr; exact hk
  intro r hr
  unfold recsE rst3 rst4 rst5 rst6 rst7 at hr
  simp only [List.mem_append] at hr
  rcases hr with hr | hr | hr | hr | hr
  · exact key _ _ _ (.inl rfl) r hr
  · exact key _ _ _ (.inr (.inl rfl)) r hr
  · exact key _ _ _ (.inr (.inr (.inl rfl))) r hr
  · exact key _ _ _ (.inr (.inr (.inr (.inl rfl)))) r hr
  · exact key _ _ _ (.inr (.inr (.inr (.inr rfl)))) r hr
theorem idB_dec {n : Int} (h : 0 ≤ n) : decide (n < 2097152) = idB n := by
  cases hb : idB n with
  | true => exact decide_eq_true (idB_iff.1 hb).2
  | false =>
    refine decide_eq_false fun hh => ?_
    rw [idB_iff.2 ⟨h, hh⟩] at hb
    cases hb
theorem timeB_dec {n : Int} (h : 0 ≤ n) : decide (n < 8589934592) = timeB n := by
  cases hb : timeB n with
  | true => exact decide_eq_true (timeB_iff.1 hb).2
  | false =>
    refine decide_eq_false fun hh => ?_
    rw [timeB_iff.2 ⟨h, hh⟩] at hb
    cases hb
theorem timeB_neg {n : Int} (h : ¬ 0 ≤ n) : timeB n = false := by
  cases hb : timeB n with
  | true => exact (h (timeB_iff.1 hb).1).elim
  | false => rfl
theorem find_recs (e : Ent) :
    findR [112, 97, 116, 104] (recsE e) = (if (splitN e.path).2.2 then ([], false) else (e.path, true)) ∧
    findR [108, 105, 110, 107, 112, 97, 116, 104] (recsE e) = (if linkE e.link then ([], false) else (e.link, true)) ∧
    findR [117, 105, 100] (recsE e) = (if idB e.uid then ([], false) else (Lib.itoa e.uid, true)) ∧
    findR [103, 105, 100] (recsE e) = (if idB e.gid then ([], false) else (Lib.itoa e.gid, true)) ∧
    findR [109, 116, 105, 109, 101] (recsE e) = (if timeB e.time then ([], false) else (Lib.itoa e.time, true)) := by
  unfold recsE rst3 rst4 rst5 rst6 rst7
  cases idB e.gid <;> cases linkE e.link <;> cases timeB e.time <;> cases (splitN e.path).2.2 <;> cases idB e.uid <;> simp [recIf, findR, gidB, linkpathB, mtimeB, pathB, uidB]
theorem fieldR_of {fits same : Bool} {rs : List Rcd} {key value : List UInt8} (h1 : findR key rs = if fits then ([], false) else (value, true)) (h2 : fits = true → same = true) : fieldR fits same rs key value = true := by
  unfold fieldR
  rw [h1]
  cases fits with
  | true => simp [h2 rfl]
  | false => simp
theorem saysOk_of {e : Ent} (hf : FieldsOk e) : SaysOk (hdrE e (recsE e)) (recsE e) e := by
  obtain ⟨f1, f2, f3, f4, f5⟩ := find_recs e
  rw [hdrE_eq]
  refine ⟨rfl, key5_recs, ?_, ?_, ?_, ?_, ?_, ?_, ?_, ?_⟩
  · rcases hf.kinds with h | h | h | h
    · exact .inl ⟨h.1, by rw [h.1]; rfl⟩
    · exact .inr (.inl ⟨h.1, by rw [h.1]; rfl⟩)
    · exact .inr (.inr (.inl ⟨h.1, by rw [h.1]; rfl⟩))
    · exact .inr (.inr (.inr ⟨h.1, by rw [h.1]; rfl⟩))
  · exact fieldR_of f1 fun h => by simp [h]
  · intro hl
    have hn : linkE e.link = true := by rw [hl]; rfl
    rw [hn] at f2 ⊢
    exact fieldR_of (fits := true) f2 fun _ => by simp
  · intro hl
    rw [linkE_ne hl] at f2 ⊢
    exact fieldR_of f2 fun h => by simp [h]
  · rw [idB_dec hf.uid.1]
    exact fieldR_of f3 fun h => by simp [h]
  · rw [idB_dec hf.gid.1]
    exact fieldR_of f4 fun h => by simp [h]
  · intro ht
    rw [timeB_dec ht]
    exact fieldR_of f5 fun h => by simp [h]
  · intro ht
    rw [timeB_neg ht] at f5 ⊢
    exact fieldR_of (fits := false) f5 fun h => by cases h
theorem blkAt_of {W R : List UInt8} {k : Nat} {H : Hd} {body : List UInt8} (hW : W.drop k = encB H ++ (padL body ++ R)) (hok : encOk H = true) (hs : H.size = body.length) (hR : 1024 ≤ R.length) : BlkAt W k H body (padN body.length) := by
  have hl := encB_length H
  have hlen := congrArg List.length hW
  simp only [List.length_append, List.length_drop, padL_length] at hlen
  have d1 : W.drop (k + 512) = padL body ++ R := by
    rw [← List.drop_drop, hW, List.drop_left' hl]
  refine ⟨hok, hs, rfl, ?_, ?_, ?_, by omega⟩
  · rw [hW, List.take_left' hl]
  · rw [d1]
    unfold padL
    rw [List.append_assoc, List.take_left' rfl]
  · rw [← List.drop_drop, d1]
    unfold padL
    rw [List.append_assoc, List.drop_left' rfl, List.take_left' (by simp)]
theorem large_small : ∀ (t : List Ent) (n : Int), 0 ≤ n → largeB n t = false → n + 512 * t.length ≤ 65536 + (if t = [] then n else 0) ∧ ∀ e ∈ t, e.data.l.length ≤ 65536 ∧ e.path.length ≤ 65536 ∧ e.link.length ≤ 65536
  | [], n, _, _ => by simp; omega
  | e :: t, n, h0, h => by
    unfold largeB at h
    by_cases hc : 65536 < n + (512 + (e.data.l.length : Int) + e.path.length + e.link.length)
    · rw [if_pos hc] at h; cases h
    rw [if_neg hc] at h
    obtain ⟨h1, h2⟩ := large_small t _ (by omega) h
    refine ⟨?_, fun x hx => ?_⟩
    · simp only [List.length_cons, reduceCtorEq, if_false]
      split at h1
      · rename_i ht
        subst ht
        simp
        omega
      · omega
    · rcases List.mem_cons.1 hx with rfl | hx
      · omega
      · exact h2 x hx
theorem large_len {t : List Ent} (h : largeB 0 t = false) : t.length ≤ 128 := by
  have := (large_small t 0 (by omega) h).1
  split at this <;> omega
theorem piece_mod (n : Int) (e : Ent) : (pieceL n e).length % 512 = 0 := by
  have h1 : ∀ l : List UInt8, (padL l).length % 512 = 0 := by
    intro l
    have := pad_whole l
    unfold wholeN at this
    omega
  have h2 := h1 e.data.l
  have h3 := encB_length (hdrE e (recsE e))
  have h4 : (preE n e).length % 512 = 0 := by
    unfold preE
    split
    · rfl
    · have := h1 (bodyE e)
      have := encB_length (hdX n (bodyE e))
      rw [List.length_append]
      omega
  unfold pieceL
  simp only [List.length_append]
  omega
theorem out_mod : ∀ (t : List Ent) (i : Nat), (outL i t).length % 512 = 0
  | [], _ => rfl
  | e :: t, i => by
    have h1 := piece_mod i e
    have h2 := out_mod t (i + 1)
    simp only [outL, List.length_append]
    omega
end Go.Abs
/- THE FIXED FACT: alive. TarNone. -/
namespace Go.Abs
open Am
set_option maxRecDepth 100000
set_option linter.unusedSimpArgs false
def helloL : List UInt8 := [104, 101, 108, 108, 111]
def eA : Ent := ⟨[97], 2, 0, 0, 0, 0, [], .mk false false helloL⟩
def wA : List UInt8 := writeL [eA]
theorem checkA : (checkT [eA]).2 = 0 := by decide +kernel
theorem recsA : recsE eA = [] := by
  unfold recsE rst3 rst4 rst5 rst6 rst7
  have h1 : idB eA.gid = true := idB_iff.2 ⟨by decide, by decide⟩
  have h2 : linkE eA.link = true := rfl
  have h3 : timeB eA.time = true := timeB_iff.2 ⟨by decide, by decide⟩
  have h4 : (splitN eA.path).2.2 = true := by decide
  have h5 : idB eA.uid = true := idB_iff.2 ⟨by decide, by decide⟩
  rw [h1, h2, h3, h4, h5]
  rfl
theorem wA_eq : wA = encB (hdrE eA []) ++ (helloL ++ (List.replicate 507 0 ++ zeros1024)) := by
  unfold wA writeL outL pieceL preE
  rw [recsA, if_pos rfl]
  simp only [outL, List.nil_append, List.append_nil, List.append_assoc]
  rfl
theorem lenA : wA.length = 2048 := by
  rw [wA_eq]
  simp only [List.length_append, encB_length, zeros1024_length, List.length_replicate]
  rfl
theorem helloA : (wA.drop 512).take 5 = helloL := by
  rw [wA_eq, List.drop_left' (encB_length _), List.take_left' (show helloL.length = 5 from rfl)]
theorem readA (c t : Bool) : readE (.mk c t wA) = some [rdEnt eA] := readE_writeL c t checkA
set_option maxHeartbeats 4000000 in
theorem s14 : callT AA 14 [] [] = some (.bool true, []) := by
  have h17 : ∀ c t, callT AA 17 [.view 8 [.agg [.str [97], .int .i64 2, .int .i64 0, .int .i64 0, .int .i64 0, .int .i64 0, .str [], .view 1 [.int .u8 104, .int .u8 101, .int .u8 108, .int .u8 108, .int .u8 111] false false]] c t] [] = some (.tuple [.own 0 1 0 2048 false, .lit .nilIface], [(0, .row (wA.map .byte) 1)]) := by
    intro c t
    have h := w17 c t [eA] (by simp) (by simp) (by
      intro e he
      rw [List.mem_singleton.1 he]
      exact ⟨by decide, by decide, helloL, rfl, by decide⟩) (by rw [checkT_map Ent.cp same_cp]; exact checkA)
    rw [show writeL [eA] = wA from rfl, lenA] at h
    exact h
  have h24 : ∀ c t, callT AA 24 [.view 1 (wA.map .byte) c t] [] = some (.tuple [.own 0 8 0 1 false, .lit .nilIface], [(0, .row [.agg [.str [97], .int .i64 2, .int .i64 0, .int .i64 0, .int .i64 0, .int .i64 0, .str [], .view 1 (helloL.map .byte) false false]] 8)]) := by
    intro c t
    have h := s24 (.mk c t wA) (by simp only [BS.l]; rw [lenA]; omega)
    rw [readA] at h
    exact h
  have et : (wA.map AVal.byte).take 2048 = wA.map .byte := List.take_of_length_le (by rw [List.length_map, lenA]; omega)
  have hd : List.take 5 (List.drop 512 (wA.map AVal.byte)) = helloL.map .byte := by
    rw [← List.map_drop, ← List.map_take, helloA]
  have hh : decide (helloL = [104, 101, 108, 108, 111]) = true := rfl
  have h97 : decide (([97] : List UInt8) = [97]) = true := rfl
  have hl : (wA.map AVal.byte).length = 2048 := by rw [List.length_map, lenA]
  generalize wA = W at *
  refine enter fn14 np14 rfl ?_
  (simp (maxSteps := 2000000) (disch := omega) only [b14, h17, h24, et, hd, hh, h97, hl, sl_own_both, ldE_head, go_sem]) <;> repeat' (first | ((first | refine gd_dec ?_ ?_ | refine gd_ndec ?_ ?_ | refine cd_dec ?_ ?_ | refine cd_ndec ?_ ?_ | refine gdd_dec ?_ ?_ | refine gdd_ndec ?_ ?_ | refine gd_of ?_ ?_ | refine cd_of ?_ ?_ | refine gdd_of ?_ ?_) <;> intro hg <;> first | (exfalso; omega) | (simp (maxSteps := 2000000) (disch := omega) only [hg, b14, h17, h24, et, hd, hh, h97, hl, sl_own_both, ldE_head, go_sem])) | (refine And.intro ?_ ?_; focus omega) | omega)
end Go.Abs
/- TarForms: its loop. -/
namespace Go.Abs
open Am
set_option maxRecDepth 100000
set_option linter.unusedSimpArgs false
abbrev EnvF (ct tt : Bool) (t : List Ent) (q : Nat) (N a nx : Int) (X : AVal) (xb : Bool) : List AVal := [.view 8 (t.map Ent.av) ct tt, .junk, .bool false, .own 0 1 0 q false, .junk, .int .i64 N, .int .i64 a, .int .i64 nx, X, .bool xb, .junk, .junk, .junk, .junk, .junk, .junk, .junk, .junk, .junk, .junk, .junk, .junk, .junk, .junk, .junk, .junk, .junk, .junk, .junk, .junk, .junk, .junk, .junk, .junk, .junk, .junk, .junk, .junk, .junk, .junk, .junk, .junk, .junk, .junk, .junk, .junk, .junk, .junk, .junk, .junk, .junk, .junk, .junk, .junk, .junk, .junk, .junk, .junk, .junk, .junk, .junk, .junk, .junk, .junk, .junk, .junk, .junk, .junk, .junk, .junk, .junk, .junk, .junk, .junk, .junk, .junk, .junk, .junk, .junk, .junk, .junk, .junk, .junk, .junk, .junk, .junk, .junk, .junk, .junk, .junk, .junk, .junk, .junk, .junk, .junk, .junk, .junk, .junk, .junk, .junk, .junk, .junk, .junk, .junk, .junk, .junk, .junk, .junk, .junk, .junk, .junk, .junk, .junk, .junk, .junk, .junk, .junk, .junk, .junk, .junk, .junk, .junk, .junk, .junk, .junk, .junk, .junk, .junk, .junk, .junk, .junk, .junk, .junk, .junk, .junk, .junk, .junk, .junk, .junk, .junk, .junk, .junk, .junk, .junk]
/-- an entry's rounds -/
theorem step7_nil (ct tt : Bool) (t : List Ent) (W : List UInt8) (q k i : Nat) (N a nx : Int) (e : Ent) (R : List UInt8) (F : FinP) (hW : W.drop k = pieceL i e ++ R) (hR : 1024 ≤ R.length) (hq : W.length = q) (hN : N = (q : Int) - 1024) (ha : a = k) (hi : nx = i) (hlt : i < t.length) (hg : t[i]? = some e) (htl : t.length ≤ 128) (hf : FieldsOk e) (hp : e.path.length ≤ 400) (hin : i < 201) (hq1 : q ≤ 1000000000)
    (ih : HD AA 0 [0, 2, 3, 5, 6, 7, 8, 9] l7_0 ⟨EnvF ct tt t q N (a + (pieceL i e).length) (nx + 1) (.lit (.slice none 0 0)) false, [(0, .row (W.map .byte) 1)], 1⟩ [.blk 0, .code r7_0] F) :
    HD AA 0 [0, 2, 3, 5, 6, 7, 8, 9] l7_0 ⟨EnvF ct tt t q N a nx (.lit (.slice none 0 0)) false, [(0, .row (W.map .byte) 1)], 1⟩ [.blk 0, .code r7_0] F := by
  have hE := entB_of hf hp
  have hpo := pieceOk_of hf hp hin
  have hsz : (hdrE e (recsE e)).size = e.data.l.length := by rw [hdrE_eq]
  have hty : ¬ ((hdrE e (recsE e)).type.toNat : Int) = 120 := by
    have h1 : (hdrE e (recsE e)).type = typeB e.kind := by rw [hdrE_eq]
    rw [h1]
    rcases hf.kinds with h | h | h | h
    all_goals rw [h.1]
    all_goals decide
  have hbl := hf.data
  have hs := saysOk_of hf
  have hgn : t[nx.toNat]? = some e := by
    have : nx.toNat = i := by omega
    rw [this]
    exact hg
  obtain ⟨ok1, ok2⟩ := hpo
  have hw : ∀ n : Nat, ((n : Int) + 511) / 512 * 512 = (n : Int) + padN n := by
    intro n
    unfold padN
    omega
  have hpl := padL_length e.data.l
  by_cases hr : recsE e = []
  · have hpc : pieceL i e = encB (hdrE e (recsE e)) ++ padL e.data.l := by
      unfold pieceL preE
      rw [if_pos hr, List.nil_append]
    have hb := blkAt_of (W := W) (R := R) (k := k) (by rw [hW, hpc, List.append_assoc]) ok1 hsz hR
    have hlen : ((pieceL i e).length : Int) = 512 + ((e.data.l.length : Int) + padN e.data.l.length) := by
      rw [hpc, List.length_append, encB_length, hpl]
      omega
    rw [hlen, ← Int.add_assoc] at ih
    have hs' : SaysOk (hdrE e (recsE e)) [] e := by
      have := hs
      rw [hr] at this ⊢
      exact this
    exact f7s_nil ct tt t W q k _ N a nx ((e.data.l.length : Int) + padN e.data.l.length) _ e.data.l hb hq hN ha (by rw [hsz]; exact hw _) hq1 (by omega) e false hE (by omega) (by omega) hgn (by omega) hty hs' rfl F ih
  · obtain ⟨o1, o2⟩ := ok2 hr
    obtain ⟨body, hbo⟩ := Option.isSome_iff_exists.1 o1
    have hbe : bodyE e = body := by unfold bodyE; rw [hbo]; rfl
    have hbo2 := paxE_le _ _ _ _ (by simp) hbo
    have hpc : pieceL i e = encB (hdX i body) ++ (padL body ++ (encB (hdrE e (recsE e)) ++ padL e.data.l)) := by
      unfold pieceL preE
      rw [if_neg hr, hbe]
      simp
    rw [hbe] at o2
    have hpb := padL_length body
    have hW1 : W.drop k = encB (hdX i body) ++ (padL body ++ (encB (hdrE e (recsE e)) ++ (padL e.data.l ++ R))) := by
      rw [hW, hpc]
      simp
    have hb1 := blkAt_of (W := W) (k := k) hW1 o2 rfl (by simp only [List.length_append]; omega)
    have hW2 : W.drop (k + (512 + (body.length + padN body.length))) = encB (hdrE e (recsE e)) ++ (padL e.data.l ++ R) := by
      rw [← List.drop_drop, hW1, ← List.append_assoc, List.drop_left' (by rw [List.length_append, encB_length, hpb])]
    have hb2 := blkAt_of (W := W) (R := R) hW2 ok1 hsz hR
    have hlen : ((pieceL i e).length : Int) = (512 + ((body.length : Int) + padN body.length)) + (512 + ((e.data.l.length : Int) + padN e.data.l.length)) := by
      rw [hpc]
      simp only [List.length_append, encB_length, hpl, hpb]
      omega
    rw [hlen] at ih
    have ih2 := f7s_own ct tt t W q _ _ N (a + 512 + ((body.length : Int) + padN body.length)) nx ((e.data.l.length : Int) + padN e.data.l.length) _ e.data.l hb2 hq hN (by omega) (by rw [hsz]; exact hw _) hq1 (by omega) e (recsE e) (by have := recsE_length e; omega) true hE (by omega) (by omega) hgn (by omega) hty hs rfl F (by
      have e1 : a + ((512 + ((body.length : Int) + padN body.length)) + (512 + ((e.data.l.length : Int) + padN e.data.l.length))) = a + 512 + ((body.length : Int) + padN body.length) + 512 + ((e.data.l.length : Int) + padN e.data.l.length) := by omega
      rw [e1] at ih
      exact ih)
    exact f7x_nil ct tt t W q k _ N a nx ((body.length : Int) + padN body.length) _ body hb1 hq hN ha (hw _) hq1 (by omega) (by omega) (by omega) (by omega) rfl (recsE e) (paxD_paxE hbo) hr F ih2
/-- an entry's rounds -/
theorem step7_own (ct tt : Bool) (t : List Ent) (W : List UInt8) (q k i : Nat) (N a nx : Int) (e : Ent) (R : List UInt8) (F : FinP) (hW : W.drop k = pieceL i e ++ R) (hR : 1024 ≤ R.length) (hq : W.length = q) (hN : N = (q : Int) - 1024) (ha : a = k) (hi : nx = i) (hlt : i < t.length) (hg : t[i]? = some e) (htl : t.length ≤ 128) (hf : FieldsOk e) (hp : e.path.length ≤ 400) (hin : i < 201) (hq1 : q ≤ 1000000000)
    (ih : HD AA 0 [0, 2, 3, 5, 6, 7, 8, 9] l7_0 ⟨EnvF ct tt t q N (a + (pieceL i e).length) (nx + 1) (.lit (.slice none 0 0)) false, [(0, .row (W.map .byte) 1)], 1⟩ [.blk 0, .code r7_0] F) :
    HD AA 0 [0, 2, 3, 5, 6, 7, 8, 9] l7_0 ⟨EnvF ct tt t q N a nx (.own 1 2 0 0 false) false, [(0, .row (W.map .byte) 1), (1, .row [] 2)], 2⟩ [.blk 0, .code r7_0] F := by
  have hE := entB_of hf hp
  have hpo := pieceOk_of hf hp hin
  have hsz : (hdrE e (recsE e)).size = e.data.l.length := by rw [hdrE_eq]
  have hty : ¬ ((hdrE e (recsE e)).type.toNat : Int) = 120 := by
    have h1 : (hdrE e (recsE e)).type = typeB e.kind := by rw [hdrE_eq]
    rw [h1]
    rcases hf.kinds with h | h | h | h
    all_goals rw [h.1]
    all_goals decide
  have hbl := hf.data
  have hs := saysOk_of hf
  have hgn : t[nx.toNat]? = some e := by
    have : nx.toNat = i := by omega
    rw [this]
    exact hg
  obtain ⟨ok1, ok2⟩ := hpo
  have hw : ∀ n : Nat, ((n : Int) + 511) / 512 * 512 = (n : Int) + padN n := by
    intro n
    unfold padN
    omega
  have hpl := padL_length e.data.l
  by_cases hr : recsE e = []
  · have hpc : pieceL i e = encB (hdrE e (recsE e)) ++ padL e.data.l := by
      unfold pieceL preE
      rw [if_pos hr, List.nil_append]
    have hb := blkAt_of (W := W) (R := R) (k := k) (by rw [hW, hpc, List.append_assoc]) ok1 hsz hR
    have hlen : ((pieceL i e).length : Int) = 512 + ((e.data.l.length : Int) + padN e.data.l.length) := by
      rw [hpc, List.length_append, encB_length, hpl]
      omega
    rw [hlen, ← Int.add_assoc] at ih
    have hs' : SaysOk (hdrE e (recsE e)) [] e := by
      have := hs
      rw [hr] at this ⊢
      exact this
    exact f7s_own ct tt t W q k _ N a nx ((e.data.l.length : Int) + padN e.data.l.length) _ e.data.l hb hq hN ha (by rw [hsz]; exact hw _) hq1 (by omega) e [] (by simp) false hE (by omega) (by omega) hgn (by omega) hty hs' rfl F ih
  · obtain ⟨o1, o2⟩ := ok2 hr
    obtain ⟨body, hbo⟩ := Option.isSome_iff_exists.1 o1
    have hbe : bodyE e = body := by unfold bodyE; rw [hbo]; rfl
    have hbo2 := paxE_le _ _ _ _ (by simp) hbo
    have hpc : pieceL i e = encB (hdX i body) ++ (padL body ++ (encB (hdrE e (recsE e)) ++ padL e.data.l)) := by
      unfold pieceL preE
      rw [if_neg hr, hbe]
      simp
    rw [hbe] at o2
    have hpb := padL_length body
    have hW1 : W.drop k = encB (hdX i body) ++ (padL body ++ (encB (hdrE e (recsE e)) ++ (padL e.data.l ++ R))) := by
      rw [hW, hpc]
      simp
    have hb1 := blkAt_of (W := W) (k := k) hW1 o2 rfl (by simp only [List.length_append]; omega)
    have hW2 : W.drop (k + (512 + (body.length + padN body.length))) = encB (hdrE e (recsE e)) ++ (padL e.data.l ++ R) := by
      rw [← List.drop_drop, hW1, ← List.append_assoc, List.drop_left' (by rw [List.length_append, encB_length, hpb])]
    have hb2 := blkAt_of (W := W) (R := R) hW2 ok1 hsz hR
    have hlen : ((pieceL i e).length : Int) = (512 + ((body.length : Int) + padN body.length)) + (512 + ((e.data.l.length : Int) + padN e.data.l.length)) := by
      rw [hpc]
      simp only [List.length_append, encB_length, hpl, hpb]
      omega
    rw [hlen] at ih
    have ih2 := f7s_own ct tt t W q _ _ N (a + 512 + ((body.length : Int) + padN body.length)) nx ((e.data.l.length : Int) + padN e.data.l.length) _ e.data.l hb2 hq hN (by omega) (by rw [hsz]; exact hw _) hq1 (by omega) e (recsE e) (by have := recsE_length e; omega) true hE (by omega) (by omega) hgn (by omega) hty hs rfl F (by
      have e1 : a + ((512 + ((body.length : Int) + padN body.length)) + (512 + ((e.data.l.length : Int) + padN e.data.l.length))) = a + 512 + ((body.length : Int) + padN body.length) + 512 + ((e.data.l.length : Int) + padN e.data.l.length) := by omega
      rw [e1] at ih
      exact ih)
    exact f7x_own ct tt t W q k _ N a nx ((body.length : Int) + padN body.length) _ body hb1 hq hN ha (hw _) hq1 (by omega) [] (by omega) (by omega) (by omega) rfl (recsE e) (paxD_paxE hbo) hr F ih2
theorem loop7 (ct tt : Bool) (t : List Ent) (W : List UInt8) (q : Nat) (N : Int) (hq : W.length = q) (hN : N = (q : Int) - 1024) (htl : t.length ≤ 128) (hq1 : q ≤ 1000000000) (hf : ∀ e ∈ t, FieldsOk e ∧ e.path.length ≤ 400) : ∀ (rest done : List Ent) (k i : Nat) (a nx : Int), t = done ++ rest → i = done.length → W.drop k = outL i rest ++ zeros1024 → a = k → nx = i →
    HD AA 0 [0, 2, 3, 5, 6, 7, 8, 9] l7_0 ⟨EnvF ct tt t q N a nx (.lit (.slice none 0 0)) false, [(0, .row (W.map .byte) 1)], 1⟩ [.blk 0, .code r7_0] (Fin [(2, none)] 0 (.bool true) [])
  | [], done, k, i, a, nx, h1, h2, h3, h4, h5 => by
    have hz := zeros1024_length
    have hl := congrArg List.length h3
    simp only [List.length_drop, outL, List.nil_append] at hl
    have hlt : t.length = i := by rw [h1, h2]; simp
    refine hd_of (by unfold l7_0; rfl) ?_
    (simp (maxSteps := 2000000) (disch := omega) only [r7_0, go_sem]) <;> repeat' (first | ((first | refine gd_dec ?_ ?_ | refine gd_ndec ?_ ?_ | refine cd_dec ?_ ?_ | refine cd_ndec ?_ ?_ | refine gdd_dec ?_ ?_ | refine gdd_ndec ?_ ?_ | refine gd_of ?_ ?_ | refine cd_of ?_ ?_ | refine gdd_of ?_ ?_) <;> intro hg <;> first | (exfalso; omega) | (simp (maxSteps := 2000000) (disch := omega) only [hg, r7_0, go_sem])) | (refine And.intro ?_ ?_; focus omega) | omega)
  | e :: rest, done, k, i, a, nx, h1, h2, h3, h4, h5 => by
    have hg : t[i]? = some e := by
      rw [h1, h2]
      simp
    have hlt : i < t.length := by rw [h1, h2]; simp
    obtain ⟨f1, f2⟩ := hf e (by rw [h1]; simp)
    have hW : W.drop k = pieceL i e ++ (outL (i + 1) rest ++ zeros1024) := by
      rw [h3]
      simp [outL]
    refine step7_nil ct tt t W q k i N a nx e _ _ hW (by rw [List.length_append, zeros1024_length]; omega) hq hN h4 h5 hlt hg htl f1 f2 (by omega) hq1 ?_
    exact loop7 ct tt t W q N hq hN htl hq1 hf rest (done ++ [e]) (k + (pieceL i e).length) (i + 1) _ _ (by simp [h1]) (by simp [h2]) (by rw [← List.drop_drop, hW, List.drop_left' rfl]) (by omega) (by omega)
theorem first7 (ct tt : Bool) (t : List Ent) (W : List UInt8) (q : Nat) (N : Int) (hq : W.length = q) (hN : N = (q : Int) - 1024) (htl : t.length ≤ 128) (hq1 : q ≤ 1000000000) (hf : ∀ e ∈ t, FieldsOk e ∧ e.path.length ≤ 400) (hW0 : W = outL 0 t ++ zeros1024) :
    HD AA 0 [0, 2, 3, 5, 6, 7, 8, 9] l7_0 ⟨EnvF ct tt t q N 0 0 (.own 1 2 0 0 false) false, [(0, .row (W.map .byte) 1), (1, .row [] 2)], 2⟩ [.blk 0, .code r7_0] (Fin [(2, none)] 0 (.bool true) []) := by
  cases t with
  | nil =>
    have hz := zeros1024_length
    have hl := congrArg List.length hW0
    simp only [outL, List.nil_append] at hl
    refine hd_of (by unfold l7_0; rfl) ?_
    (simp (maxSteps := 2000000) (disch := omega) only [r7_0, go_sem]) <;> repeat' (first | ((first | refine gd_dec ?_ ?_ | refine gd_ndec ?_ ?_ | refine cd_dec ?_ ?_ | refine cd_ndec ?_ ?_ | refine gdd_dec ?_ ?_ | refine gdd_ndec ?_ ?_ | refine gd_of ?_ ?_ | refine cd_of ?_ ?_ | refine gdd_of ?_ ?_) <;> intro hg <;> first | (exfalso; omega) | (simp (maxSteps := 2000000) (disch := omega) only [hg, r7_0, go_sem])) | (refine And.intro ?_ ?_; focus omega) | omega)
  | cons e rest =>
    obtain ⟨f1, f2⟩ := hf e (by simp)
    have hW : W.drop 0 = pieceL (0 : Nat) e ++ (outL 1 rest ++ zeros1024) := by
      rw [hW0]
      simp [outL]
    refine step7_own ct tt (e :: rest) W q 0 0 N 0 0 e _ _ hW (by rw [List.length_append, zeros1024_length]; omega) hq hN rfl rfl (by simp) rfl htl f1 f2 (by omega) hq1 ?_
    exact loop7 ct tt (e :: rest) W q N hq hN htl hq1 hf rest [e] (pieceL (0 : Nat) e).length 1 _ _ rfl rfl (by have := hW; rw [List.drop_zero] at this; rw [this, List.drop_left' rfl]) (by omega) (by omega)
end Go.Abs
