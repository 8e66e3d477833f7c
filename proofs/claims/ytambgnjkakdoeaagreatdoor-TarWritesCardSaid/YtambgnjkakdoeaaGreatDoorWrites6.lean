import Derived.Test.YtambgnjkakdoeaaGreatDoorWrites5
/- PART OF A PROOF (texts joined by a program): T3 T4 B5. -/
set_option linter.unusedVariables false
set_option linter.unusedSimpArgs false
set_option linter.unusedSectionVars false
namespace Go.Abs
section
variable {A : AProg} {m nid n : Nat} {d : Option Nat} {env : List AVal} {h h' : Heap} {S : List Frame} {F : FinP} {ops : List AOper} {s : List UInt8} {k k' : IntKind} {i j : Int} {α : Type} {l : List α} {f : α → AVal} {x y v : AOpd} {id z sz off len p : Nat} {clip tmp agg : Bool} {es : List AVal} {b : BS} {ps : List (Nat × Nat)} {base : Nat} {fs : List Foot} {ft : Foot} {K : AVal × Heap → Prop}
attribute [go_sem] List.length_append List.length_replicate List.length_set List.length_drop List.length_take Nat.zero_add Nat.add_zero Int.add_zero Int.zero_add
def ixaV (sz : Nat) (v w : AVal) (h : Heap) : Option (AVal × Heap) := match v, toNat? w with
  | .view z es _ tmp, some i => match es[i]? with
    | some e => if z = sz then some (.rptr e.cells tmp, h) else none
    | none => none
  | .own id z off len _, some i => if z = sz ∧ i < len then some (.eptr id (off + i) 0, h) else none
  | _, _ => none
@[go_sem high] theorem aop_ixa : aop (.ixa sz x y) env nid h = ixaV sz (x.ev env) (y.ev env) h := rfl
theorem xp_ixa_view : (∃ r, ixaV sz (.view z es clip tmp) (.int k i) h = some r ∧ K r) ↔ (z = sz ∧ 0 ≤ i ∧ i.toNat < es.length) ∧ ∀ e, es[i.toNat]? = some e → K (.rptr e.cells tmp, h) := by
  unfold ixaV toNat?
  by_cases h0 : 0 ≤ i
  · simp only [h0, if_true, true_and]
    by_cases h1 : i.toNat < es.length
    · simp only [List.getElem?_eq_getElem h1, h1, and_true]
      by_cases hz : z = sz <;> simp [hz]
    · simp [List.getElem?_eq_none (Nat.not_lt.1 h1), h1]
  · simp [h0]
theorem xp_ixa_map : (∃ r, ixaV sz (.view z (l.map f) clip tmp) (.int k i) h = some r ∧ K r) ↔ (z = sz ∧ 0 ≤ i ∧ i.toNat < l.length) ∧ ∀ a, l[i.toNat]? = some a → K (.rptr (f a).cells tmp, h) := by
  rw [xp_ixa_view]
  simp only [List.length_map, List.getElem?_map, Option.map_eq_some_iff]
  constructor
  · rintro ⟨h1, h2⟩
    exact ⟨h1, fun a ha => h2 _ ⟨a, ha, rfl⟩⟩
  · rintro ⟨h1, h2⟩
    exact ⟨h1, fun e ⟨a, ha, he⟩ => he ▸ h2 a ha⟩
@[go_sem] theorem ixa_own : ixaV sz (.own id z off len clip) (.int k i) h = if z = sz ∧ 0 ≤ i ∧ i.toNat < len then some (.eptr id (off + i.toNat) 0, h) else none := by
  unfold ixaV toNat?
  by_cases h0 : 0 ≤ i
  · simp only [h0, if_true, true_and]
  · simp [h0]
theorem xp_ixa_bs : (∃ r, ixaV 1 b.av (.int k i) h = some r ∧ K r) ↔ (0 ≤ i ∧ i.toNat < b.l.length) ∧ ∀ a, b.l[i.toNat]? = some a → K (.rptr [.int .u8 a.toNat] b.isTmp, h) := by
  cases b with
  | nil =>
    simp only [BS.av, BS.l, List.length_nil, Nat.not_lt_zero, and_false, false_and, iff_false]
    rintro ⟨r, h1, _⟩
    unfold ixaV at h1
    simp at h1
  | mk clip tmp l =>
    simp only [BS.av, BS.l, xp_ixa_map, true_and, BS.isTmp]
    rfl
@[go_sem] theorem op_ixa_map : OP A m (ixaV sz (.view z (l.map f) clip tmp) (.int k i) h) d ops nid env n S F ↔ (z = sz ∧ 0 ≤ i ∧ i.toNat < l.length) ∧ ∀ a, l[i.toNat]? = some a → RN A m ops (nid + stride) (setAt d (.rptr (f a).cells tmp) env) h n S F := xp_ixa_map
@[go_sem] theorem od_ixa_map : OD A m ps base fs ft (ixaV sz (.view z (l.map f) clip tmp) (.int k i) h) d ops nid env n S F ↔ (z = sz ∧ 0 ≤ i ∧ i.toNat < l.length) ∧ ∀ a, l[i.toNat]? = some a → RD A m ps base (fs ++ [ft]) ops (nid + stride) (setAt d (.rptr (f a).cells tmp) env) h n S F := xp_ixa_map
@[go_sem] theorem op_ixa_bs : OP A m (ixaV 1 b.av (.int k i) h) d ops nid env n S F ↔ (0 ≤ i ∧ i.toNat < b.l.length) ∧ ∀ a, b.l[i.toNat]? = some a → RN A m ops (nid + stride) (setAt d (.rptr [.int .u8 a.toNat] b.isTmp) env) h n S F := xp_ixa_bs
@[go_sem] theorem od_ixa_bs : OD A m ps base fs ft (ixaV 1 b.av (.int k i) h) d ops nid env n S F ↔ (0 ≤ i ∧ i.toNat < b.l.length) ∧ ∀ a, b.l[i.toNat]? = some a → RD A m ps base (fs ++ [ft]) ops (nid + stride) (setAt d (.rptr [.int .u8 a.toNat] b.isTmp) env) h n S F := xp_ixa_bs
def ldV (sz : Nat) (agg : Bool) (v : AVal) (h : Heap) : Option (AVal × Heap) := match v with
  | .rptr cs _ => (part cs 0 sz agg).map (·, h)
  | .ptr id o => match h.get id with
    | some (.var cs) => (part cs o sz agg).map (·, h)
    | _ => none
  | .eptr id i o => match h.get id with
    | some (.row es _) => match es[i]? with
      | some e => (part e.cells o sz agg).map (·, h)
      | none => none
    | _ => none
  | _ => none
def ldE (es : List AVal) (i o sz : Nat) (agg : Bool) (h : Heap) : Option (AVal × Heap) := match es[i]? with
  | some e => (part e.cells o sz agg).map (·, h)
  | none => none
@[go_sem high] theorem aop_ld : aop (.ld sz agg x) env nid h = ldV sz agg (x.ev env) h := rfl
@[go_sem] theorem ldV_rptr {cs : List AVal} : ldV sz agg (.rptr cs tmp) h = (part cs 0 sz agg).map (·, h) := rfl
@[go_sem] theorem ldV_ptr {o : Nat} : ldV sz agg (.ptr id o) h = (match h.get id with | some (.var cs) => (part cs o sz agg).map (·, h) | _ => none) := rfl
@[go_sem] theorem ldV_eptr {o q : Nat} : ldV sz agg (.eptr id q o) h = (match h.get id with | some (.row es _) => ldE es q o sz agg h | _ => none) := rfl
theorem xp_ldE {q o : Nat} : (∃ r, ldE es q o sz agg h = some r ∧ K r) ↔ q < es.length ∧ ∀ e, es[q]? = some e → ∃ r, (part e.cells o sz agg).map (·, h) = some r ∧ K r := by
  unfold ldE
  by_cases h1 : q < es.length
  · simp [List.getElem?_eq_getElem h1, h1]
  · simp [List.getElem?_eq_none (Nat.not_lt.1 h1), h1]
theorem xp_ldE_map {q o : Nat} : (∃ r, ldE (l.map f) q o sz agg h = some r ∧ K r) ↔ q < l.length ∧ ∀ a, l[q]? = some a → ∃ r, (part (f a).cells o sz agg).map (·, h) = some r ∧ K r := by
  rw [xp_ldE]
  simp only [List.length_map, List.getElem?_map, Option.map_eq_some_iff (x := l[q]?)]
  constructor
  · rintro ⟨h1, h2⟩
    exact ⟨h1, fun a ha => h2 _ ⟨a, ha, rfl⟩⟩
  · rintro ⟨h1, h2⟩
    exact ⟨h1, fun e ⟨a, ha, he⟩ => he ▸ h2 a ha⟩
@[go_sem] theorem op_ldE_map {q o : Nat} : OP A m (ldE (l.map f) q o sz agg h) d ops nid env n S F ↔ q < l.length ∧ ∀ a, l[q]? = some a → OP A m ((part (f a).cells o sz agg).map (·, h)) d ops nid env n S F := xp_ldE_map
@[go_sem] theorem od_ldE_map {q o : Nat} : OD A m ps base fs ft (ldE (l.map f) q o sz agg h) d ops nid env n S F ↔ q < l.length ∧ ∀ a, l[q]? = some a → OD A m ps base fs ft ((part (f a).cells o sz agg).map (·, h)) d ops nid env n S F := xp_ldE_map
/-- all elements are of so many cells -/
def RowOf (sz : Nat) (es : List AVal) : Prop := ∀ e ∈ es, e.cells.length = sz
theorem RowOf.nil : RowOf sz [] := by simp [RowOf]
theorem RowOf.cons {e : AVal} {r : List AVal} (h1 : e.cells.length = sz) (h2 : RowOf sz r) : RowOf sz (e :: r) := by
  intro e' he
  rcases List.mem_cons.1 he with rfl | h
  · exact h1
  · exact h2 e' h
theorem RowOf.append {a c : List AVal} (h1 : RowOf sz a) (h2 : RowOf sz c) : RowOf sz (a ++ c) := by
  intro e he
  rcases List.mem_append.1 he with h | h
  · exact h1 e h
  · exact h2 e h
theorem RowOf.map (hf : ∀ a, (f a).cells.length = sz) : RowOf sz (l.map f) := by
  intro e he
  obtain ⟨a, _, rfl⟩ := List.mem_map.1 he
  exact hf a
theorem RowOf.replicate {q : Nat} {e : AVal} (he : e.cells.length = sz) : RowOf sz (List.replicate q e) := by
  intro e' h
  rw [(List.mem_replicate.1 h).2]
  exact he
theorem RowOf.bytes {s : List UInt8} : RowOf 1 (s.map .byte) := RowOf.map fun _ => rfl
theorem RowOf.strs {s : List (List UInt8)} : RowOf 1 (s.map .str) := RowOf.map fun _ => rfl
def stE (es : List AVal) (s i o sz : Nat) (v : AVal) (id : Nat) (h : Heap) : Option (AVal × Heap) := match es[i]? with
  | some e => if o + sz ≤ s ∧ e.cells.length = s ∧ v.closed then
      some (.undef, h.put id (.row (es.set i (if sz = s then v else .agg (splice e.cells o v.cells))) s)) else none
  | none => none
def stV (sz : Nat) (p v : AVal) (h : Heap) : Option (AVal × Heap) :=
  if v.cells.length = sz ∧ v.cells.all AVal.leaf then
    match p with
    | .ptr id o => match h.get id with
      | some (.var cs) => if o + sz ≤ cs.length then some (.undef, h.put id (.var (splice cs o v.cells))) else none
      | _ => none
    | .eptr id i o => match h.get id with
      | some (.row es s) => stE es s i o sz v id h
      | _ => none
    | _ => none
  else none
@[go_sem high] theorem aop_st : aop (.st sz x v) env nid h = stV sz (x.ev env) (v.ev env) h := rfl
def stP (sz : Nat) (p v : AVal) (h : Heap) : Option (AVal × Heap) := match p with
    | .ptr id o => match h.get id with
      | some (.var cs) => if o + sz ≤ cs.length then some (.undef, h.put id (.var (splice cs o v.cells))) else none
      | _ => none
    | .eptr id i o => match h.get id with
      | some (.row es s) => stE es s i o sz v id h
      | _ => none
    | _ => none
@[go_sem] theorem stV_eq {p v : AVal} : stV sz p v h = if v.cells.length = sz ∧ v.cells.all AVal.leaf = true then stP sz p v h else none := rfl
@[go_sem] theorem stP_ptr {o : Nat} {v : AVal} : stP sz (.ptr id o) v h = (match h.get id with
      | some (.var cs) => if o + sz ≤ cs.length then some (.undef, h.put id (.var (splice cs o v.cells))) else none
      | _ => none) := rfl
@[go_sem] theorem stP_eptr {o q : Nat} {v : AVal} : stP sz (.eptr id q o) v h = (match h.get id with
      | some (.row es s) => stE es s q o sz v id h
      | _ => none) := rfl
@[go_sem] theorem stE_whole {q : Nat} {v : AVal} (hr : RowOf sz es) : stE es sz q 0 sz v id h = if q < es.length ∧ v.closed = true then some (.undef, h.put id (.row (es.set q v) sz)) else none := by
  unfold stE
  by_cases h1 : q < es.length
  · have hc := hr es[q] (List.getElem_mem h1)
    simp [List.getElem?_eq_getElem h1, h1, hc]
  · simp [List.getElem?_eq_none (Nat.not_lt.1 h1), h1]
/-- a byte is written -/
@[go_sem high] theorem stE_byte {q : Nat} {c : Int} {s : List UInt8} (h0 : 0 ≤ c) (h1 : c ≤ 255) : stE (s.map .byte) 1 q 0 1 (.int .u8 c) id h = if q < s.length then some (.undef, h.put id (.row ((s.set q (UInt8.ofNat c.toNat)).map .byte) 1)) else none := by
  rw [stE_whole RowOf.bytes]
  have e : (s.map AVal.byte).set q (.int .u8 c) = (s.set q (UInt8.ofNat c.toNat)).map AVal.byte := by
    rw [List.map_set]
    congr 1
    simp only [AVal.byte, AVal.int.injEq, true_and]
    have : (UInt8.ofNat c.toNat).toNat = c.toNat := UInt8.toNat_ofNat_of_lt' (by simp [UInt8.size]; omega)
    rw [this]
    omega
  rw [e]
  simp [AVal.closed, AVal.cells, AVal.flat]
@[go_sem] theorem map_ite {α β : Type} {c : Prop} [Decidable c] {f : α → β} {x : α} : Option.map f (if c then some x else none) = if c then some (f x) else none := by
  split <;> rfl
@[go_sem] theorem bind_ite {α β : Type} {c : Prop} [Decidable c] {f : α → Option β} {x : α} : Option.bind (if c then some x else none) f = if c then f x else none := by
  split <;> rfl
@[go_sem] theorem take_map_len {α β : Type} {l : List α} {f : α → β} : (l.map f).take l.length = l.map f := List.take_of_length_le (by simp)
theorem sl_str {lo hi : Option AVal} {a c : Nat} (h1 : natOr 0 lo = some a) (h2 : natOr s.length hi = some c) : aSlice 1 (.str s) lo hi none = if a ≤ c ∧ c ≤ s.length then some (.str ((s.drop a).take (c - a))) else none := by
  unfold aSlice bounds
  simp only [h1, h2]
  by_cases hc : a ≤ c ∧ c ≤ s.length
  · simp [hc]
  · simp only [hc, if_false]
@[go_sem] theorem sl_str_lo : aSlice 1 (.str s) (some (.int k i)) none none = if 0 ≤ i ∧ i ≤ s.length then some (.str (s.drop i.toNat)) else none := by
  by_cases h0 : 0 ≤ i
  · rw [sl_str (a := i.toNat) (c := s.length) (by simp [natOr, toNat?, h0]) rfl]
    have e : (s.drop i.toNat).take (s.length - i.toNat) = s.drop i.toNat := List.take_of_length_le (by simp)
    rw [e]
    have : (i.toNat ≤ s.length ∧ s.length ≤ s.length) = (0 ≤ i ∧ i ≤ s.length) := by apply propext; omega
    simp only [this]
  · simp [aSlice, bounds, natOr, toNat?, h0]
@[go_sem] theorem sl_str_hi : aSlice 1 (.str s) none (some (.int k i)) none = if 0 ≤ i ∧ i ≤ s.length then some (.str (s.take i.toNat)) else none := by
  by_cases h0 : 0 ≤ i
  · rw [sl_str (a := 0) (c := i.toNat) rfl (by simp [natOr, toNat?, h0])]
    simp only [List.drop_zero, Nat.sub_zero]
    have : (0 ≤ i.toNat ∧ i.toNat ≤ s.length) = (0 ≤ i ∧ i ≤ s.length) := by apply propext; omega
    simp only [this]
  · simp [aSlice, bounds, natOr, toNat?, h0]
@[go_sem] theorem sl_str_both : aSlice 1 (.str s) (some (.int k i)) (some (.int k' j)) none = if 0 ≤ i ∧ i ≤ j ∧ j ≤ s.length then some (.str ((s.drop i.toNat).take (j.toNat - i.toNat))) else none := by
  by_cases h0 : 0 ≤ i
  · by_cases h1 : 0 ≤ j
    · rw [sl_str (a := i.toNat) (c := j.toNat) (by simp [natOr, toNat?, h0]) (by simp [natOr, toNat?, h1])]
      have : (i.toNat ≤ j.toNat ∧ j.toNat ≤ s.length) = (0 ≤ i ∧ i ≤ j ∧ j ≤ s.length) := by apply propext; omega
      simp only [this]
    · have hf : ¬ (0 ≤ i ∧ i ≤ j ∧ j ≤ s.length) := by omega
      simp [aSlice, bounds, natOr, toNat?, h1, hf]
  · simp [aSlice, bounds, natOr, toNat?, h0]
/-- a part of a slice of bytes -/
def BS.sl (b : BS) (lo hi : Nat) : BS := match b with
  | .nil => .nil
  | .mk clip tmp l => .mk (clip && hi == l.length) tmp ((l.drop lo).take (hi - lo))
theorem BS.sl_l {lo hi : Nat} : (b.sl lo hi).l = (b.l.drop lo).take (hi - lo) := by
  cases b <;> simp [BS.sl, BS.l]
theorem sl_bs {lo hi : Option AVal} {a c : Nat} (h1 : natOr 0 lo = some a) (h2 : natOr b.l.length hi = some c) : aSlice 1 b.av lo hi none = if a ≤ c ∧ c ≤ b.l.length then some (b.sl a c).av else none := by
  cases b with
  | nil =>
    simp only [BS.l, List.length_nil] at h1 h2 ⊢
    unfold aSlice
    simp only [BS.av, BS.sl, bounds, h1, h2]
    by_cases hc : a ≤ c ∧ c ≤ 0
    · simp only [hc, and_self, if_true]
    · simp only [hc, if_false]
  | mk clip tmp l =>
    simp only [BS.l] at h1 h2 ⊢
    unfold aSlice
    simp only [BS.av, BS.sl, bounds, List.length_map, h1, h2]
    by_cases hc : a ≤ c ∧ c ≤ l.length
    · simp [hc, clipOf, List.map_drop, List.map_take]
    · simp only [hc, if_false]
@[go_sem] theorem sl_bs_lo : aSlice 1 b.av (some (.int k i)) none none = if 0 ≤ i ∧ i ≤ b.l.length then some (b.sl i.toNat b.l.length).av else none := by
  by_cases h0 : 0 ≤ i
  · rw [sl_bs (a := i.toNat) (c := b.l.length) (by simp [natOr, toNat?, h0]) rfl]
    have : (i.toNat ≤ b.l.length ∧ b.l.length ≤ b.l.length) = (0 ≤ i ∧ i ≤ b.l.length) := by apply propext; omega
    simp only [this]
  · cases b <;> simp [aSlice, BS.av, bounds, natOr, toNat?, h0]
@[go_sem] theorem sl_bs_hi : aSlice 1 b.av none (some (.int k i)) none = if 0 ≤ i ∧ i ≤ b.l.length then some (b.sl 0 i.toNat).av else none := by
  by_cases h0 : 0 ≤ i
  · rw [sl_bs (a := 0) (c := i.toNat) rfl (by simp [natOr, toNat?, h0])]
    have : (0 ≤ i.toNat ∧ i.toNat ≤ b.l.length) = (0 ≤ i ∧ i ≤ b.l.length) := by apply propext; omega
    simp only [this]
  · cases b <;> simp [aSlice, BS.av, bounds, natOr, toNat?, h0]
@[go_sem] theorem sl_bs_both : aSlice 1 b.av (some (.int k i)) (some (.int k' j)) none = if 0 ≤ i ∧ i ≤ j ∧ j ≤ b.l.length then some (b.sl i.toNat j.toNat).av else none := by
  by_cases h0 : 0 ≤ i
  · by_cases h1 : 0 ≤ j
    · rw [sl_bs (a := i.toNat) (c := j.toNat) (by simp [natOr, toNat?, h0]) (by simp [natOr, toNat?, h1])]
      have : (i.toNat ≤ j.toNat ∧ j.toNat ≤ b.l.length) = (0 ≤ i ∧ i ≤ j ∧ j ≤ b.l.length) := by apply propext; omega
      simp only [this]
    · have hf : ¬ (0 ≤ i ∧ i ≤ j ∧ j ≤ b.l.length) := by omega
      rw [if_neg hf]
      cases b <;> simp [aSlice, BS.av, bounds, natOr, toNat?, h1, h0]
  · cases b <;> simp [aSlice, BS.av, bounds, natOr, toNat?, h0]
theorem sl_own {lo hi : Option AVal} {a c : Nat} (h1 : natOr 0 lo = some a) (h2 : natOr len hi = some c) : aSlice sz (.own id z off len clip) lo hi none = if a ≤ c ∧ c ≤ len ∧ z = sz ∧ (clip = false ∨ c = len) then some (.own id z (off + a) (c - a) clip) else none := by
  unfold aSlice bounds
  simp only [h1, h2]
  by_cases hc : a ≤ c ∧ c ≤ len
  · by_cases hz : z = sz ∧ (clip = false ∨ c = len)
    · simp [hc, hz]
    · have h2 : ¬ (a ≤ c ∧ c ≤ len ∧ z = sz ∧ (clip = false ∨ c = len)) := fun h => hz h.2.2
      rw [if_neg h2]
      simp only [hc, and_self, if_true]
      simp [hz]
  · have h2 : ¬ (a ≤ c ∧ c ≤ len ∧ z = sz ∧ (clip = false ∨ c = len)) := fun h => hc ⟨h.1, h.2.1⟩
    rw [if_neg h2]
    simp only [hc, if_false]
@[go_sem] theorem sl_own_lo : aSlice sz (.own id z off len clip) (some (.int k i)) none none = if 0 ≤ i ∧ i ≤ len ∧ z = sz then some (.own id z (off + i.toNat) (len - i.toNat) clip) else none := by
  by_cases h0 : 0 ≤ i
  · rw [sl_own (a := i.toNat) (c := len) (by simp [natOr, toNat?, h0]) rfl]
    have : (i.toNat ≤ len ∧ len ≤ len ∧ z = sz ∧ (clip = false ∨ len = len)) = (0 ≤ i ∧ i ≤ len ∧ z = sz) := by
      apply propext
      constructor
      · rintro ⟨a, _, c, _⟩
        exact ⟨h0, by omega, c⟩
      · rintro ⟨a, b, c⟩
        exact ⟨by omega, Nat.le_refl _, c, .inr rfl⟩
    exact (ite_congr this (fun _ => rfl) (fun _ => rfl))
  · simp [aSlice, bounds, natOr, toNat?, h0]
@[go_sem] theorem sl_own_hi : aSlice sz (.own id z off len false) none (some (.int k i)) none = if 0 ≤ i ∧ i ≤ len ∧ z = sz then some (.own id z off i.toNat false) else none := by
  by_cases h0 : 0 ≤ i
  · rw [sl_own (a := 0) (c := i.toNat) rfl (by simp [natOr, toNat?, h0])]
    simp only [Nat.add_zero, Nat.sub_zero, true_or, and_true]
    have : (0 ≤ i.toNat ∧ i.toNat ≤ len ∧ z = sz) = (0 ≤ i ∧ i ≤ len ∧ z = sz) := by
      apply propext
      constructor
      · rintro ⟨a, b, c⟩; exact ⟨h0, by omega, c⟩
      · rintro ⟨a, b, c⟩; exact ⟨by omega, by omega, c⟩
    exact (ite_congr this (fun _ => rfl) (fun _ => rfl))
  · simp [aSlice, bounds, natOr, toNat?, h0]
end
section
variable {b : BS} {f : Nat → Option Nat} {h : Heap}
@[go_sem] theorem ids_bs : b.av.ids = [] := by cases b <;> rfl
@[go_sem] theorem ren_bs : b.av.ren f = b.av := by cases b <;> rfl
@[go_sem] theorem ownIds_bs : b.av.ownIds = [] := by cases b <;> rfl
@[go_sem] theorem lend_bs : b.av.lend h = some b.av := by cases b <;> rfl
@[go_sem] theorem cells_bs : b.av.cells = [b.av] := by cases b <;> rfl
@[go_sem] theorem leaf_bs : b.av.leaf = true := by cases b <;> rfl
@[go_sem] theorem elems_bs : elems h b.av = some (b.l.map .byte) := by cases b <;> rfl
@[go_sem] theorem appended_bs : appended h b.av = some (b.l.map .byte) := by cases b <;> rfl
@[go_sem] theorem szIs_bs : szIs 1 b.av = true := by cases b <;> rfl
@[go_sem] theorem bytesOf_map' {l : List UInt8} : bytesOf (l.map .byte) = some l := bytesOf_map l
def lenV (v : AVal) (h : Heap) : Option (AVal × Heap) := match v with
    | .view _ es _ _ => some (.int .i64 es.length, h)
    | .own _ _ _ n _ => some (.int .i64 n, h)
    | .lit (.slice none 0 0) => some (.int .i64 0, h)
    | _ => none
@[go_sem high] theorem aop_len1 {env : List AVal} {nid : Nat} {x : AOpd} : aop (.len 1 x) env nid h = lenV (x.ev env) h := rfl
@[go_sem] theorem lenV_view {z : Nat} {es : List AVal} {c t : Bool} : lenV (.view z es c t) h = some (.int .i64 es.length, h) := rfl
@[go_sem] theorem lenV_own {i z o n : Nat} {c : Bool} : lenV (.own i z o n c) h = some (.int .i64 n, h) := rfl
@[go_sem] theorem lenV_nil : lenV (.lit (.slice none 0 0)) h = some (.int .i64 0, h) := rfl
@[go_sem] theorem lenV_bs : lenV b.av h = some (.int .i64 b.l.length, h) := by cases b <;> simp [lenV, BS.av, BS.l]
end
end Go.Abs
namespace Go.Abs
section
variable {env : List AVal} {nid : Nat} {h : Heap}
def lookS (zero : AVal) (ok : Bool) (k : AVal) (es : List (AVal × AVal)) (h : Heap) : Option (AVal × Heap) := match findKey k es 0 with
  | some (some (_, v)) => some (if ok then .tuple [v, .bool true] else v, h)
  | some none => some (if ok then .tuple [zero, .bool false] else zero, h)
  | none => none
def lookM (zero : AVal) (ok : Bool) (m k : AVal) (h : Heap) : Option (AVal × Heap) := match m with
  | .mapr id => match h.get id with
    | some (.map es) => lookS zero ok k es h
    | _ => none
  | _ => none
@[go_sem] theorem aop_look {kk : Nat} {zero : AVal} {m k : AOpd} {ok : Bool} : aop (.look kk zero m k ok) env nid h = if keyOk kk (k.ev env) = true then lookM zero ok (m.ev env) (k.ev env) h else none := rfl
@[go_sem] theorem lookM_mapr {zero k : AVal} {ok : Bool} {id : Nat} : lookM zero ok (.mapr id) k h = (match h.get id with
    | some (.map es) => lookS zero ok k es h
    | _ => none) := rfl
def mupdS (k v : AVal) (es : List (AVal × AVal)) (id : Nat) (h : Heap) : Option (AVal × Heap) := match findKey k es 0 with
  | some (some (i, _)) => some (.undef, h.put id (.map (setVal es i v)))
  | some none => some (.undef, h.put id (.map (es ++ [(k, v)])))
  | none => none
def mupdM (kk : Nat) (m k v : AVal) (h : Heap) : Option (AVal × Heap) := match m with
  | .mapr id => match h.get id with
    | some (.map es) => if v.flat = true ∧ keyOk kk k = true then mupdS k v es id h else none
    | _ => none
  | _ => none
@[go_sem] theorem aop_mupd {kk : Nat} {m k v : AOpd} : aop (.mupd kk m k v) env nid h = mupdM kk (m.ev env) (k.ev env) (v.ev env) h := by
  simp only [aop, mupdM]
  cases m.ev env <;> rfl
@[go_sem] theorem mupdM_mapr {kk : Nat} {k v : AVal} {id : Nat} : mupdM kk (.mapr id) k v h = (match h.get id with
    | some (.map es) => if v.flat = true ∧ keyOk kk k = true then mupdS k v es id h else none
    | _ => none) := rfl
end
/-- a map from texts to numbers, in the order of its making -/
abbrev Kinds := List (List UInt8 × Int)
def kv (e : List UInt8 × Int) : AVal × AVal := (.str e.1, .int .i64 e.2)
def lk (p : List UInt8) : Kinds → Int
  | [] => 0
  | (q, v) :: r => if p = q then v else lk p r
def putK (p : List UInt8) (v : Int) : Kinds → Kinds
  | [] => [(p, v)]
  | (q, u) :: r => if p = q then (q, v) :: r else (q, u) :: putK p v r
def atK (p : List UInt8) : Kinds → Nat → Option (Nat × AVal)
  | [], _ => none
  | (q, v) :: r, i => if p = q then some (i, .int .i64 v) else atK p r (i + 1)
theorem findKey_kv (p : List UInt8) : ∀ (ks : Kinds) (i : Nat), findKey (.str p) (ks.map kv) i = some (atK p ks i)
  | [], i => rfl
  | (q, v) :: r, i => by
    simp only [List.map_cons, kv, findKey, keyEq, atK]
    by_cases hpq : p = q
    · simp [hpq]
    · have : (p == q) = false := by simpa using hpq
      simp only [this, hpq, if_false]
      exact findKey_kv p r (i + 1)
theorem atK_lk (p : List UInt8) : ∀ (ks : Kinds) (i : Nat), (match atK p ks i with | some (_, v) => v | none => .int .i64 0) = .int .i64 (lk p ks)
  | [], i => rfl
  | (q, v) :: r, i => by
    unfold atK lk
    by_cases hpq : p = q
    · simp [hpq]
    · simp only [hpq, if_false]
      exact atK_lk p r (i + 1)
@[go_sem] theorem lookS_kv {p : List UInt8} {ks : Kinds} {h : Heap} : lookS (.int .i64 0) false (.str p) (ks.map kv) h = some (.int .i64 (lk p ks), h) := by
  unfold lookS
  rw [findKey_kv, ← atK_lk p ks 0]
  cases atK p ks 0 <;> simp
theorem atK_put (p : List UInt8) (v : Int) : ∀ (ks : Kinds) (i : Nat), (match atK p ks i with | some (j, _) => setVal (ks.map kv) (j - i) (.int .i64 v) | none => ks.map kv ++ [(.str p, .int .i64 v)]) = (putK p v ks).map kv ∧ (∀ j u, atK p ks i = some (j, u) → i ≤ j)
  | [], i => ⟨rfl, by simp [atK]⟩
  | (q, u) :: r, i => by
    unfold atK putK
    by_cases hpq : p = q
    · simp [hpq, setVal, kv]
    · simp only [hpq, if_false]
      obtain ⟨h1, h2⟩ := atK_put p v r (i + 1)
      constructor
      · rw [List.map_cons (l := putK p v r), ← h1]
        cases hat : atK p r (i + 1) with
        | none => simp
        | some x =>
          obtain ⟨j, w⟩ := x
          have := h2 j w hat
          have e : j - i = (j - (i + 1)) + 1 := by omega
          simp only [e, List.map_cons, setVal, kv]
      · intro j w hj
        have := h2 j w hj
        omega
@[go_sem] theorem mupdS_kv {p : List UInt8} {v : Int} {ks : Kinds} {id : Nat} {h : Heap} : mupdS (.str p) (.int .i64 v) (ks.map kv) id h = some (.undef, h.put id (.map ((putK p v ks).map kv))) := by
  unfold mupdS
  rw [findKey_kv, ← (atK_put p v ks 0).1]
  cases hat : atK p ks 0 with
  | none => rfl
  | some x => rfl
@[go_sem] theorem keyOk_str {p : List UInt8} : keyOk 0 (.str p) = true := rfl
structure Ent where
  path : List UInt8
  kind : Int
  mode : Int
  uid : Int
  gid : Int
  time : Int
  link : List UInt8
  data : BS
def Ent.av (e : Ent) : AVal := .agg [.str e.path, .int .i64 e.kind, .int .i64 e.mode, .int .i64 e.uid, .int .i64 e.gid, .int .i64 e.time, .str e.link, e.data.av]
attribute [go_sem] Ent.av
@[go_sem] theorem cells_ent {e : Ent} : e.av.cells = [.str e.path, .int .i64 e.kind, .int .i64 e.mode, .int .i64 e.uid, .int .i64 e.gid, .int .i64 e.time, .str e.link, e.data.av] := rfl
/-- an error -/
def errV (n : Int) : AVal := if n = 0 then .lit .nilIface else .iface 58 (.int .i64 n)
section
variable {bytes sz nid id z off len i o : Nat} {clip tmp : Bool} {xs es cs r : List AVal} {h : Heap} {c v : AVal} {k k' : IntKind} {b : BS} {env : List AVal} {x : AOpd} {lo hi mx : Option AOpd} {p q : Int}
@[go_sem] theorem appendTo_nil : appendTo bytes sz (.lit (.slice none 0 0)) xs nid h = if xs.isEmpty then some (.lit (.slice none 0 0), h) else
    if xs.length * bytes ≤ roomMax ∧ xs.length < roomMax then some (.own nid sz 0 xs.length false, h ++ [(nid, .row xs sz)]) else none := rfl
@[go_sem] theorem appendTo_view : appendTo bytes sz (.view z es true tmp) xs nid h = if xs.isEmpty then some (.view z es true tmp, h) else
    if z = sz ∧ (es.length + xs.length) * bytes ≤ roomMax ∧ es.length + xs.length < roomMax then
      some (.own nid sz 0 (es.length + xs.length) false, h ++ [(nid, .row (es ++ xs) sz)]) else none := rfl
@[go_sem] theorem appendTo_own : appendTo bytes sz (.own id z 0 len false) xs nid h = (match h.get id with
    | some (.row es _) =>
      if z = sz ∧ len ≤ es.length ∧ (len + xs.length) * bytes ≤ roomMax ∧ len + xs.length < roomMax then
        some (.own nid sz 0 (len + xs.length) false, h.del id ++ [(nid, .row (es.take len ++ xs) sz)])
      else none
    | _ => none) := rfl
@[go_sem] theorem appendTo_ownc : appendTo bytes sz (.own id z 0 len true) xs nid h = (match h.get id with
    | some (.row es _) =>
      if z = sz ∧ len ≤ es.length ∧ (len + xs.length) * bytes ≤ roomMax ∧ len + xs.length < roomMax then
        if xs.isEmpty then some (.own id z 0 len true, h) else
        some (.own nid sz 0 (len + xs.length) false, h ++ [(nid, .row (es.take len ++ xs) sz)])
      else none
    | _ => none) := rfl
@[go_sem] theorem consume1_own : consume1 h (.own id z off len clip) = (match h.get id with
    | some (.row es _) => if off + len ≤ es.length then some (.view z ((es.drop off).take len) clip false, h.del id) else none
    | _ => none) := rfl
@[go_sem] theorem consume1_int {n : Int} : consume1 h (.int k n) = some (.int k n, h) := rfl
@[go_sem] theorem consume1_str {l : List UInt8} : consume1 h (.str l) = some (.str l, h) := rfl
@[go_sem] theorem consume1_bool {t : Bool} : consume1 h (.bool t) = some (.bool t, h) := rfl
@[go_sem] theorem consume1_lit {t : Value} : consume1 h (.lit t) = some (.lit t, h) := rfl
@[go_sem] theorem consume1_view : consume1 h (.view z es clip tmp) = some (.view z es clip tmp, h) := rfl
@[go_sem] theorem consumeCs_nil : consumeCs h [] = some ([], h) := rfl
@[go_sem] theorem consumeCs_cons : consumeCs h (c :: r) = (consume1 h c).bind fun x => (consumeCs x.2 r).bind fun y => some (x.1 :: y.1, y.2) := rfl
@[go_sem] theorem consume_agg : consume h (.agg cs) = (consumeCs h cs).bind fun x => some (.agg x.1, x.2) := by
  simp only [consume]
  cases consumeCs h cs <;> rfl
@[go_sem] theorem consume_int {n : Int} : consume h (.int k n) = some (.int k n, h) := rfl
@[go_sem] theorem consume_str {l : List UInt8} : consume h (.str l) = some (.str l, h) := rfl
@[go_sem] theorem consume_own : consume h (.own id z off len clip) = consume1 h (.own id z off len clip) := rfl
@[go_sem] theorem consumeL_nil : consumeL h [] = some ([], h) := rfl
@[go_sem] theorem consumeL_cons : consumeL h (c :: r) = (consume h c).bind fun x => (consumeL x.2 r).bind fun y => some (x.1 :: y.1, y.2) := rfl
attribute [go_sem] allSz
def BS.isNil : BS → Bool
  | .nil => true
  | .mk .. => false
@[go_sem] theorem aBin_bs_eql {cst : Bool} : aBin .eql .slice cst b.av (.lit (.slice none 0 0)) = some (.bool b.isNil) := by cases b <;> rfl
@[go_sem] theorem flat_bs : b.av.flat = !b.isTmp := by
  cases b with
  | nil => rfl
  | mk clip tmp l => cases tmp <;> rfl
/-- a part of a slice -/
def slcV (sz : Nat) (v : AVal) (lo hi mx : Option AVal) (h : Heap) : Option (AVal × Heap) := match v with
    | .str _ => none
    | v => (aSlice sz v lo hi mx).map (·, h)
@[go_sem high] theorem aop_slcV : aop (.slc sz x lo hi mx) env nid h = slcV sz (x.ev env) (lo.map (·.ev env)) (hi.map (·.ev env)) (mx.map (·.ev env)) h := rfl
variable {lv hv mv : Option AVal}
@[go_sem] theorem slcV_view : slcV sz (.view z es clip tmp) lv hv mv h = (aSlice sz (.view z es clip tmp) lv hv mv).map (·, h) := rfl
@[go_sem] theorem slcV_own : slcV sz (.own id z off len clip) lv hv mv h = (aSlice sz (.own id z off len clip) lv hv mv).map (·, h) := rfl
@[go_sem] theorem slcV_nil : slcV sz (.lit (.slice none 0 0)) lv hv mv h = (aSlice sz (.lit (.slice none 0 0)) lv hv mv).map (·, h) := rfl
@[go_sem] theorem slcV_bs : slcV sz b.av lv hv mv h = (aSlice sz b.av lv hv mv).map (·, h) := by cases b <;> rfl
@[go_sem] theorem sl_own_clip : aSlice sz (.own id z off len clip) none (some (.int k len)) (some (.int k' len)) = if z = sz then some (.own id z off len true) else none := by
  simp [aSlice, bounds, natOr, toNat?]
@[go_sem] theorem sl_nil_clip : aSlice sz (.lit (.slice none 0 0)) none (some (.int k 0)) (some (.int k' 0)) = some (.lit (.slice none 0 0)) := by
  simp [aSlice, bounds, natOr, toNat?]
def BS.clipped : BS → BS
  | .nil => .nil
  | .mk _ t l => .mk true t l
@[go_sem] theorem sl_bs_clip : aSlice 1 b.av none (some (.int k b.l.length)) (some (.int k' b.l.length)) = some b.clipped.av := by
  cases b with
  | nil => simp [aSlice, bounds, natOr, toNat?, BS.av, BS.l, BS.clipped]
  | mk c t l => simp [aSlice, bounds, natOr, toNat?, BS.av, BS.l, BS.clipped, clipOf, take_map_len]
@[go_sem] theorem mk_l {t : Bool} {l : List UInt8} : (BS.mk clip t l).l = l := rfl
end
@[go_sem] theorem av_nil : BS.av .nil = .lit (.slice none 0 0) := rfl
@[go_sem] theorem l_nil : BS.l .nil = [] := rfl
@[go_sem] theorem one_slice : (Value.slice none 0 0).oneCell' = true := rfl
@[go_sem] theorem one_iface : Value.nilIface.oneCell' = true := rfl
@[go_sem] theorem one_ptr : (Value.pointer none).oneCell' = true := rfl
@[go_sem] theorem one_map : (Value.map none).oneCell' = true := rfl
def BS.cp : BS → BS
  | .nil => .nil
  | .mk _ _ l => .mk false false l
@[go_sem] theorem cp_nil : BS.cp .nil = .nil := rfl
@[go_sem] theorem cp_mk {c t : Bool} {l : List UInt8} : BS.cp (.mk c t l) = .mk false false l := rfl
theorem cp_l {b : BS} : b.cp.l = b.l := by cases b <;> rfl
/-- an entry, copied -/
def Ent.cp (e : Ent) : Ent := { e with data := e.data.cp }
def Ent.cav (e : Ent) : AVal := .agg [.str e.path, .int .i64 e.kind, .int .i64 e.mode, .int .i64 e.uid, .int .i64 e.gid, .int .i64 e.time, .str e.link, e.data.cp.av]
theorem cav_eq {t : List Ent} : t.map Ent.cav = (t.map Ent.cp).map Ent.av := by
  rw [List.map_map]
  rfl
theorem mk_av {c t : Bool} {l : List UInt8} : BS.av (.mk c t l) = .view 1 (l.map .byte) c t := rfl
@[go_sem] theorem rep_byte {n : Nat} : List.replicate n (AVal.int .u8 0) = (List.replicate n (0 : UInt8)).map .byte := by
  rw [List.map_replicate]
  rfl
attribute [go_sem] List.headD_cons
theorem and7 {x : Int} (h0 : 0 ≤ x) (h1 : x ≤ 9223372036854775807) : ((BitVec.ofInt 64 x &&& BitVec.ofInt 64 7).toNat : Int) = x % 8 := by
  rw [BitVec.toNat_and]
  have e1 : (BitVec.ofInt 64 x).toNat = x.toNat := by
    rw [BitVec.toNat_ofInt]
    congr 1
    omega
  have e2 : (BitVec.ofInt 64 7).toNat = 2 ^ 3 - 1 := by rfl
  rw [e1, e2, Nat.and_two_pow_sub_one_eq_mod]
  omega
@[go_sem] theorem bits_i64 : IntKind.i64.bits = 64 := rfl
@[go_sem] theorem shr3 {x : Int} : x.fdiv (2 ^ (min 3 64)) = x / 8 := by
  have : (2 : Int) ^ (min 3 64) = 8 := rfl
  rw [this]
  exact Int.fdiv_eq_ediv_of_nonneg _ (by omega)
structure Hd where
  path : List UInt8
  mode : Int
  uid : Int
  gid : Int
  size : Int
  time : Int
  type : UInt8
  link : List UInt8
def Hd.av (h : Hd) : AVal := .agg [.str h.path, .int .i64 h.mode, .int .i64 h.uid, .int .i64 h.gid, .int .i64 h.size, .int .i64 h.time, .int .u8 h.type.toNat, .str h.link]
attribute [go_sem] Hd.av
end Go.Abs
namespace Go.Abs
attribute [go_sem] decide_true decide_false Bool.not_true Bool.not_false Bool.and_true Bool.and_false Bool.true_and Bool.false_and Bool.or_true Bool.or_false Bool.true_or Bool.false_or List.isEmpty_nil List.isEmpty_cons Bool.false_eq_true true_and and_true Nat.zero_le Nat.not_lt_zero beq_self_eq_true List.length_nil wrap_i64 wrap_u8 wrap_i32 wrap_u32 wrap_u64 Option.some.injEq forall_eq' Int.natCast_zero Int.natCast_one cast_lit Int.toNat_natCast eq_self if_true if_false u8_back decide_eq_true decide_eq_false toNat_succ Int.natCast_add Nat.le_refl Int.le_refl beq_true beq_false true_or or_true false_or or_false Nat.reduceAdd Nat.reduceSub Nat.reduceMul Nat.reduceLT Nat.reduceLeDiff Nat.reduceEqDiff Nat.reduceBEq Int.reduceLT Int.reduceLE Int.reduceEq Int.reduceToNat reduceCtorEq
attribute [go_sem ↓] reduceIte
end Go.Abs
namespace Go.Abs
def l16_0 : ACode := (.seq (.seq (rg [mv 6 4, mv 7 0, oo 8 (.len 1 (.t 7)), oo 9 (.bin .lss .other false (.t 6) (.t 8))]) (.cond (.t 9) .skip (.exit 0))) (.seq (.block 1 (.seq (rg [mv 12 0, mv 13 4, oo 14 (.ixa 8 (.t 12) (.t 13)), oo 15 (.ld 8 true (.t 14)), oo 5 (.alloc [(.str []), (.int .i64 0), (.int .i64 0), (.int .i64 0), (.int .i64 0), (.int .i64 0), (.str []), (.lit (.slice none 0 0))]), ⟨none, (.st 8 (.t 5) (.t 15)), none⟩]) (.seq (rg [oo 16 (.bslice 1 0 [(.int .u8 0)] []), oo 17 (.fa 7 (.t 5)), oo 18 (.ld 1 false (.t 17)), oo 19 (.app 1 1 (.t 16) (.t 18)), oo 20 (.fa 7 (.t 5)), ⟨none, (.st 1 (.t 20) (.t 19)), none⟩]) (rg [mv 21 3, oo 22 (.ld 8 true (.t 5)), oo 23 (.bslice 8 1 [(.str []), (.int .i64 0), (.int .i64 0), (.int .i64 0), (.int .i64 0), (.int .i64 0), (.str []), (.lit (.slice none 0 0))] [(.t 22)]), oo 24 (.app 96 8 (.t 21) (.t 23)), mv 3 24])))) (rg [mv 10 4, oo 11 (.bin .add .other true (.t 10) (ci 1)), mv 4 11])))
def r16_0 : ACode := (.seq (rg [mv 25 3, mv 2 25]) .ret)
def b16 : AFn := ⟨1, 26, [(2, none)], (.seq (rg [oo 2 (.mov (.c (.lit (.slice none 0 0))))]) (.seq (rg [oo 3 (.mov (.c (.lit (.slice none 0 0))))]) (.seq (.seq (rg [oo 4 (.mov (ci 0))]) (.block 0 (.loop [0, 2, 3, 4] l16_0))) r16_0)))⟩
theorem fn16 : AA.fn 16 = some b16 := by kernel_rfl
theorem np16 : AA.prim 16 = none := rfl
def l125_0 : ACode := (.seq (.seq (rg [mv 6 5, mv 7 0, oo 8 (.len 0 (.t 7)), oo 9 (.bin .leq .other false (.t 6) (.t 8))]) (.cond (.t 9) .skip (.exit 0))) (.seq (.block 1 (.seq (rg [mv 12 5, mv 13 0, oo 14 (.len 0 (.t 13)), oo 15 (.bin .eql .other false (.t 12) (.t 14)), mv 16 15, og 17 (.mov (.t 0)) 16 false, og 18 (.mov (.t 5)) 16 false, og 19 (.ixs (.t 17) (.t 18)) 16 false, og 20 (.bin .eql .other true (.t 19) (.c (.int .u8 47))) 16 false, oo 21 (.pick (.t 16) (.c (.bool true)) (.t 20))]) (.cond (.t 21) (.seq (rg [mv 22 3, mv 23 0, mv 24 4, mv 25 5, oo 26 (.slct (.t 23) (some (.t 24)) (some (.t 25))), oo 27 (.bslice 1 1 [(.str [])] [(.t 26)]), oo 28 (.app 16 1 (.t 22) (.t 27)), mv 3 28]) (rg [mv 29 5, oo 30 (.bin .add .other true (.t 29) (ci 1)), mv 4 30])) .skip))) (rg [mv 10 5, oo 11 (.bin .add .other true (.t 10) (ci 1)), mv 5 11])))
def r125_0 : ACode := (.seq (rg [mv 31 3, mv 2 31]) .ret)
def b125 : AFn := ⟨1, 32, [(2, none)], (.seq (rg [oo 2 (.mov (.c (.lit (.slice none 0 0))))]) (.seq (rg [oo 3 (.mov (.c (.lit (.slice none 0 0))))]) (.seq (rg [oo 4 (.mov (ci 0))]) (.seq (.seq (rg [oo 5 (.mov (ci 0))]) (.block 0 (.loop [0, 2, 3, 4, 5] l125_0))) r125_0))))⟩
theorem fn125 : AA.fn 125 = some b125 := by kernel_rfl
theorem np125 : AA.prim 125 = none := rfl
def l160_0 : ACode := (.seq (.seq (rg [mv 58 8, mv 59 5, oo 60 (.bin .lss .other false (.t 58) (.t 59))]) (.cond (.t 60) .skip (.exit 3))) (.seq (.block 4 (.seq (.seq (rg [mv 63 0, mv 64 3, mv 65 8, oo 66 (.bin .add .other false (.t 64) (.t 65)), oo 67 (.ixs (.t 63) (.t 66)), mv 68 6, oo 69 (.bin .lss .other false (.t 67) (.t 68)), mv 70 69, og 71 (.mov (.t 0)) 70 false, og 72 (.mov (.t 3)) 70 false, og 73 (.mov (.t 8)) 70 false, og 74 (.bin .add .other false (.t 72) (.t 73)) 70 false, og 75 (.ixs (.t 71) (.t 74)) 70 false, og 76 (.mov (.t 7)) 70 false, og 77 (.bin .gtr .other false (.t 75) (.t 76)) 70 false, oo 78 (.pick (.t 70) (.c (.bool true)) (.t 77))]) (.cond (.t 78) (.seq (rg [oo 2 (.mov (.c (.bool false)))]) .ret) .skip)) (.seq (rg [oo 6 (.mov (.c (.int .u8 128)))]) (rg [oo 7 (.mov (.c (.int .u8 191)))])))) (rg [mv 61 8, oo 62 (.bin .add .other true (.t 61) (ci 1)), mv 8 62])))
def r160_0 : ACode := (rg [mv 79 3, mv 80 5, oo 81 (.bin .add .other false (.t 79) (.t 80)), mv 3 81])
def l160_1 : ACode := (.seq (.seq (rg [mv 9 3, mv 10 0, oo 11 (.len 0 (.t 10)), oo 12 (.bin .lss .other false (.t 9) (.t 11))]) (.cond (.t 12) .skip (.exit 0))) (.block 1 (.seq (rg [mv 13 0, mv 14 3, oo 15 (.ixs (.t 13) (.t 14)), mv 4 15]) (.seq (rg [oo 5 (.mov (ci 0))]) (.seq (rg [oo 6 (.mov (.c (.int .u8 128)))]) (.seq (rg [oo 7 (.mov (.c (.int .u8 191)))]) (.seq (.block 2 (.seq (rg [mv 17 4, oo 18 (.bin .lss .other true (.t 17) (.c (.int .u8 128))), mv 16 18]) (.cond (.t 16) (rg [oo 5 (.mov (ci 1))]) (.seq (rg [mv 20 4, oo 21 (.bin .geq .other true (.t 20) (.c (.int .u8 194))), mv 22 21, og 23 (.mov (.t 4)) 22 true, og 24 (.bin .leq .other true (.t 23) (.c (.int .u8 223))) 22 true, oo 25 (.pick (.t 22) (.t 24) (.c (.bool false))), mv 19 25]) (.cond (.t 19) (rg [oo 5 (.mov (ci 2))]) (.seq (rg [mv 27 4, oo 28 (.bin .geq .other true (.t 27) (.c (.int .u8 224))), mv 29 28, og 30 (.mov (.t 4)) 29 true, og 31 (.bin .leq .other true (.t 30) (.c (.int .u8 239))) 29 true, oo 32 (.pick (.t 29) (.t 31) (.c (.bool false))), mv 26 32]) (.cond (.t 26) (.seq (rg [oo 5 (.mov (ci 3))]) (.seq (.seq (rg [mv 33 4, oo 34 (.bin .eql .other true (.t 33) (.c (.int .u8 224)))]) (.cond (.t 34) (rg [oo 6 (.mov (.c (.int .u8 160)))]) .skip)) (.seq (rg [mv 35 4, oo 36 (.bin .eql .other true (.t 35) (.c (.int .u8 237)))]) (.cond (.t 36) (rg [oo 7 (.mov (.c (.int .u8 159)))]) .skip)))) (.seq (rg [mv 38 4, oo 39 (.bin .geq .other true (.t 38) (.c (.int .u8 240))), mv 40 39, og 41 (.mov (.t 4)) 40 true, og 42 (.bin .leq .other true (.t 41) (.c (.int .u8 244))) 40 true, oo 43 (.pick (.t 40) (.t 42) (.c (.bool false))), mv 37 43]) (.cond (.t 37) (.seq (rg [oo 5 (.mov (ci 4))]) (.seq (.seq (rg [mv 44 4, oo 45 (.bin .eql .other true (.t 44) (.c (.int .u8 240)))]) (.cond (.t 45) (rg [oo 6 (.mov (.c (.int .u8 144)))]) .skip)) (.seq (rg [mv 46 4, oo 47 (.bin .eql .other true (.t 46) (.c (.int .u8 244)))]) (.cond (.t 47) (rg [oo 7 (.mov (.c (.int .u8 143)))]) .skip)))) .skip))))))))) (.seq (.seq (rg [mv 48 5, oo 49 (.bin .eql .other true (.t 48) (ci 0)), mv 50 49, og 51 (.mov (.t 3)) 50 false, og 52 (.mov (.t 5)) 50 false, og 53 (.bin .add .other false (.t 51) (.t 52)) 50 false, og 54 (.mov (.t 0)) 50 false, og 55 (.len 0 (.t 54)) 50 false, og 56 (.bin .gtr .other false (.t 53) (.t 55)) 50 false, oo 57 (.pick (.t 50) (.c (.bool true)) (.t 56))]) (.cond (.t 57) (.seq (rg [oo 2 (.mov (.c (.bool false)))]) .ret) .skip)) (.seq (.seq (rg [oo 8 (.mov (ci 1))]) (.block 3 (.loop [0, 2, 3, 5, 6, 7, 8] l160_0))) r160_0)))))))))
def r160_1 : ACode := (.seq (rg [oo 2 (.mov (.c (.bool true)))]) .ret)
def b160 : AFn := ⟨1, 82, [(2, none)], (.seq (rg [oo 2 (.mov (.c (.bool false)))]) (.seq (.seq (rg [oo 3 (.mov (ci 0))]) (.block 0 (.loop [0, 2, 3] l160_1))) r160_1))⟩
theorem fn160 : AA.fn 160 = some b160 := by kernel_rfl
theorem np160 : AA.prim 160 = none := rfl
def l124_0 : ACode := (.seq (.seq (rg [mv 15 5, mv 16 0, oo 17 (.len 0 (.t 16)), oo 18 (.bin .lss .other false (.t 15) (.t 17))]) (.cond (.t 18) .skip (.exit 0))) (.seq (.block 1 (.seq (rg [mv 21 0, mv 22 5, oo 23 (.ixs (.t 21) (.t 22)), oo 24 (.bin .eql .other true (.t 23) (.c (.int .u8 0)))]) (.cond (.t 24) (.seq (rg [oo 4 (.mov (.c (.bool false)))]) .ret) .skip))) (rg [mv 19 5, oo 20 (.bin .add .other true (.t 19) (ci 1)), mv 5 20])))
def r124_0 : ACode := (.seq (rg [mv 25 0, cl 26 160 [(.t 25)], mv 4 26]) .ret)
def b124 : AFn := ⟨2, 27, [(4, none)], (.seq (rg [oo 4 (.mov (.c (.bool false)))]) (.seq (.seq (rg [mv 6 0, oo 7 (.len 0 (.t 6)), oo 8 (.bin .lss .other true (.t 7) (ci 1)), mv 9 8, og 10 (.mov (.t 0)) 9 false, og 11 (.len 0 (.t 10)) 9 false, og 12 (.mov (.t 1)) 9 false, og 13 (.bin .gtr .other false (.t 11) (.t 12)) 9 false, oo 14 (.pick (.t 9) (.c (.bool true)) (.t 13))]) (.cond (.t 14) (.seq (rg [oo 4 (.mov (.c (.bool false)))]) .ret) .skip)) (.seq (.seq (rg [oo 5 (.mov (ci 0))]) (.block 0 (.loop [0, 4, 5] l124_0))) r124_0)))⟩
theorem fn124 : AA.fn 124 = some b124 := by kernel_rfl
theorem np124 : AA.prim 124 = none := rfl
def b159 : AFn := ⟨1, 19, [(2, none)], (.seq (rg [oo 2 (.mov (.c (.bool false)))]) (.seq (rg [mv 3 0, cl 4 124 [(.t 3), (ci 120)], mv 5 4, og 6 (.mov (.t 0)) 5 true, og 7 (.bin .neq .other true (.t 6) (.c (.str [46]))) 5 true, oo 8 (.pick (.t 5) (.t 7) (.c (.bool false))), mv 9 8, og 10 (.mov (.t 0)) 9 true, og 11 (.bin .neq .other true (.t 10) (.c (.str [46, 46]))) 9 true, oo 12 (.pick (.t 9) (.t 11) (.c (.bool false))), mv 13 12, og 14 (.mov (.t 0)) 13 true, og 15 (.call (.c (.func (.func 125) [])) [(.t 14)]) 13 true, og 16 (.len 1 (.t 15)) 13 true, og 17 (.bin .eql .other true (.t 16) (ci 1)) 13 true, oo 18 (.pick (.t 13) (.t 17) (.c (.bool false))), mv 2 18]) .ret))⟩
theorem fn159 : AA.fn 159 = some b159 := by kernel_rfl
theorem np159 : AA.prim 159 = none := rfl
def l122_0 : ACode := (.seq (.seq (rg [mv 10 4, mv 11 3, oo 12 (.len 1 (.t 11)), oo 13 (.bin .lss .other false (.t 10) (.t 12))]) (.cond (.t 13) .skip (.exit 0))) (.seq (.block 1 (.seq (rg [mv 16 3, mv 17 4, oo 18 (.ixa 1 (.t 16) (.t 17)), oo 19 (.ld 1 false (.t 18)), cl 20 159 [(.t 19)], oo 21 (.un .not (.t 20))]) (.cond (.t 21) (.seq (rg [oo 2 (.mov (.c (.lit (.slice none 0 0))))]) .ret) .skip))) (rg [mv 14 4, oo 15 (.bin .add .other true (.t 14) (ci 1)), mv 4 15])))
def r122_0 : ACode := (.seq (rg [mv 22 3, mv 2 22]) .ret)
def b122 : AFn := ⟨1, 23, [(2, none)], (.seq (rg [oo 2 (.mov (.c (.lit (.slice none 0 0))))]) (.seq (.seq (rg [mv 5 0, oo 6 (.len 0 (.t 5)), oo 7 (.bin .gtr .other true (.t 6) (ci 400))]) (.cond (.t 7) (.seq (rg [oo 2 (.mov (.c (.lit (.slice none 0 0))))]) .ret) .skip)) (.seq (rg [mv 8 0, cl 9 125 [(.t 8)], mv 3 9]) (.seq (.seq (rg [oo 4 (.mov (ci 0))]) (.block 0 (.loop [2, 3, 4] l122_0))) r122_0))))⟩
theorem fn122 : AA.fn 122 = some b122 := by kernel_rfl
theorem np122 : AA.prim 122 = none := rfl
def b75 : AFn := ⟨1, 7, [(2, none)], (.seq (rg [oo 2 (.mov (.c (.bool false)))]) (.seq (rg [mv 3 0, cl 4 122 [(.t 3)], oo 5 (.len 1 (.t 4)), oo 6 (.bin .gtr .other true (.t 5) (ci 0)), mv 2 6]) .ret))⟩
theorem fn75 : AA.fn 75 = some b75 := by kernel_rfl
theorem np75 : AA.prim 75 = none := rfl
def l123_0 : ACode := (.seq (.seq (rg [mv 7 5, mv 8 0, oo 9 (.len 1 (.t 8)), oo 10 (.bin .lss .other false (.t 7) (.t 9))]) (.cond (.t 10) .skip (.exit 0))) (.seq (.block 1 (.seq (.seq (rg [mv 13 0, mv 14 5, oo 15 (.ixa 1 (.t 13) (.t 14)), oo 16 (.ld 1 false (.t 15)), cl 17 159 [(.t 16)], oo 18 (.un .not (.t 17))]) (.cond (.t 18) (.seq (rg [oo 2 (.mov (.c (.str []))), oo 3 (.mov (ci 12))]) .ret) .skip)) (.seq (.seq (rg [mv 19 5, oo 20 (.bin .gtr .other true (.t 19) (ci 0))]) (.cond (.t 20) (rg [mv 21 4, oo 22 (.bslice 1 1 [(.int .u8 0)] [(.c (.int .u8 47))]), oo 23 (.app 1 1 (.t 21) (.t 22)), mv 4 23]) .skip)) (.seq (rg [mv 24 4, mv 25 0, mv 26 5, oo 27 (.ixa 1 (.t 25) (.t 26)), oo 28 (.ld 1 false (.t 27)), oo 29 (.app 1 1 (.t 24) (.t 28)), mv 4 29]) (.seq (rg [mv 30 4, oo 31 (.len 1 (.t 30)), oo 32 (.bin .gtr .other true (.t 31) (ci 400))]) (.cond (.t 32) (.seq (rg [oo 2 (.mov (.c (.str []))), oo 3 (.mov (ci 12))]) .ret) .skip)))))) (rg [mv 11 5, oo 12 (.bin .add .other true (.t 11) (ci 1)), mv 5 12])))
def r123_0 : ACode := (.seq (.seq (rg [mv 33 0, oo 34 (.len 1 (.t 33)), oo 35 (.bin .eql .other true (.t 34) (ci 0))]) (.cond (.t 35) (.seq (rg [oo 2 (.mov (.c (.str []))), oo 3 (.mov (ci 12))]) .ret) .skip)) (.seq (rg [mv 36 4, oo 37 (.cvbs (.t 36)), mv 2 37, oo 3 (.mov (ci 0))]) .ret))
def b123 : AFn := ⟨1, 38, [(2, none), (3, none)], (.seq (rg [oo 2 (.mov (.c (.str []))), oo 3 (.mov (ci 0))]) (.seq (rg [oo 6 (.bslice 1 0 [(.int .u8 0)] []), mv 4 6]) (.seq (.seq (rg [oo 5 (.mov (ci 0))]) (.block 0 (.loop [0, 2, 3, 4, 5] l123_0))) r123_0)))⟩
theorem fn123 : AA.fn 123 = some b123 := by kernel_rfl
theorem np123 : AA.prim 123 = none := rfl
def b76 : AFn := ⟨1, 22, [(2, none), (3, none)], (.seq (rg [oo 2 (.mov (.c (.str []))), oo 3 (.mov (.c (.bool false)))]) (.seq (rg [mv 7 0, cl 8 122 [(.t 7)], mv 4 8]) (.seq (.seq (rg [mv 9 4, oo 10 (.len 1 (.t 9)), oo 11 (.bin .lss .other true (.t 10) (ci 2))]) (.cond (.t 11) (.seq (rg [oo 2 (.mov (.c (.str []))), oo 3 (.mov (.c (.bool false)))]) .ret) .skip)) (.seq (rg [mv 13 4, mv 14 4, oo 15 (.len 1 (.t 14)), oo 16 (.bin .sub .other true (.t 15) (ci 1)), oo 17 (.slc 1 (.t 13) none (some (.t 16)) none), cl 18 123 [(.t 17)], mv 12 18, oo 19 (.ext (.t 12) 0), oo 20 (.ext (.t 12) 1), mv 5 19, mv 6 20]) (.seq (rg [mv 21 5, mv 2 21, oo 3 (.mov (.c (.bool true)))]) .ret)))))⟩
theorem fn76 : AA.fn 76 = some b76 := by kernel_rfl
theorem np76 : AA.prim 76 = none := rfl
def b77 : AFn := ⟨1, 94, [(2, none)], (.seq (rg [oo 1 (.box (.t 0)), oo 2 (.mov (.c (.bool false)))]) (.seq (.seq (rg [oo 3 (.fa 2 (.t 1)), oo 4 (.ld 1 false (.t 3)), oo 5 (.bin .lss .other true (.t 4) (ci 0)), mv 6 5, og 7 (.fa 2 (.t 1)) 6 false, og 8 (.ld 1 false (.t 7)) 6 false, og 9 (.bin .gtr .other true (.t 8) (ci 4095)) 6 false, oo 10 (.pick (.t 6) (.c (.bool true)) (.t 9)), mv 11 10, og 12 (.fa 3 (.t 1)) 11 false, og 13 (.ld 1 false (.t 12)) 11 false, og 14 (.bin .lss .other true (.t 13) (ci 0)) 11 false, oo 15 (.pick (.t 11) (.c (.bool true)) (.t 14)), mv 16 15, og 17 (.fa 3 (.t 1)) 16 false, og 18 (.ld 1 false (.t 17)) 16 false, og 19 (.bin .gtr .other true (.t 18) (ci 1099511627776)) 16 false, oo 20 (.pick (.t 16) (.c (.bool true)) (.t 19)), mv 21 20, og 22 (.fa 4 (.t 1)) 21 false, og 23 (.ld 1 false (.t 22)) 21 false, og 24 (.bin .lss .other true (.t 23) (ci 0)) 21 false, oo 25 (.pick (.t 21) (.c (.bool true)) (.t 24)), mv 26 25, og 27 (.fa 4 (.t 1)) 26 false, og 28 (.ld 1 false (.t 27)) 26 false, og 29 (.bin .gtr .other true (.t 28) (ci 1099511627776)) 26 false, oo 30 (.pick (.t 26) (.c (.bool true)) (.t 29)), mv 31 30, og 32 (.fa 5 (.t 1)) 31 false, og 33 (.ld 1 false (.t 32)) 31 false, og 34 (.bin .lss .other true (.t 33) (.c (.int .i64 (-1099511627776)))) 31 false, oo 35 (.pick (.t 31) (.c (.bool true)) (.t 34)), mv 36 35, og 37 (.fa 5 (.t 1)) 36 false, og 38 (.ld 1 false (.t 37)) 36 false, og 39 (.bin .gtr .other true (.t 38) (ci 1099511627776)) 36 false, oo 40 (.pick (.t 36) (.c (.bool true)) (.t 39))]) (.cond (.t 40) (.seq (rg [oo 2 (.mov (.c (.bool false)))]) .ret) .skip)) (.seq (.seq (rg [oo 41 (.fa 1 (.t 1)), oo 42 (.ld 1 false (.t 41)), oo 43 (.bin .eql .other true (.t 42) (ci 2))]) (.cond (.t 43) (.seq (rg [oo 44 (.fa 6 (.t 1)), oo 45 (.ld 1 false (.t 44)), oo 46 (.bin .eql .other true (.t 45) (.c (.str []))), mv 47 46, og 48 (.fa 7 (.t 1)) 47 true, og 49 (.ld 1 false (.t 48)) 47 true, og 50 (.len 1 (.t 49)) 47 true, og 51 (.bin .leq .other true (.t 50) (ci 65536)) 47 true, oo 52 (.pick (.t 47) (.t 51) (.c (.bool false))), mv 2 52]) .ret) .skip)) (.seq (.seq (rg [oo 53 (.fa 7 (.t 1)), oo 54 (.ld 1 false (.t 53)), oo 55 (.len 1 (.t 54)), oo 56 (.bin .gtr .other true (.t 55) (ci 0))]) (.cond (.t 56) (.seq (rg [oo 2 (.mov (.c (.bool false)))]) .ret) .skip)) (.seq (.seq (rg [oo 57 (.fa 1 (.t 1)), oo 58 (.ld 1 false (.t 57))]) (.block 0 (.seq (rg [oo 60 (.bin .eql .other true (.t 58) (ci 1)), mv 59 60]) (.cond (.t 59) (.seq (rg [oo 61 (.fa 6 (.t 1)), oo 62 (.ld 1 false (.t 61)), oo 63 (.bin .eql .other true (.t 62) (.c (.str []))), mv 2 63]) .ret) (.seq (rg [oo 65 (.bin .eql .other true (.t 58) (ci 3)), mv 64 65]) (.cond (.t 64) (.seq (rg [oo 66 (.fa 6 (.t 1)), oo 67 (.ld 1 false (.t 66)), cl 68 124 [(.t 67), (ci 400)], mv 2 68]) .ret) (.seq (rg [oo 70 (.bin .eql .other true (.t 58) (ci 4)), mv 69 70]) (.cond (.t 69) (.seq (rg [oo 71 (.fa 6 (.t 1)), oo 72 (.ld 1 false (.t 71)), cl 73 75 [(.t 72)], mv 74 73, og 75 (.fa 2 (.t 1)) 74 true, og 76 (.ld 1 false (.t 75)) 74 true, og 77 (.bin .eql .other true (.t 76) (ci 0)) 74 true, oo 78 (.pick (.t 74) (.t 77) (.c (.bool false))), mv 79 78, og 80 (.fa 3 (.t 1)) 79 true, og 81 (.ld 1 false (.t 80)) 79 true, og 82 (.bin .eql .other true (.t 81) (ci 0)) 79 true, oo 83 (.pick (.t 79) (.t 82) (.c (.bool false))), mv 84 83, og 85 (.fa 4 (.t 1)) 84 true, og 86 (.ld 1 false (.t 85)) 84 true, og 87 (.bin .eql .other true (.t 86) (ci 0)) 84 true, oo 88 (.pick (.t 84) (.t 87) (.c (.bool false))), mv 89 88, og 90 (.fa 5 (.t 1)) 89 true, og 91 (.ld 1 false (.t 90)) 89 true, og 92 (.bin .eql .other true (.t 91) (ci 0)) 89 true, oo 93 (.pick (.t 89) (.t 92) (.c (.bool false))), mv 2 93]) .ret) .skip)))))))) (.seq (rg [oo 2 (.mov (.c (.bool false)))]) .ret))))))⟩
theorem fn77 : AA.fn 77 = some b77 := by kernel_rfl
theorem np77 : AA.prim 77 = none := rfl
def l78_0 : ACode := (.seq (.seq (rg [mv 12 7, mv 13 5, oo 14 (.len 1 (.t 13)), oo 15 (.bin .lss .other false (.t 12) (.t 14)), mv 16 15, og 17 (.mov (.t 7)) 16 true, og 18 (.mov (.t 6)) 16 true, og 19 (.len 1 (.t 18)) 16 true, og 20 (.bin .lss .other false (.t 17) (.t 19)) 16 true, oo 21 (.pick (.t 16) (.t 20) (.c (.bool false)))]) (.cond (.t 21) .skip (.exit 0))) (.seq (.block 1 (.seq (.seq (.reg true [(3, 4), (3, 5), (3, 6), (0, 7), (1, 7), (2, 7), (3, 7)] [mv 24 5, mv 25 7, oo 26 (.ixa 1 (.t 24) (.t 25)), oo 27 (.ld 1 false (.t 26)), mv 28 6, mv 29 7, oo 30 (.ixa 1 (.t 28) (.t 29)), oo 31 (.ld 1 false (.t 30)), oo 32 (.bin .lss .other false (.t 27) (.t 31))]) (.cond (.t 32) (.seq (rg [oo 4 (.mov (.c (.int .i64 (-1))))]) .ret) .skip)) (.seq (.reg true [(3, 4), (3, 5), (3, 6), (0, 7), (1, 7), (2, 7), (3, 7)] [mv 33 5, mv 34 7, oo 35 (.ixa 1 (.t 33) (.t 34)), oo 36 (.ld 1 false (.t 35)), mv 37 6, mv 38 7, oo 39 (.ixa 1 (.t 37) (.t 38)), oo 40 (.ld 1 false (.t 39)), oo 41 (.bin .gtr .other false (.t 36) (.t 40))]) (.cond (.t 41) (.seq (rg [oo 4 (.mov (ci 1))]) .ret) .skip)))) (rg [mv 22 7, oo 23 (.bin .add .other true (.t 22) (ci 1)), mv 7 23])))
def r78_0 : ACode := (.seq (.seq (rg [mv 42 5, oo 43 (.len 1 (.t 42)), mv 44 6, oo 45 (.len 1 (.t 44)), oo 46 (.bin .lss .other false (.t 43) (.t 45))]) (.cond (.t 46) (.seq (rg [oo 4 (.mov (.c (.int .i64 (-1))))]) .ret) .skip)) (.seq (.seq (rg [mv 47 5, oo 48 (.len 1 (.t 47)), mv 49 6, oo 50 (.len 1 (.t 49)), oo 51 (.bin .gtr .other false (.t 48) (.t 50))]) (.cond (.t 51) (.seq (rg [oo 4 (.mov (ci 1))]) .ret) .skip)) (.seq (rg [oo 4 (.mov (ci 0))]) .ret)))
def b78 : AFn := ⟨2, 52, [(4, none)], (.seq (rg [oo 4 (.mov (ci 0))]) (.seq (rg [mv 8 0, cl 9 125 [(.t 8)], mv 5 9]) (.seq (rg [mv 10 1, cl 11 125 [(.t 10)], mv 6 11]) (.seq (.seq (rg [oo 7 (.mov (ci 0))]) (.block 0 (.loop [4, 5, 6, 7] l78_0))) r78_0))))⟩
theorem fn78 : AA.fn 78 = some b78 := by kernel_rfl
theorem np78 : AA.prim 78 = none := rfl
def l79_0 : ACode := (.seq (.seq (rg [mv 8 7, mv 9 1, oo 10 (.bin .lss .other false (.t 8) (.t 9))]) (.cond (.t 10) .skip (.exit 0))) (.seq (.block 1 (.seq (rg [mv 13 0, mv 14 7, oo 15 (.ixa 8 (.t 13) (.t 14)), oo 16 (.fa 0 (.t 15)), oo 17 (.ld 1 false (.t 16)), mv 18 2, oo 19 (.bin .eql .other false (.t 17) (.t 18))]) (.cond (.t 19) (.seq (rg [mv 20 0, mv 21 7, oo 22 (.ixa 8 (.t 20) (.t 21)), oo 23 (.fa 1 (.t 22)), oo 24 (.ld 1 false (.t 23)), mv 6 24]) .ret) .skip))) (rg [mv 11 7, oo 12 (.bin .add .other true (.t 11) (ci 1)), mv 7 12])))
def r79_0 : ACode := (.seq (rg [oo 6 (.mov (ci 0))]) .ret)
def b79 : AFn := ⟨3, 25, [(6, none)], (.seq (rg [oo 6 (.mov (ci 0))]) (.seq (.seq (rg [oo 7 (.mov (ci 0))]) (.block 0 (.loop [0, 1, 2, 6, 7] l79_0))) r79_0))⟩
theorem fn79 : AA.fn 79 = some b79 := by kernel_rfl
theorem np79 : AA.prim 79 = none := rfl
def l41_0 : ACode := (.seq (.seq (rg [mv 15 5, mv 16 0, oo 17 (.len 1 (.t 16)), oo 18 (.bin .lss .other false (.t 15) (.t 17))]) (.cond (.t 18) .skip (.exit 0))) (.seq (.block 1 (.seq (rg [mv 21 0, mv 22 5, oo 23 (.ixa 8 (.t 21) (.t 22)), oo 24 (.ld 8 true (.t 23)), oo 6 (.alloc [(.str []), (.int .i64 0), (.int .i64 0), (.int .i64 0), (.int .i64 0), (.int .i64 0), (.str []), (.lit (.slice none 0 0))]), ⟨none, (.st 8 (.t 6) (.t 24)), none⟩]) (.seq (.seq (rg [oo 25 (.fa 0 (.t 6)), oo 26 (.ld 1 false (.t 25)), cl 27 75 [(.t 26)], oo 28 (.un .not (.t 27))]) (.cond (.t 28) (.seq (rg [mv 29 5, mv 2 29, oo 3 (.mov (ci 12))]) .ret) .skip)) (.seq (rg [oo 31 (.fa 0 (.t 6)), oo 32 (.ld 1 false (.t 31)), cl 33 76 [(.t 32)], mv 30 33, oo 34 (.ext (.t 30) 0), oo 35 (.ext (.t 30) 1), mv 7 34, mv 8 35]) (.seq (rg [oo 36 (.ld 8 true (.t 6)), cl 37 77 [(.t 36)], oo 38 (.un .not (.t 37)), mv 9 38]) (.seq (.reg true [(10, 11), (5, 12), (6, 12), (7, 12), (8, 12), (9, 12), (10, 12)] [mv 39 9, mv 40 39, og 41 (.mov (.t 5)) 40 false, og 42 (.bin .gtr .other true (.t 41) (ci 0)) 40 false, og 43 (.mov (.t 42)) 40 false, og 44 (.mov (.t 0)) 43 true, og 45 (.mov (.t 5)) 43 true, og 46 (.bin .sub .other true (.t 45) (ci 1)) 43 true, og 47 (.ixa 8 (.t 44) (.t 46)) 43 true, og 48 (.fa 0 (.t 47)) 43 true, og 49 (.ld 1 false (.t 48)) 43 true, og 50 (.fa 0 (.t 6)) 43 true, og 51 (.ld 1 false (.t 50)) 43 true, og 52 (.call (.c (.func (.func 78) [])) [(.t 49), (.t 51)]) 43 true, og 53 (.bin .neq .other true (.t 52) (.c (.int .i64 (-1)))) 43 true, og 54 (.pick (.t 43) (.t 53) (.c (.bool false))) 40 false, oo 55 (.pick (.t 40) (.c (.bool true)) (.t 54)), mv 9 55]) (.seq (rg [mv 56 9, mv 57 56, og 58 (.mov (.t 8)) 57 false, og 59 (.mov (.t 58)) 57 false, og 60 (.mov (.t 0)) 59 true, og 61 (.mov (.t 5)) 59 true, og 62 (.mov (.t 7)) 59 true, og 63 (.call (.c (.func (.func 79) [])) [(.t 60), (.t 61), (.t 62)]) 59 true, og 64 (.bin .neq .other true (.t 63) (ci 1)) 59 true, og 65 (.pick (.t 59) (.t 64) (.c (.bool false))) 57 false, oo 66 (.pick (.t 57) (.c (.bool true)) (.t 65)), mv 9 66]) (.seq (rg [mv 67 9, mv 68 67, og 69 (.fa 1 (.t 6)) 68 false, og 70 (.ld 1 false (.t 69)) 68 false, og 71 (.bin .eql .other true (.t 70) (ci 4)) 68 false, og 72 (.mov (.t 71)) 68 false, og 73 (.mov (.t 0)) 72 true, og 74 (.mov (.t 5)) 72 true, og 75 (.fa 6 (.t 6)) 72 true, og 76 (.ld 1 false (.t 75)) 72 true, og 77 (.call (.c (.func (.func 79) [])) [(.t 73), (.t 74), (.t 76)]) 72 true, og 78 (.bin .neq .other true (.t 77) (ci 2)) 72 true, og 79 (.pick (.t 72) (.t 78) (.c (.bool false))) 68 false, oo 80 (.pick (.t 68) (.c (.bool true)) (.t 79)), mv 9 80]) (.seq (.seq (rg [mv 81 9]) (.cond (.t 81) (.seq (rg [mv 82 5, mv 2 82, oo 3 (.mov (ci 13))]) .ret) .skip)) (.seq (rg [mv 83 4, oo 84 (.fa 7 (.t 6)), oo 85 (.ld 1 false (.t 84)), oo 86 (.len 1 (.t 85)), oo 87 (.bin .add .other false (.t 83) (.t 86)), mv 4 87]) (.seq (rg [mv 88 4, oo 89 (.bin .gtr .other true (.t 88) (ci 1048576))]) (.cond (.t 89) (.seq (rg [mv 90 5, mv 2 90, oo 3 (.mov (ci 18))]) .ret) .skip)))))))))))) (rg [mv 19 5, oo 20 (.bin .add .other true (.t 19) (ci 1)), mv 5 20])))
def r41_0 : ACode := (.seq (rg [oo 2 (.mov (.c (.int .i64 (-1)))), oo 3 (.mov (ci 0))]) .ret)
def b41 : AFn := ⟨1, 91, [(2, none), (3, none)], (.seq (rg [oo 2 (.mov (ci 0)), oo 3 (.mov (ci 0))]) (.seq (.seq (rg [mv 10 0, oo 11 (.len 1 (.t 10)), oo 12 (.bin .gtr .other true (.t 11) (ci 200))]) (.cond (.t 12) (.seq (rg [mv 13 0, oo 14 (.len 1 (.t 13)), mv 2 14, oo 3 (.mov (ci 19))]) .ret) .skip)) (.seq (rg [oo 4 (.mov (ci 0))]) (.seq (.seq (rg [oo 5 (.mov (ci 0))]) (.block 0 (.loop [0, 2, 3, 4, 5] l41_0))) r41_0))))⟩
theorem fn41 : AA.fn 41 = some b41 := by kernel_rfl
theorem np41 : AA.prim 41 = none := rfl
def l99_0 : ACode := (.seq (.seq (rg [mv 4 3, mv 5 0, oo 6 (.len 0 (.t 5)), oo 7 (.bin .lss .other false (.t 4) (.t 6))]) (.cond (.t 7) .skip (.exit 0))) (.seq (.block 1 (.seq (rg [mv 10 0, mv 11 3, oo 12 (.ixs (.t 10) (.t 11)), oo 13 (.bin .lss .other true (.t 12) (.c (.int .u8 1))), mv 14 13, og 15 (.mov (.t 0)) 14 false, og 16 (.mov (.t 3)) 14 false, og 17 (.ixs (.t 15) (.t 16)) 14 false, og 18 (.bin .gtr .other true (.t 17) (.c (.int .u8 127))) 14 false, oo 19 (.pick (.t 14) (.c (.bool true)) (.t 18))]) (.cond (.t 19) (.seq (rg [oo 2 (.mov (.c (.bool false)))]) .ret) .skip))) (rg [mv 8 3, oo 9 (.bin .add .other true (.t 8) (ci 1)), mv 3 9])))
def r99_0 : ACode := (.seq (rg [oo 2 (.mov (.c (.bool true)))]) .ret)
def b99 : AFn := ⟨1, 20, [(2, none)], (.seq (rg [oo 2 (.mov (.c (.bool false)))]) (.seq (.seq (rg [oo 3 (.mov (ci 0))]) (.block 0 (.loop [0, 2, 3] l99_0))) r99_0))⟩
theorem fn99 : AA.fn 99 = some b99 := by kernel_rfl
theorem np99 : AA.prim 99 = none := rfl
def l57_0 : ACode := (.seq (.seq (rg [mv 18 5, mv 19 0, oo 20 (.len 0 (.t 19)), oo 21 (.bin .sub .other true (.t 20) (ci 1)), oo 22 (.bin .lss .other false (.t 18) (.t 21))]) (.cond (.t 22) .skip (.exit 0))) (.seq (.block 1 (.seq (rg [mv 25 0, mv 26 5, oo 27 (.ixs (.t 25) (.t 26)), oo 28 (.bin .eql .other true (.t 27) (.c (.int .u8 47))), mv 29 28, og 30 (.mov (.t 5)) 29 true, og 31 (.bin .leq .other true (.t 30) (ci 155)) 29 true, oo 32 (.pick (.t 29) (.t 31) (.c (.bool false))), mv 33 32, og 34 (.mov (.t 0)) 33 true, og 35 (.len 0 (.t 34)) 33 true, og 36 (.bin .sub .other true (.t 35) (ci 1)) 33 true, og 37 (.mov (.t 5)) 33 true, og 38 (.bin .sub .other false (.t 36) (.t 37)) 33 true, og 39 (.bin .leq .other true (.t 38) (ci 100)) 33 true, oo 40 (.pick (.t 33) (.t 39) (.c (.bool false)))]) (.cond (.t 40) (.seq (.reg true [] [mv 41 0, mv 42 5, oo 43 (.slct (.t 41) none (some (.t 42))), mv 44 0, mv 45 5, oo 46 (.bin .add .other true (.t 45) (ci 1)), oo 47 (.slct (.t 44) (some (.t 46)) none), mv 2 43, mv 3 47, oo 4 (.mov (.c (.bool true)))]) .ret) .skip))) (rg [mv 23 5, oo 24 (.bin .add .other true (.t 23) (ci 1)), mv 5 24])))
def r57_0 : ACode := (.seq (rg [oo 2 (.mov (.c (.str []))), oo 3 (.mov (.c (.str []))), oo 4 (.mov (.c (.bool false)))]) .ret)
def b57 : AFn := ⟨1, 48, [(2, none), (3, none), (4, none)], (.seq (rg [oo 2 (.mov (.c (.str []))), oo 3 (.mov (.c (.str []))), oo 4 (.mov (.c (.bool false)))]) (.seq (.seq (rg [mv 6 0, oo 7 (.len 0 (.t 6)), oo 8 (.bin .lss .other true (.t 7) (ci 1)), mv 9 8, og 10 (.mov (.t 0)) 9 false, og 11 (.call (.c (.func (.func 99) [])) [(.t 10)]) 9 false, og 12 (.un .not (.t 11)) 9 false, oo 13 (.pick (.t 9) (.c (.bool true)) (.t 12))]) (.cond (.t 13) (.seq (rg [oo 2 (.mov (.c (.str []))), oo 3 (.mov (.c (.str []))), oo 4 (.mov (.c (.bool false)))]) .ret) .skip)) (.seq (.seq (rg [mv 14 0, oo 15 (.len 0 (.t 14)), oo 16 (.bin .leq .other true (.t 15) (ci 100))]) (.cond (.t 16) (.seq (rg [mv 17 0, oo 2 (.mov (.c (.str []))), mv 3 17, oo 4 (.mov (.c (.bool true)))]) .ret) .skip)) (.seq (.seq (rg [oo 5 (.mov (ci 1))]) (.block 0 (.loop [0, 2, 3, 4, 5] l57_0))) r57_0))))⟩
theorem fn57 : AA.fn 57 = some b57 := by kernel_rfl
theorem np57 : AA.prim 57 = none := rfl
def b58 : AFn := ⟨1, 9, [(2, none)], (.seq (rg [oo 2 (.mov (.c (.bool false)))]) (.seq (rg [mv 3 0, oo 4 (.bin .geq .other true (.t 3) (ci 0)), mv 5 4, og 6 (.mov (.t 0)) 5 true, og 7 (.bin .leq .other true (.t 6) (ci 2097151)) 5 true, oo 8 (.pick (.t 5) (.t 7) (.c (.bool false))), mv 2 8]) .ret))⟩
theorem fn58 : AA.fn 58 = some b58 := by kernel_rfl
theorem np58 : AA.prim 58 = none := rfl
def b59 : AFn := ⟨1, 15, [(2, none)], (.seq (rg [oo 2 (.mov (.c (.bool false)))]) (.seq (rg [mv 3 0, oo 4 (.len 0 (.t 3)), oo 5 (.bin .geq .other true (.t 4) (ci 1)), mv 6 5, og 7 (.mov (.t 0)) 6 true, og 8 (.len 0 (.t 7)) 6 true, og 9 (.bin .leq .other true (.t 8) (ci 100)) 6 true, oo 10 (.pick (.t 6) (.t 9) (.c (.bool false))), mv 11 10, og 12 (.mov (.t 0)) 11 true, og 13 (.call (.c (.func (.func 99) [])) [(.t 12)]) 11 true, oo 14 (.pick (.t 11) (.t 13) (.c (.bool false))), mv 2 14]) .ret))⟩
theorem fn59 : AA.fn 59 = some b59 := by kernel_rfl
theorem np59 : AA.prim 59 = none := rfl
def b60 : AFn := ⟨1, 9, [(2, none)], (.seq (rg [oo 2 (.mov (.c (.bool false)))]) (.seq (rg [mv 3 0, oo 4 (.bin .geq .other true (.t 3) (ci 0)), mv 5 4, og 6 (.mov (.t 0)) 5 true, og 7 (.bin .leq .other true (.t 6) (ci 8589934591)) 5 true, oo 8 (.pick (.t 5) (.t 7) (.c (.bool false))), mv 2 8]) .ret))⟩
theorem fn60 : AA.fn 60 = some b60 := by kernel_rfl
theorem np60 : AA.prim 60 = none := rfl
end Go.Abs
