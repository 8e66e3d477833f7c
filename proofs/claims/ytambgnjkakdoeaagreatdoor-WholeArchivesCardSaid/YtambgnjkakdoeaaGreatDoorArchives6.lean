import Derived.Test.YtambgnjkakdoeaaGreatDoorArchives5
import Derived.Ground.NamesProg
import Derived.Lib.AtoiAll
import Derived.Lib.Bytealg
import Derived.Lib.ItoaNum
import Derived.Lib.Join
import Derived.Lib.ValidU
import Derived.Shelf.SlSortCmp.NoneTotal
import Derived.Shelf.Strings.Cut
import Derived.Shelf.Strings.OnBuilder
import Derived.Shelf.Strings.Search2
import Derived.Test.YtambgnjkakdoeaaGreatDoorChecked
import Derived.Test.YtambgnjkakdoeaaGreatDoorProg
/- PART OF A PROOF (texts joined by a program): P0 T3 T4 Sh2 B1. -/
set_option linter.unusedVariables false
set_option linter.unusedSimpArgs false
set_option linter.unusedSectionVars false
namespace Go.Abs
open Go.Proofs
def gl0 : Globs := fun _ => none
inductive BS where
 | nil
 | mk (clip tmp : Bool) (l : List UInt8)
namespace BS
def av : BS → AVal
 | .nil => .lit (.slice none 0 0)
 | .mk clip tmp l => .view 1 (l.map .byte) clip tmp
def isTmp : BS → Bool
 | .nil => false
 | .mk _ t _ => t
def l : BS → List UInt8
 | .nil => []
 | .mk _ _ l => l
end BS
def itoaP : List AVal → Option AVal
 | [.int .i64 n] => if -9223372036854775808 ≤ n ∧ n ≤ 9223372036854775807 then some (.str (Lib.itoa n)) else none
 | _ => none
def atoiV (s : List UInt8) : Int := match Lib.atoiAll s with
 | .ok v => v
 | .range => Lib.atoiSat s
 | _ => 0
def atoiOk (s : List UInt8) : Bool := match Lib.atoiAll s with
 | .ok _ => true
 | _ => false
def numErr : AVal := .iface 227 .junk
def atoiP : List AVal → Option AVal
 | [.str s] => if s.length ≤ 281474976710656 then some (.tuple [.int .i64 (atoiV s), if atoiOk s = true then .lit .nilIface else numErr]) else none
 | _ => none
def validP : List AVal → Option AVal
 | [.str s] => if s.length ≤ 9223372036854775807 then some (.bool (Lib.validD s)) else none
 | _ => none
def countP : List AVal → Option AVal
 | [.str s, .int .u8 c] => some (.int .i64 (Lib.countByte s c.toNat.toUInt8))
 | _ => none
def indexP : List AVal → Option AVal
 | [.str s, .int .u8 c] => some (.int .i64 (Lib.indexByte s c.toNat.toUInt8))
 | _ => none
def indexBP : List AVal → Option AVal
 | [.view 1 es _ _, .int .u8 c] => (bytesOf es).map fun l => .int .i64 (Lib.indexByte l c.toNat.toUInt8)
 | [.lit (.slice none 0 0), .int .u8 _] => some (.int .i64 (-1))
 | _ => none
def cmpP : List AVal → Option AVal
 | [.str s, .str t] => some (.int .i64 (Lib.compareBytes s t))
 | _ => none
def strsOf : List AVal → Option (List (List UInt8))
 | [] => some []
 | .str s :: r => (strsOf r).map (s :: ·)
 | _ => none
def joinP : List AVal → Option AVal
 | [.view 1 es _ _, .str sep] => match strsOf es with
  | some xs => if (Lib.join xs sep).length ≤ 140737488355328 ∧ xs.length ≤ 140737488355328 then some (.str (Lib.join xs sep)) else none
  | none => none
 | [.lit (.slice none 0 0), .str _] => some (.str [])
 | _ => none
def prims : Nat → Option (List AVal → Option AVal)
 | 98 => some itoaP
 | 118 => some atoiP
 | 191 => some validP
 | 255 => some countP
 | 247 => some indexP
 | 228 => some indexBP
 | 211 => some cmpP
 | 205 => some joinP
 | _ => none
def movesT (g : Nat) : Bool := g == 116 || g == 114 || g == 110 || g == 148 || g == 64 || g == 96 || g == 53 || g == 182 || g == 27 || g == 26 || g == 85 || g == 130 || g == 165 || g == 166 || g == 167 || g == 169 || g == 170 || g == 171 || g == 172 || g == 206
noncomputable def AA : AProg := { fn := fun g => if g = 26 ∨ g = 85 then none else (Tryz.prog.funcs[g]?).bind (trFn gl0 Tryz.prog [58]), moves := movesT, prim := prims }
@[go_sem] theorem AA_moves {g : Nat} : AA.moves g = movesT g := by
 unfold AA
 exact Eq.refl _
attribute [go_sem] movesT
@[go_sem] theorem call98 {n : Int} (h1 : -9223372036854775808 ≤ n) (h2 : n ≤ 9223372036854775807) : callT AA 98 [.int .i64 n] [] = some (.str (Lib.itoa n), []) := callT_prim rfl (if_pos ⟨h1, h2⟩)
@[go_sem] theorem call118 {s : List UInt8} (h : s.length ≤ 281474976710656) : callT AA 118 [.str s] [] = some (.tuple [.int .i64 (atoiV s), if atoiOk s = true then .lit .nilIface else numErr], []) := callT_prim rfl (if_pos h)
@[go_sem] theorem call191 {s : List UInt8} (h : s.length ≤ 9223372036854775807) : callT AA 191 [.str s] [] = some (.bool (Lib.validD s), []) := callT_prim rfl (if_pos h)
@[go_sem] theorem call255 {s : List UInt8} {c : Int} : callT AA 255 [.str s, .int .u8 c] [] = some (.int .i64 (Lib.countByte s c.toNat.toUInt8), []) := callT_prim rfl rfl
@[go_sem] theorem call247 {s : List UInt8} {c : Int} : callT AA 247 [.str s, .int .u8 c] [] = some (.int .i64 (Lib.indexByte s c.toNat.toUInt8), []) := callT_prim rfl rfl
theorem bytesOf_map (l : List UInt8) : bytesOf (l.map .byte) = some l := by
 induction l with
 | nil => rfl
 | cons b r ih =>
  simp only [List.map_cons, AVal.byte, bytesOf] at ih ⊢
  rw [ih]
  simp
@[go_sem] theorem call228 {b : BS} {c : Int} : callT AA 228 [b.av, .int .u8 c] [] = some (.int .i64 (Lib.indexByte b.l c.toNat.toUInt8), []) := by
 cases b with
 | nil => exact callT_prim rfl rfl
 | mk clip tmp l => exact callT_prim (p := indexBP) rfl (by simp [indexBP, BS.av, BS.l, bytesOf_map])
@[go_sem] theorem call211 {s t : List UInt8} : callT AA 211 [.str s, .str t] [] = some (.int .i64 (Lib.compareBytes s t), []) := callT_prim rfl rfl
theorem strsOf_map : ∀ l : List (List UInt8), strsOf (l.map .str) = some l
 | [] => rfl
 | x :: r => by
  simp only [List.map_cons, strsOf, strsOf_map r, Option.map_some]
theorem call205 {ps : List (List UInt8)} {sep : List UInt8} {c t : Bool} (h1 : (Lib.join ps sep).length ≤ 140737488355328) (h2 : ps.length ≤ 140737488355328) : callT AA 205 [.view 1 (ps.map .str) c t, .str sep] [] = some (.str (Lib.join ps sep), []) :=
 callT_prim (p := joinP) rfl (by simp only [joinP, strsOf_map, h1, h2, and_self, if_true])
end Go.Abs
namespace Go.Abs
section
variable {A : AProg} {m nid n : Nat} {d : Option Nat} {env : List AVal} {h h' : Heap} {S : List Frame} {F : FinP} {ops : List AOper} {s : List UInt8} {k k' : IntKind} {i j : Int} {α : Type} {l : List α} {f : α → AVal} {x y v : AOpd} {id z sz off len p : Nat} {clip tmp agg : Bool} {es : List AVal} {b : BS} {ps : List (Nat × Nat)} {base : Nat} {fs : List Foot} {ft : Foot} {K : AVal × Heap → Prop}
attribute [go_sem] List.length_append List.length_replicate List.length_set List.length_drop List.length_take Nat.zero_add Nat.add_zero Int.add_zero Int.zero_add
def ixaV (sz : Nat) (v w : AVal) (h : Heap) : Option (AVal × Heap) := match v, toNat? w with
 | .view z es _ tmp, some i => match es[i]? with
  | some e => if z = sz then some (.rptr e.cells tmp, h) else none
  | none => none
 | .own id z off len _, some i => if z = sz ∧ i < len then some (.eptr id (off + i) 0, h) else none
 | _, _ => none
@[go_sem high] theorem aop_ixa : aop (.ixa sz x y) env nid h = ixaV sz (x.ev env) (y.ev env) h := rfl
theorem xp_ixa_view : (∃ r, ixaV sz (.view z es clip tmp) (.int k i) h = some r ∧ K r) ↔ (z = sz ∧ 0 ≤ i ∧ i.toNat < es.length) ∧ ∀ e, es[i.toNat]? = some e → K (.rptr e.cells tmp, h) := by
 unfold ixaV toNat?
 by_cases h0 : 0 ≤ i
 ·simp only [h0, if_true, true_and]
  by_cases h1 : i.toNat < es.length
  ·simp only [List.getElem?_eq_getElem h1, h1, and_true]
   by_cases hz : z = sz <;> simp [hz]
  ·simp [List.getElem?_eq_none (Nat.not_lt.1 h1), h1]
 ·simp [h0]
theorem xp_ixa_map : (∃ r, ixaV sz (.view z (l.map f) clip tmp) (.int k i) h = some r ∧ K r) ↔ (z = sz ∧ 0 ≤ i ∧ i.toNat < l.length) ∧ ∀ a, l[i.toNat]? = some a → K (.rptr (f a).cells tmp, h) := by
 rw [xp_ixa_view]
 simp only [List.length_map, List.getElem?_map, Option.map_eq_some_iff]
 constructor
 ·rintro ⟨h1, h2⟩
  exact ⟨h1, fun a ha => h2 _ ⟨a, ha, rfl⟩⟩
 ·rintro ⟨h1, h2⟩
  exact ⟨h1, fun e ⟨a, ha, he⟩ => he ▸ h2 a ha⟩
@[go_sem] theorem ixa_own : ixaV sz (.own id z off len clip) (.int k i) h = if z = sz ∧ 0 ≤ i ∧ i.toNat < len then some (.eptr id (off + i.toNat) 0, h) else none := by
 unfold ixaV toNat?
 by_cases h0 : 0 ≤ i
 ·simp only [h0, if_true, true_and]
 ·simp [h0]
theorem xp_ixa_bs : (∃ r, ixaV 1 b.av (.int k i) h = some r ∧ K r) ↔ (0 ≤ i ∧ i.toNat < b.l.length) ∧ ∀ a, b.l[i.toNat]? = some a → K (.rptr [.int .u8 a.toNat] b.isTmp, h) := by
 cases b with
 | nil =>
  simp only [BS.av, BS.l, List.length_nil, Nat.not_lt_zero, and_false, false_and, iff_false]
  rintro ⟨r, h1, _⟩
  unfold ixaV at h1
  simp at h1
 | mk clip tmp l =>
  simp only [BS.av, BS.l, xp_ixa_map, true_and, BS.isTmp]
  rfl
@[go_sem] theorem op_ixa_map : OP A m (ixaV sz (.view z (l.map f) clip tmp) (.int k i) h) d ops nid env n S F ↔ (z = sz ∧ 0 ≤ i ∧ i.toNat < l.length) ∧ ∀ a, l[i.toNat]? = some a → RN A m ops (nid + stride) (setAt d (.rptr (f a).cells tmp) env) h n S F := xp_ixa_map
@[go_sem] theorem od_ixa_map : OD A m ps base fs ft (ixaV sz (.view z (l.map f) clip tmp) (.int k i) h) d ops nid env n S F ↔ (z = sz ∧ 0 ≤ i ∧ i.toNat < l.length) ∧ ∀ a, l[i.toNat]? = some a → RD A m ps base (fs ++ [ft]) ops (nid + stride) (setAt d (.rptr (f a).cells tmp) env) h n S F := xp_ixa_map
@[go_sem] theorem op_ixa_bs : OP A m (ixaV 1 b.av (.int k i) h) d ops nid env n S F ↔ (0 ≤ i ∧ i.toNat < b.l.length) ∧ ∀ a, b.l[i.toNat]? = some a → RN A m ops (nid + stride) (setAt d (.rptr [.int .u8 a.toNat] b.isTmp) env) h n S F := xp_ixa_bs
@[go_sem] theorem od_ixa_bs : OD A m ps base fs ft (ixaV 1 b.av (.int k i) h) d ops nid env n S F ↔ (0 ≤ i ∧ i.toNat < b.l.length) ∧ ∀ a, b.l[i.toNat]? = some a → RD A m ps base (fs ++ [ft]) ops (nid + stride) (setAt d (.rptr [.int .u8 a.toNat] b.isTmp) env) h n S F := xp_ixa_bs
def ixpV (n sz : Nat) (v w : AVal) (h : Heap) : Option (AVal × Heap) := match v, toNat? w with
 | .ptr id o, some i => if i < n then some (.ptr id (o + i * sz), h) else none
 | _, _ => none
@[go_sem high] theorem aop_ixp {n : Nat} : aop (.ixp n sz x y) env nid h = ixpV n sz (x.ev env) (y.ev env) h := rfl
def ldV (sz : Nat) (agg : Bool) (v : AVal) (h : Heap) : Option (AVal × Heap) := match v with
 | .rptr cs _ => (part cs 0 sz agg).map (·, h)
 | .ptr id o => match h.get id with
  | some (.var cs) => (part cs o sz agg).map (·, h)
  | _ => none
 | .eptr id i o => match h.get id with
  | some (.row es _) => match es[i]? with
   | some e => (part e.cells o sz agg).map (·, h)
   | none => none
  | _ => none
 | _ => none
def ldE (es : List AVal) (i o sz : Nat) (agg : Bool) (h : Heap) : Option (AVal × Heap) := match es[i]? with
 | some e => (part e.cells o sz agg).map (·, h)
 | none => none
@[go_sem high] theorem aop_ld : aop (.ld sz agg x) env nid h = ldV sz agg (x.ev env) h := rfl
@[go_sem] theorem ldV_rptr {cs : List AVal} : ldV sz agg (.rptr cs tmp) h = (part cs 0 sz agg).map (·, h) := rfl
@[go_sem] theorem ldV_ptr {o : Nat} : ldV sz agg (.ptr id o) h = (match h.get id with | some (.var cs) => (part cs o sz agg).map (·, h) | _ => none) := rfl
@[go_sem] theorem ldV_eptr {o q : Nat} : ldV sz agg (.eptr id q o) h = (match h.get id with | some (.row es _) => ldE es q o sz agg h | _ => none) := rfl
theorem xp_ldE {q o : Nat} : (∃ r, ldE es q o sz agg h = some r ∧ K r) ↔ q < es.length ∧ ∀ e, es[q]? = some e → ∃ r, (part e.cells o sz agg).map (·, h) = some r ∧ K r := by
 unfold ldE
 by_cases h1 : q < es.length
 ·simp [List.getElem?_eq_getElem h1, h1]
 ·simp [List.getElem?_eq_none (Nat.not_lt.1 h1), h1]
theorem xp_ldE_map {q o : Nat} : (∃ r, ldE (l.map f) q o sz agg h = some r ∧ K r) ↔ q < l.length ∧ ∀ a, l[q]? = some a → ∃ r, (part (f a).cells o sz agg).map (·, h) = some r ∧ K r := by
 rw [xp_ldE]
 simp only [List.length_map, List.getElem?_map, Option.map_eq_some_iff (x := l[q]?)]
 constructor
 ·rintro ⟨h1, h2⟩
  exact ⟨h1, fun a ha => h2 _ ⟨a, ha, rfl⟩⟩
 ·rintro ⟨h1, h2⟩
  exact ⟨h1, fun e ⟨a, ha, he⟩ => he ▸ h2 a ha⟩
@[go_sem] theorem op_ldE_map {q o : Nat} : OP A m (ldE (l.map f) q o sz agg h) d ops nid env n S F ↔ q < l.length ∧ ∀ a, l[q]? = some a → OP A m ((part (f a).cells o sz agg).map (·, h)) d ops nid env n S F := xp_ldE_map
@[go_sem] theorem od_ldE_map {q o : Nat} : OD A m ps base fs ft (ldE (l.map f) q o sz agg h) d ops nid env n S F ↔ q < l.length ∧ ∀ a, l[q]? = some a → OD A m ps base fs ft ((part (f a).cells o sz agg).map (·, h)) d ops nid env n S F := xp_ldE_map
def RowOf (sz : Nat) (es : List AVal) : Prop := ∀ e ∈ es, e.cells.length = sz
theorem RowOf.nil : RowOf sz [] := by simp [RowOf]
theorem RowOf.cons {e : AVal} {r : List AVal} (h1 : e.cells.length = sz) (h2 : RowOf sz r) : RowOf sz (e :: r) := by
 intro e' he
 rcases List.mem_cons.1 he with rfl | h
 ·exact h1
 ·exact h2 e' h
theorem RowOf.append {a c : List AVal} (h1 : RowOf sz a) (h2 : RowOf sz c) : RowOf sz (a ++ c) := by
 intro e he
 rcases List.mem_append.1 he with h | h
 ·exact h1 e h
 ·exact h2 e h
theorem RowOf.map (hf : ∀ a, (f a).cells.length = sz) : RowOf sz (l.map f) := by
 intro e he
 obtain ⟨a, _, rfl⟩ := List.mem_map.1 he
 exact hf a
theorem RowOf.replicate {q : Nat} {e : AVal} (he : e.cells.length = sz) : RowOf sz (List.replicate q e) := by
 intro e' h
 rw [(List.mem_replicate.1 h).2]
 exact he
theorem RowOf.bytes {s : List UInt8} : RowOf 1 (s.map .byte) := RowOf.map fun _ => rfl
theorem RowOf.strs {s : List (List UInt8)} : RowOf 1 (s.map .str) := RowOf.map fun _ => rfl
def stE (es : List AVal) (s i o sz : Nat) (v : AVal) (id : Nat) (h : Heap) : Option (AVal × Heap) := match es[i]? with
 | some e => if o + sz ≤ s ∧ e.cells.length = s ∧ v.closed then
   some (.undef, h.put id (.row (es.set i (if sz = s then v else .agg (splice e.cells o v.cells))) s)) else none
 | none => none
def stV (sz : Nat) (p v : AVal) (h : Heap) : Option (AVal × Heap) :=
 if v.cells.length = sz ∧ v.cells.all AVal.leaf then
  match p with
  | .ptr id o => match h.get id with
   | some (.var cs) => if o + sz ≤ cs.length then some (.undef, h.put id (.var (splice cs o v.cells))) else none
   | _ => none
  | .eptr id i o => match h.get id with
   | some (.row es s) => stE es s i o sz v id h
   | _ => none
  | _ => none
 else none
@[go_sem high] theorem aop_st : aop (.st sz x v) env nid h = stV sz (x.ev env) (v.ev env) h := rfl
def stP (sz : Nat) (p v : AVal) (h : Heap) : Option (AVal × Heap) := match p with
  | .ptr id o => match h.get id with
   | some (.var cs) => if o + sz ≤ cs.length then some (.undef, h.put id (.var (splice cs o v.cells))) else none
   | _ => none
  | .eptr id i o => match h.get id with
   | some (.row es s) => stE es s i o sz v id h
   | _ => none
  | _ => none
@[go_sem] theorem stV_eq {p v : AVal} : stV sz p v h = if v.cells.length = sz ∧ v.cells.all AVal.leaf = true then stP sz p v h else none := rfl
@[go_sem] theorem stP_ptr {o : Nat} {v : AVal} : stP sz (.ptr id o) v h = (match h.get id with
   | some (.var cs) => if o + sz ≤ cs.length then some (.undef, h.put id (.var (splice cs o v.cells))) else none
   | _ => none) := rfl
@[go_sem] theorem stP_eptr {o q : Nat} {v : AVal} : stP sz (.eptr id q o) v h = (match h.get id with
   | some (.row es s) => stE es s q o sz v id h
   | _ => none) := rfl
@[go_sem] theorem stE_whole {q : Nat} {v : AVal} (hr : RowOf sz es) : stE es sz q 0 sz v id h = if q < es.length ∧ v.closed = true then some (.undef, h.put id (.row (es.set q v) sz)) else none := by
 unfold stE
 by_cases h1 : q < es.length
 ·have hc := hr es[q] (List.getElem_mem h1)
  simp [List.getElem?_eq_getElem h1, h1, hc]
 ·simp [List.getElem?_eq_none (Nat.not_lt.1 h1), h1]
@[go_sem high] theorem stE_byte {q : Nat} {c : Int} {s : List UInt8} (h0 : 0 ≤ c) (h1 : c ≤ 255) : stE (s.map .byte) 1 q 0 1 (.int .u8 c) id h = if q < s.length then some (.undef, h.put id (.row ((s.set q (UInt8.ofNat c.toNat)).map .byte) 1)) else none := by
 rw [stE_whole RowOf.bytes]
 have e : (s.map AVal.byte).set q (.int .u8 c) = (s.set q (UInt8.ofNat c.toNat)).map AVal.byte := by
  rw [List.map_set]
  congr 1
  simp only [AVal.byte, AVal.int.injEq, true_and]
  have : (UInt8.ofNat c.toNat).toNat = c.toNat := UInt8.toNat_ofNat_of_lt' (by simp [UInt8.size]; omega)
  rw [this]
  omega
 rw [e]
 simp [AVal.closed, AVal.cells, AVal.flat]
@[go_sem] theorem map_ite {α β : Type} {c : Prop} [Decidable c] {f : α → β} {x : α} : Option.map f (if c then some x else none) = if c then some (f x) else none := by
 split <;> rfl
@[go_sem] theorem bind_ite {α β : Type} {c : Prop} [Decidable c] {f : α → Option β} {x : α} : Option.bind (if c then some x else none) f = if c then f x else none := by
 split <;> rfl
@[go_sem] theorem take_map_len {α β : Type} {l : List α} {f : α → β} : (l.map f).take l.length = l.map f := List.take_of_length_le (by simp)
theorem sl_str {lo hi : Option AVal} {a c : Nat} (h1 : natOr 0 lo = some a) (h2 : natOr s.length hi = some c) : aSlice 1 (.str s) lo hi none = if a ≤ c ∧ c ≤ s.length then some (.str ((s.drop a).take (c - a))) else none := by
 unfold aSlice bounds
 simp only [h1, h2]
 by_cases hc : a ≤ c ∧ c ≤ s.length
 ·simp [hc]
 ·simp only [hc, if_false]
@[go_sem] theorem sl_str_lo : aSlice 1 (.str s) (some (.int k i)) none none = if 0 ≤ i ∧ i ≤ s.length then some (.str (s.drop i.toNat)) else none := by
 by_cases h0 : 0 ≤ i
 ·rw [sl_str (a := i.toNat) (c := s.length) (by simp [natOr, toNat?, h0]) rfl]
  have e : (s.drop i.toNat).take (s.length - i.toNat) = s.drop i.toNat := List.take_of_length_le (by simp)
  rw [e]
  have : (i.toNat ≤ s.length ∧ s.length ≤ s.length) = (0 ≤ i ∧ i ≤ s.length) := by apply propext; omega
  simp only [this]
 ·simp [aSlice, bounds, natOr, toNat?, h0]
@[go_sem] theorem sl_str_hi : aSlice 1 (.str s) none (some (.int k i)) none = if 0 ≤ i ∧ i ≤ s.length then some (.str (s.take i.toNat)) else none := by
 by_cases h0 : 0 ≤ i
 ·rw [sl_str (a := 0) (c := i.toNat) rfl (by simp [natOr, toNat?, h0])]
  simp only [List.drop_zero, Nat.sub_zero]
  have : (0 ≤ i.toNat ∧ i.toNat ≤ s.length) = (0 ≤ i ∧ i ≤ s.length) := by apply propext; omega
  simp only [this]
 ·simp [aSlice, bounds, natOr, toNat?, h0]
@[go_sem] theorem sl_str_both : aSlice 1 (.str s) (some (.int k i)) (some (.int k' j)) none = if 0 ≤ i ∧ i ≤ j ∧ j ≤ s.length then some (.str ((s.drop i.toNat).take (j.toNat - i.toNat))) else none := by
 by_cases h0 : 0 ≤ i
 ·by_cases h1 : 0 ≤ j
  ·rw [sl_str (a := i.toNat) (c := j.toNat) (by simp [natOr, toNat?, h0]) (by simp [natOr, toNat?, h1])]
   have : (i.toNat ≤ j.toNat ∧ j.toNat ≤ s.length) = (0 ≤ i ∧ i ≤ j ∧ j ≤ s.length) := by apply propext; omega
   simp only [this]
  ·have hf : ¬ (0 ≤ i ∧ i ≤ j ∧ j ≤ s.length) := by omega
   simp [aSlice, bounds, natOr, toNat?, h1, hf]
 ·simp [aSlice, bounds, natOr, toNat?, h0]
def BS.sl (b : BS) (lo hi : Nat) : BS := match b with
 | .nil => .nil
 | .mk clip tmp l => .mk (clip && hi == l.length) tmp ((l.drop lo).take (hi - lo))
theorem BS.sl_l {lo hi : Nat} : (b.sl lo hi).l = (b.l.drop lo).take (hi - lo) := by
 cases b <;> simp [BS.sl, BS.l]
theorem sl_bs {lo hi : Option AVal} {a c : Nat} (h1 : natOr 0 lo = some a) (h2 : natOr b.l.length hi = some c) : aSlice 1 b.av lo hi none = if a ≤ c ∧ c ≤ b.l.length then some (b.sl a c).av else none := by
 cases b with
 | nil =>
  simp only [BS.l, List.length_nil] at h1 h2 ⊢
  unfold aSlice
  simp only [BS.av, BS.sl, bounds, h1, h2]
  by_cases hc : a ≤ c ∧ c ≤ 0
  ·simp only [hc, and_self, if_true]
  ·simp only [hc, if_false]
 | mk clip tmp l =>
  simp only [BS.l] at h1 h2 ⊢
  unfold aSlice
  simp only [BS.av, BS.sl, bounds, List.length_map, h1, h2]
  by_cases hc : a ≤ c ∧ c ≤ l.length
  ·simp [hc, clipOf, List.map_drop, List.map_take]
  ·simp only [hc, if_false]
@[go_sem] theorem sl_bs_lo : aSlice 1 b.av (some (.int k i)) none none = if 0 ≤ i ∧ i ≤ b.l.length then some (b.sl i.toNat b.l.length).av else none := by
 by_cases h0 : 0 ≤ i
 ·rw [sl_bs (a := i.toNat) (c := b.l.length) (by simp [natOr, toNat?, h0]) rfl]
  have : (i.toNat ≤ b.l.length ∧ b.l.length ≤ b.l.length) = (0 ≤ i ∧ i ≤ b.l.length) := by apply propext; omega
  simp only [this]
 ·cases b <;> simp [aSlice, BS.av, bounds, natOr, toNat?, h0]
@[go_sem] theorem sl_bs_hi : aSlice 1 b.av none (some (.int k i)) none = if 0 ≤ i ∧ i ≤ b.l.length then some (b.sl 0 i.toNat).av else none := by
 by_cases h0 : 0 ≤ i
 ·rw [sl_bs (a := 0) (c := i.toNat) rfl (by simp [natOr, toNat?, h0])]
  have : (0 ≤ i.toNat ∧ i.toNat ≤ b.l.length) = (0 ≤ i ∧ i ≤ b.l.length) := by apply propext; omega
  simp only [this]
 ·cases b <;> simp [aSlice, BS.av, bounds, natOr, toNat?, h0]
@[go_sem] theorem sl_bs_both : aSlice 1 b.av (some (.int k i)) (some (.int k' j)) none = if 0 ≤ i ∧ i ≤ j ∧ j ≤ b.l.length then some (b.sl i.toNat j.toNat).av else none := by
 by_cases h0 : 0 ≤ i
 ·by_cases h1 : 0 ≤ j
  ·rw [sl_bs (a := i.toNat) (c := j.toNat) (by simp [natOr, toNat?, h0]) (by simp [natOr, toNat?, h1])]
   have : (i.toNat ≤ j.toNat ∧ j.toNat ≤ b.l.length) = (0 ≤ i ∧ i ≤ j ∧ j ≤ b.l.length) := by apply propext; omega
   simp only [this]
  ·have hf : ¬ (0 ≤ i ∧ i ≤ j ∧ j ≤ b.l.length) := by omega
   rw [if_neg hf]
   cases b <;> simp [aSlice, BS.av, bounds, natOr, toNat?, h1, h0]
 ·cases b <;> simp [aSlice, BS.av, bounds, natOr, toNat?, h0]
theorem sl_own {lo hi : Option AVal} {a c : Nat} (h1 : natOr 0 lo = some a) (h2 : natOr len hi = some c) : aSlice sz (.own id z off len clip) lo hi none = if a ≤ c ∧ c ≤ len ∧ z = sz ∧ (clip = false ∨ c = len) then some (.own id z (off + a) (c - a) clip) else none := by
 unfold aSlice bounds
 simp only [h1, h2]
 by_cases hc : a ≤ c ∧ c ≤ len
 ·by_cases hz : z = sz ∧ (clip = false ∨ c = len)
  ·simp [hc, hz]
  ·have h2 : ¬ (a ≤ c ∧ c ≤ len ∧ z = sz ∧ (clip = false ∨ c = len)) := fun h => hz h.2.2
   rw [if_neg h2]
   simp only [hc, and_self, if_true]
   simp [hz]
 ·have h2 : ¬ (a ≤ c ∧ c ≤ len ∧ z = sz ∧ (clip = false ∨ c = len)) := fun h => hc ⟨h.1, h.2.1⟩
  rw [if_neg h2]
  simp only [hc, if_false]
@[go_sem] theorem sl_own_lo : aSlice sz (.own id z off len clip) (some (.int k i)) none none = if 0 ≤ i ∧ i ≤ len ∧ z = sz then some (.own id z (off + i.toNat) (len - i.toNat) clip) else none := by
 by_cases h0 : 0 ≤ i
 ·rw [sl_own (a := i.toNat) (c := len) (by simp [natOr, toNat?, h0]) rfl]
  have : (i.toNat ≤ len ∧ len ≤ len ∧ z = sz ∧ (clip = false ∨ len = len)) = (0 ≤ i ∧ i ≤ len ∧ z = sz) := by
   apply propext
   constructor
   ·rintro ⟨a, _, c, _⟩
    exact ⟨h0, by omega, c⟩
   ·rintro ⟨a, b, c⟩
    exact ⟨by omega, Nat.le_refl _, c, .inr rfl⟩
  exact (ite_congr this (fun _ => rfl) (fun _ => rfl))
 ·simp [aSlice, bounds, natOr, toNat?, h0]
@[go_sem] theorem sl_own_hi : aSlice sz (.own id z off len false) none (some (.int k i)) none = if 0 ≤ i ∧ i ≤ len ∧ z = sz then some (.own id z off i.toNat false) else none := by
 by_cases h0 : 0 ≤ i
 ·rw [sl_own (a := 0) (c := i.toNat) rfl (by simp [natOr, toNat?, h0])]
  simp only [Nat.add_zero, Nat.sub_zero, true_or, and_true]
  have : (0 ≤ i.toNat ∧ i.toNat ≤ len ∧ z = sz) = (0 ≤ i ∧ i ≤ len ∧ z = sz) := by
   apply propext
   constructor
   ·rintro ⟨a, b, c⟩; exact ⟨h0, by omega, c⟩
   ·rintro ⟨a, b, c⟩; exact ⟨by omega, by omega, c⟩
  exact (ite_congr this (fun _ => rfl) (fun _ => rfl))
 ·simp [aSlice, bounds, natOr, toNat?, h0]
end
section
variable {b : BS} {f : Nat → Option Nat} {h : Heap}
@[go_sem] theorem ids_bs : b.av.ids = [] := by cases b <;> rfl
@[go_sem] theorem ren_bs : b.av.ren f = b.av := by cases b <;> rfl
@[go_sem] theorem ownIds_bs : b.av.ownIds = [] := by cases b <;> rfl
@[go_sem] theorem lend_bs : b.av.lend h = some b.av := by cases b <;> rfl
@[go_sem] theorem cells_bs : b.av.cells = [b.av] := by cases b <;> rfl
@[go_sem] theorem leaf_bs : b.av.leaf = true := by cases b <;> rfl
@[go_sem] theorem elems_bs : elems h b.av = some (b.l.map .byte) := by cases b <;> rfl
@[go_sem] theorem appended_bs : appended h b.av = some (b.l.map .byte) := by
 cases b with
 | nil => rfl
 | mk c t l => exact appended_view.trans (if_pos (.inr closed_bytes))
@[go_sem] theorem szIs_bs : szIs 1 b.av = true := by cases b <;> rfl
@[go_sem] theorem bytesOf_map' {l : List UInt8} : bytesOf (l.map .byte) = some l := bytesOf_map l
def lenV (v : AVal) (h : Heap) : Option (AVal × Heap) := match v with
  | .view _ es _ _ => some (.int .i64 es.length, h)
  | .own _ _ _ n _ => some (.int .i64 n, h)
  | .lit (.slice none 0 0) => some (.int .i64 0, h)
  | _ => none
@[go_sem high] theorem aop_len1 {env : List AVal} {nid : Nat} {x : AOpd} : aop (.len 1 x) env nid h = lenV (x.ev env) h := rfl
@[go_sem] theorem lenV_view {z : Nat} {es : List AVal} {c t : Bool} : lenV (.view z es c t) h = some (.int .i64 es.length, h) := rfl
@[go_sem] theorem lenV_own {i z o n : Nat} {c : Bool} : lenV (.own i z o n c) h = some (.int .i64 n, h) := rfl
@[go_sem] theorem lenV_nil : lenV (.lit (.slice none 0 0)) h = some (.int .i64 0, h) := rfl
@[go_sem] theorem lenV_bs : lenV b.av h = some (.int .i64 b.l.length, h) := by cases b <;> simp [lenV, BS.av, BS.l]
end
end Go.Abs
namespace Go.Abs
section
variable {env : List AVal} {nid : Nat} {h : Heap}
def lookS (zero : AVal) (ok : Bool) (k : AVal) (es : List (AVal × AVal)) (h : Heap) : Option (AVal × Heap) := match findKey k es 0 with
 | some (some (_, v)) => some (if ok then .tuple [v, .bool true] else v, h)
 | some none => some (if ok then .tuple [zero, .bool false] else zero, h)
 | none => none
def lookM (zero : AVal) (ok : Bool) (m k : AVal) (h : Heap) : Option (AVal × Heap) := match m with
 | .mapr id => match h.get id with
  | some (.map es) => lookS zero ok k es h
  | _ => none
 | _ => none
@[go_sem] theorem aop_look {kk : Nat} {zero : AVal} {m k : AOpd} {ok : Bool} : aop (.look kk zero m k ok) env nid h = if keyOk kk (k.ev env) = true then lookM zero ok (m.ev env) (k.ev env) h else none := rfl
@[go_sem] theorem lookM_mapr {zero k : AVal} {ok : Bool} {id : Nat} : lookM zero ok (.mapr id) k h = (match h.get id with
  | some (.map es) => lookS zero ok k es h
  | _ => none) := rfl
def mupdS (k v : AVal) (es : List (AVal × AVal)) (id : Nat) (h : Heap) : Option (AVal × Heap) := match findKey k es 0 with
 | some (some (i, _)) => some (.undef, h.put id (.map (setVal es i v)))
 | some none => some (.undef, h.put id (.map (es ++ [(k, v)])))
 | none => none
def mupdM (kk : Nat) (m k v : AVal) (h : Heap) : Option (AVal × Heap) := match m with
 | .mapr id => match h.get id with
  | some (.map es) => if v.flat = true ∧ keyOk kk k = true then mupdS k v es id h else none
  | _ => none
 | _ => none
@[go_sem] theorem aop_mupd {kk : Nat} {m k v : AOpd} : aop (.mupd kk m k v) env nid h = mupdM kk (m.ev env) (k.ev env) (v.ev env) h := by
 simp only [aop, mupdM]
 cases m.ev env <;> rfl
@[go_sem] theorem mupdM_mapr {kk : Nat} {k v : AVal} {id : Nat} : mupdM kk (.mapr id) k v h = (match h.get id with
  | some (.map es) => if v.flat = true ∧ keyOk kk k = true then mupdS k v es id h else none
  | _ => none) := rfl
end
abbrev Kinds := List (List UInt8 × Int)
def kv (e : List UInt8 × Int) : AVal × AVal := (.str e.1, .int .i64 e.2)
def lk (p : List UInt8) : Kinds → Int
 | [] => 0
 |(q, v) :: r => if p = q then v else lk p r
def putK (p : List UInt8) (v : Int) : Kinds → Kinds
 | [] => [(p, v)]
 |(q, u) :: r => if p = q then (q, v) :: r else (q, u) :: putK p v r
def atK (p : List UInt8) : Kinds → Nat → Option (Nat × AVal)
 | [], _ => none
 |(q, v) :: r, i => if p = q then some (i, .int .i64 v) else atK p r (i + 1)
theorem findKey_kv (p : List UInt8) : ∀ (ks : Kinds) (i : Nat), findKey (.str p) (ks.map kv) i = some (atK p ks i)
 | [], i => rfl
 |(q, v) :: r, i => by
  simp only [List.map_cons, kv, findKey, keyEq, atK]
  by_cases hpq : p = q
  ·simp [hpq]
  ·have : (p == q) = false := by simpa using hpq
   simp only [this, hpq, if_false]
   exact findKey_kv p r (i + 1)
theorem atK_lk (p : List UInt8) : ∀ (ks : Kinds) (i : Nat), (match atK p ks i with | some (_, v) => v | none => .int .i64 0) = .int .i64 (lk p ks)
 | [], i => rfl
 |(q, v) :: r, i => by
  unfold atK lk
  by_cases hpq : p = q
  ·simp [hpq]
  ·simp only [hpq, if_false]
   exact atK_lk p r (i + 1)
@[go_sem] theorem lookS_kv {p : List UInt8} {ks : Kinds} {h : Heap} : lookS (.int .i64 0) false (.str p) (ks.map kv) h = some (.int .i64 (lk p ks), h) := by
 unfold lookS
 rw [findKey_kv, ← atK_lk p ks 0]
 cases atK p ks 0 <;> simp
theorem atK_put (p : List UInt8) (v : Int) : ∀ (ks : Kinds) (i : Nat), (match atK p ks i with | some (j, _) => setVal (ks.map kv) (j - i) (.int .i64 v) | none => ks.map kv ++ [(.str p, .int .i64 v)]) = (putK p v ks).map kv ∧ (∀ j u, atK p ks i = some (j, u) → i ≤ j)
 | [], i => ⟨rfl, by simp [atK]⟩
 |(q, u) :: r, i => by
  unfold atK putK
  by_cases hpq : p = q
  ·simp [hpq, setVal, kv]
  ·simp only [hpq, if_false]
   obtain ⟨h1, h2⟩ := atK_put p v r (i + 1)
   constructor
   ·rw [List.map_cons (l := putK p v r), ← h1]
    cases hat : atK p r (i + 1) with
    | none => simp
    | some x =>
     obtain ⟨j, w⟩ := x
     have := h2 j w hat
     have e : j - i = (j - (i + 1)) + 1 := by omega
     simp only [e, List.map_cons, setVal, kv]
   ·intro j w hj
    have := h2 j w hj
    omega
@[go_sem] theorem mupdS_kv {p : List UInt8} {v : Int} {ks : Kinds} {id : Nat} {h : Heap} : mupdS (.str p) (.int .i64 v) (ks.map kv) id h = some (.undef, h.put id (.map ((putK p v ks).map kv))) := by
 unfold mupdS
 rw [findKey_kv, ← (atK_put p v ks 0).1]
 cases hat : atK p ks 0 with
 | none => rfl
 | some x => rfl
@[go_sem] theorem keyOk_str {p : List UInt8} : keyOk 0 (.str p) = true := rfl
structure Ent where
 path : List UInt8
 kind : Int
 mode : Int
 uid : Int
 gid : Int
 time : Int
 link : List UInt8
 data : BS
def Ent.av (e : Ent) : AVal := .agg [.str e.path, .int .i64 e.kind, .int .i64 e.mode, .int .i64 e.uid, .int .i64 e.gid, .int .i64 e.time, .str e.link, e.data.av]
attribute [go_sem] Ent.av
@[go_sem] theorem cells_ent {e : Ent} : e.av.cells = [.str e.path, .int .i64 e.kind, .int .i64 e.mode, .int .i64 e.uid, .int .i64 e.gid, .int .i64 e.time, .str e.link, e.data.av] := rfl
def errV (n : Int) : AVal := if n = 0 then .lit .nilIface else .iface 58 (.int .i64 n)
section
variable {bytes sz nid id z off len i o : Nat} {clip tmp : Bool} {xs es cs r : List AVal} {h : Heap} {c v : AVal} {k k' : IntKind} {b : BS} {env : List AVal} {x : AOpd} {lo hi mx : Option AOpd} {p q : Int}
@[go_sem] theorem appendTo_nil : appendTo bytes sz (.lit (.slice none 0 0)) xs nid h = if xs.isEmpty then some (.lit (.slice none 0 0), h) else
  if xs.length * bytes ≤ roomMax ∧ xs.length < roomMax then some (.own nid sz 0 xs.length false, h ++ [(nid, .row xs sz)]) else none := rfl
@[go_sem] theorem appendTo_view : appendTo bytes sz (.view z es true tmp) xs nid h = if xs.isEmpty then some (.view z es true tmp, h) else
  if z = sz ∧ (es.length + xs.length) * bytes ≤ roomMax ∧ es.length + xs.length < roomMax ∧ (tmp = false ∨ es.all AVal.closed = true) then
   some (.own nid sz 0 (es.length + xs.length) false, h ++ [(nid, .row (es ++ xs) sz)]) else none := rfl
@[go_sem] theorem appendTo_own : appendTo bytes sz (.own id z 0 len false) xs nid h = (match h.get id with
  | some (.row es _) =>
   if z = sz ∧ len ≤ es.length ∧ (len + xs.length) * bytes ≤ roomMax ∧ len + xs.length < roomMax then
    some (.own nid sz 0 (len + xs.length) false, h.del id ++ [(nid, .row (es.take len ++ xs) sz)])
   else none
  | _ => none) := rfl
@[go_sem] theorem appendTo_ownc : appendTo bytes sz (.own id z 0 len true) xs nid h = (match h.get id with
  | some (.row es _) =>
   if z = sz ∧ len ≤ es.length ∧ (len + xs.length) * bytes ≤ roomMax ∧ len + xs.length < roomMax then
    if xs.isEmpty then some (.own id z 0 len true, h) else
    some (.own nid sz 0 (len + xs.length) false, h ++ [(nid, .row (es.take len ++ xs) sz)])
   else none
  | _ => none) := rfl
@[go_sem] theorem consume1_own : consume1 h (.own id z off len clip) = (match h.get id with
  | some (.row es _) => if off + len ≤ es.length then some (.view z ((es.drop off).take len) clip false, h.del id) else none
  | _ => none) := rfl
@[go_sem] theorem consume1_int {n : Int} : consume1 h (.int k n) = some (.int k n, h) := rfl
@[go_sem] theorem consume1_str {l : List UInt8} : consume1 h (.str l) = some (.str l, h) := rfl
@[go_sem] theorem consume1_bool {t : Bool} : consume1 h (.bool t) = some (.bool t, h) := rfl
@[go_sem] theorem consume1_lit {t : Value} : consume1 h (.lit t) = some (.lit t, h) := rfl
@[go_sem] theorem consume1_view : consume1 h (.view z es clip tmp) = some (.view z es clip tmp, h) := rfl
@[go_sem] theorem consume1_bs : consume1 h b.av = some (b.av, h) := by cases b <;> rfl
@[go_sem] theorem consumeCs_nil : consumeCs h [] = some ([], h) := rfl
@[go_sem] theorem consumeCs_cons : consumeCs h (c :: r) = (consume1 h c).bind fun x => (consumeCs x.2 r).bind fun y => some (x.1 :: y.1, y.2) := rfl
@[go_sem] theorem consume_agg : consume h (.agg cs) = (consumeCs h cs).bind fun x => some (.agg x.1, x.2) := by
 simp only [consume]
 cases consumeCs h cs <;> rfl
@[go_sem] theorem consume_int {n : Int} : consume h (.int k n) = some (.int k n, h) := rfl
@[go_sem] theorem consume_str {l : List UInt8} : consume h (.str l) = some (.str l, h) := rfl
@[go_sem] theorem consume_own : consume h (.own id z off len clip) = consume1 h (.own id z off len clip) := rfl
@[go_sem] theorem consumeL_nil : consumeL h [] = some ([], h) := rfl
@[go_sem] theorem consumeL_cons : consumeL h (c :: r) = (consume h c).bind fun x => (consumeL x.2 r).bind fun y => some (x.1 :: y.1, y.2) := rfl
attribute [go_sem] allSz
def BS.isNil : BS → Bool
 | .nil => true
 | .mk .. => false
@[go_sem] theorem aBin_bs_eql {cst : Bool} : aBin .eql .slice cst b.av (.lit (.slice none 0 0)) = some (.bool b.isNil) := by cases b <;> rfl
@[go_sem] theorem flat_bs : b.av.flat = !b.isTmp := by
 cases b with
 | nil => rfl
 | mk clip tmp l => cases tmp <;> rfl
def slcV (sz : Nat) (v : AVal) (lo hi mx : Option AVal) (h : Heap) : Option (AVal × Heap) := match v with
  | .str _ => none
  | v => (aSlice sz v lo hi mx).map (·, h)
@[go_sem high] theorem aop_slcV : aop (.slc sz x lo hi mx) env nid h = slcV sz (x.ev env) (lo.map (·.ev env)) (hi.map (·.ev env)) (mx.map (·.ev env)) h := rfl
variable {lv hv mv : Option AVal}
@[go_sem] theorem slcV_view : slcV sz (.view z es clip tmp) lv hv mv h = (aSlice sz (.view z es clip tmp) lv hv mv).map (·, h) := rfl
@[go_sem] theorem slcV_own : slcV sz (.own id z off len clip) lv hv mv h = (aSlice sz (.own id z off len clip) lv hv mv).map (·, h) := rfl
@[go_sem] theorem slcV_nil : slcV sz (.lit (.slice none 0 0)) lv hv mv h = (aSlice sz (.lit (.slice none 0 0)) lv hv mv).map (·, h) := rfl
@[go_sem] theorem slcV_bs : slcV sz b.av lv hv mv h = (aSlice sz b.av lv hv mv).map (·, h) := by cases b <;> rfl
@[go_sem] theorem sl_own_clip : aSlice sz (.own id z off len clip) none (some (.int k len)) (some (.int k' len)) = if z = sz then some (.own id z off len true) else none := by
 simp [aSlice, bounds, natOr, toNat?]
@[go_sem] theorem sl_nil_clip : aSlice sz (.lit (.slice none 0 0)) none (some (.int k 0)) (some (.int k' 0)) = some (.lit (.slice none 0 0)) := by
 simp [aSlice, bounds, natOr, toNat?]
def BS.clipped : BS → BS
 | .nil => .nil
 | .mk _ t l => .mk true t l
@[go_sem] theorem sl_bs_clip : aSlice 1 b.av none (some (.int k b.l.length)) (some (.int k' b.l.length)) = some b.clipped.av := by
 cases b with
 | nil => simp [aSlice, bounds, natOr, toNat?, BS.av, BS.l, BS.clipped]
 | mk c t l => simp [aSlice, bounds, natOr, toNat?, BS.av, BS.l, BS.clipped, clipOf, take_map_len]
@[go_sem] theorem mk_l {t : Bool} {l : List UInt8} : (BS.mk clip t l).l = l := rfl
end
@[go_sem] theorem av_nil : BS.av .nil = .lit (.slice none 0 0) := rfl
@[go_sem] theorem l_nil : BS.l .nil = [] := rfl
@[go_sem] theorem one_slice : (Value.slice none 0 0).oneCell' = true := rfl
@[go_sem] theorem one_iface : Value.nilIface.oneCell' = true := rfl
@[go_sem] theorem one_ptr : (Value.pointer none).oneCell' = true := rfl
@[go_sem] theorem one_map : (Value.map none).oneCell' = true := rfl
def BS.cp : BS → BS
 | .nil => .nil
 | .mk _ _ l => .mk false false l
@[go_sem] theorem cp_nil : BS.cp .nil = .nil := rfl
@[go_sem] theorem cp_mk {c t : Bool} {l : List UInt8} : BS.cp (.mk c t l) = .mk false false l := rfl
theorem cp_l {b : BS} : b.cp.l = b.l := by cases b <;> rfl
def Ent.cp (e : Ent) : Ent := { e with data := e.data.cp }
def Ent.cav (e : Ent) : AVal := .agg [.str e.path, .int .i64 e.kind, .int .i64 e.mode, .int .i64 e.uid, .int .i64 e.gid, .int .i64 e.time, .str e.link, e.data.cp.av]
theorem cav_eq {t : List Ent} : t.map Ent.cav = (t.map Ent.cp).map Ent.av := by
 rw [List.map_map]
 rfl
theorem mk_av {c t : Bool} {l : List UInt8} : BS.av (.mk c t l) = .view 1 (l.map .byte) c t := rfl
@[go_sem] theorem rep_byte {n : Nat} : List.replicate n (AVal.int .u8 0) = (List.replicate n (0 : UInt8)).map .byte := by
 rw [List.map_replicate]
 rfl
attribute [go_sem] List.headD_cons
theorem and7 {x : Int} (h0 : 0 ≤ x) (h1 : x ≤ 9223372036854775807) : ((BitVec.ofInt 64 x &&& BitVec.ofInt 64 7).toNat : Int) = x % 8 := by
 rw [BitVec.toNat_and]
 have e1 : (BitVec.ofInt 64 x).toNat = x.toNat := by
  rw [BitVec.toNat_ofInt]
  congr 1
  omega
 have e2 : (BitVec.ofInt 64 7).toNat = 2 ^ 3 - 1 := by rfl
 rw [e1, e2, Nat.and_two_pow_sub_one_eq_mod]
 omega
@[go_sem] theorem bits_i64 : IntKind.i64.bits = 64 := rfl
@[go_sem] theorem shr3 {x : Int} : x.fdiv (2 ^ (min 3 64)) = x / 8 := by
 have : (2 : Int) ^ (min 3 64) = 8 := rfl
 rw [this]
 exact Int.fdiv_eq_ediv_of_nonneg _ (by omega)
structure Hd where
 path : List UInt8
 mode : Int
 uid : Int
 gid : Int
 size : Int
 time : Int
 type : UInt8
 link : List UInt8
def Hd.av (h : Hd) : AVal := .agg [.str h.path, .int .i64 h.mode, .int .i64 h.uid, .int .i64 h.gid, .int .i64 h.size, .int .i64 h.time, .int .u8 h.type.toNat, .str h.link]
attribute [go_sem] Hd.av
end Go.Abs
namespace Go.Proofs
open Go.Shelf
def Tryz.lays156_ren : Go.Shelf.Ren := ⟨fun | 156 => 205 | 165 => 238 | 166 => 239 | 169 => 240 | 240 => 252 | 241 => 253 | 276 => 256 | 277 => 257 | n => n, fun | 31 => 162 | 9 => 9 | 3 => 3 | 4 => 4 | 0 => 0 | 20 => 20 | 72 => 267 | 76 => 54 | 70 => 265 | 37 => 26 | 75 => 28 | 127 => 277 | 164 => 285 | 5 => 5 | 80 => 269 | n => n, fun | n => n⟩
theorem Tryz.lays156 : Go.Proofs.Lays.n156 Tryz.prog Tryz.lays156_ren := {
  mixed := by kernel_rfl
  f156 := Tryz.func205.trans (congrArg some (by kernel_rfl))
  f165 := Tryz.func238.trans (congrArg some (by kernel_rfl))
  f166 := Tryz.func239.trans (congrArg some (by kernel_rfl))
  f169 := Tryz.func240.trans (congrArg some (by kernel_rfl))
  f240 := Tryz.func252.trans (congrArg some (by kernel_rfl))
  f241 := Tryz.func253.trans (congrArg some (by kernel_rfl))
  f276 := Tryz.func256.trans (congrArg some (by kernel_rfl))
  f277 := Tryz.func257.trans (congrArg some (by kernel_rfl))
  t0 := Tryz.underlying0
  a0 := Tryz.isAgg0
  z0 := Tryz.sizeOf0
  v0 := Tryz.zeroValue0
  t3 := Tryz.underlying3
  a3 := Tryz.isAgg3
  z3 := Tryz.sizeOf3
  v3 := Tryz.zeroValue3
  t4 := Tryz.underlying4
  a4 := Tryz.isAgg4
  z4 := Tryz.sizeOf4
  v4 := Tryz.zeroValue4
  t9 := Tryz.underlying9
  a9 := Tryz.isAgg9
  z9 := Tryz.sizeOf9
  v9 := Tryz.zeroValue9
  t20 := Tryz.underlying20
  a20 := Tryz.isAgg20
  z20 := Tryz.sizeOf20
  v20 := Tryz.zeroValue20
  t31 := Tryz.underlying162
  a31 := Tryz.isAgg162
  z31 := Tryz.sizeOf162
  v31 := Tryz.zeroValue162
  t37 := Tryz.underlying26
  a37 := Tryz.isAgg26
  z37 := Tryz.sizeOf26
  v37 := Tryz.zeroValue26
  t70 := Tryz.underlying265
  a70 := Tryz.isAgg265
  z70 := Tryz.sizeOf265
  v70 := Tryz.zeroValue265
  t72 := Tryz.underlying267
  a72 := Tryz.isAgg267
  z72 := Tryz.sizeOf267
  v72 := Tryz.zeroValue267
  t75 := Tryz.underlying28
  a75 := Tryz.isAgg28
  z75 := Tryz.sizeOf28
  v75 := Tryz.zeroValue28
  t76 := Tryz.underlying54
  a76 := Tryz.isAgg54
  z76 := Tryz.sizeOf54
  v76 := Tryz.zeroValue54
  t127 := Tryz.underlying277
  a127 := Tryz.isAgg277
  z127 := Tryz.sizeOf277
  v127 := Tryz.zeroValue277
  t164 := Tryz.underlying285
  a164 := Tryz.isAgg285
  z164 := Tryz.sizeOf285
  v164 := Tryz.zeroValue285 }
theorem Tryz.Builder_Extra_156 : Builder.Extra Tryz.prog Tryz.lays156_ren := {
  sizeBuilder := by kernel_rfl
  liesBuilder := by kernel_rfl
  t5 := Tryz.underlying5
  a5 := Tryz.isAgg5
  z5 := Tryz.sizeOf5
  v5 := Tryz.zeroValue5
  infoByte := by kernel_rfl
  cellsByte := by kernel_rfl
  sizeByte := by kernel_rfl
  neB5 := by decide }
def Tryz.lays106_ren : Go.Shelf.Ren := ⟨fun | 106 => 132 | 213 => 175 | 265 => 211 | n => n, fun | 9 => 9 | 3 => 3 | n => n, fun | n => n⟩
theorem Tryz.lays106 : Go.Proofs.Lays.n106 Tryz.prog Tryz.lays106_ren := {
  mixed := by kernel_rfl
  f106 := Tryz.func132.trans (congrArg some (by kernel_rfl))
  f213 := Tryz.func175.trans (congrArg some (by kernel_rfl))
  f265 := Tryz.func211.trans (congrArg some (by kernel_rfl))
  t3 := Tryz.underlying3
  a3 := Tryz.isAgg3
  z3 := Tryz.sizeOf3
  v3 := Tryz.zeroValue3
  t9 := Tryz.underlying9
  a9 := Tryz.isAgg9
  z9 := Tryz.sizeOf9
  v9 := Tryz.zeroValue9 }
def Tryz.lays145_ren : Go.Shelf.Ren := ⟨fun | 145 => 119 | 220 => 155 | 219 => 202 | 217 => 227 | 225 => 233 | 224 => 195 | 267 => 234 | 266 => 247 | 314 => 250 | n => n, fun | 9 => 9 | 4 => 4 | 59 => 91 | 3 => 3 | 5 => 5 | 46 => 78 | 146 => 256 | 51 => 205 | n => n, fun | 1 => 0 | n => n⟩
theorem Tryz.lays145 : Go.Proofs.Lays.n145 Tryz.prog Tryz.lays145_ren := {
  mixed := by kernel_rfl
  f145 := Tryz.func119.trans (congrArg some (by kernel_rfl))
  f217 := Tryz.func227.trans (congrArg some (by kernel_rfl))
  f219 := Tryz.func202.trans (congrArg some (by kernel_rfl))
  f220 := Tryz.func155.trans (congrArg some (by kernel_rfl))
  f224 := Tryz.func195.trans (congrArg some (by kernel_rfl))
  f225 := Tryz.func233.trans (congrArg some (by kernel_rfl))
  f266 := Tryz.func247.trans (congrArg some (by kernel_rfl))
  f267 := Tryz.func234.trans (congrArg some (by kernel_rfl))
  f314 := Tryz.func250.trans (congrArg some (by kernel_rfl))
  t3 := Tryz.underlying3
  a3 := Tryz.isAgg3
  z3 := Tryz.sizeOf3
  v3 := Tryz.zeroValue3
  t4 := Tryz.underlying4
  a4 := Tryz.isAgg4
  z4 := Tryz.sizeOf4
  v4 := Tryz.zeroValue4
  t5 := Tryz.underlying5
  a5 := Tryz.isAgg5
  z5 := Tryz.sizeOf5
  v5 := Tryz.zeroValue5
  t9 := Tryz.underlying9
  a9 := Tryz.isAgg9
  z9 := Tryz.sizeOf9
  v9 := Tryz.zeroValue9
  t46 := Tryz.underlying78
  a46 := Tryz.isAgg78
  z46 := Tryz.sizeOf78
  v46 := Tryz.zeroValue78
  t51 := Tryz.underlying205
  a51 := Tryz.isAgg205
  z51 := Tryz.sizeOf205
  v51 := Tryz.zeroValue205
  t59 := Tryz.underlying91
  a59 := Tryz.isAgg91
  z59 := Tryz.sizeOf91
  v59 := Tryz.zeroValue91
  t146 := Tryz.underlying256
  a146 := Tryz.isAgg256
  z146 := Tryz.sizeOf256
  v146 := Tryz.zeroValue256
  g1 := by kernel_rfl }
def Tryz.sortE_ren : Go.Shelf.Ren := ⟨fun | 6 => 85 | 15 => 131 | 14 => 130 | 28 => 173 | 29 => 174 | 20 => 165 | 21 => 166 | 22 => 167 | 23 => 168 | 24 => 169 | 25 => 170 | 26 => 171 | 27 => 172 | 46 => 206 | 47 => 207 | 48 => 208 | 49 => 209 | 50 => 210 | 57 => 241 | n => n, fun | 22 => 22 | 24 => 36 | 25 => 124 | 3 => 3 | 39 => 78 | 0 => 0 | 53 => 205 | 55 => 80 | 4 => 4 | 46 => 199 | 45 => 198 | 50 => 148 | 5 => 5 | 9 => 9 | 66 => 233 | 70 => 184 | 76 => 270 | 77 => 70 | n => n, fun | n => n⟩
theorem Tryz.sortE : Go.Proofs.SlLaysF0.n6 Tryz.prog Tryz.sortE_ren := {
  mixed := by kernel_rfl
  f6 := ⟨Tryz.f85.name, by decide, Tryz.func85.trans (congrArg some (by kernel_rfl))⟩
  f14 := ⟨Tryz.f130.name, by decide, Tryz.func130.trans (congrArg some (by kernel_rfl))⟩
  f15 := Tryz.func131.trans (congrArg some (by kernel_rfl))
  f20 := ⟨Tryz.f165.name, by decide, Tryz.func165.trans (congrArg some (by kernel_rfl))⟩
  f21 := ⟨Tryz.f166.name, by decide, Tryz.func166.trans (congrArg some (by kernel_rfl))⟩
  f22 := ⟨Tryz.f167.name, by decide, Tryz.func167.trans (congrArg some (by kernel_rfl))⟩
  f23 := ⟨Tryz.f168.name, by decide, Tryz.func168.trans (congrArg some (by kernel_rfl))⟩
  f24 := ⟨Tryz.f169.name, by decide, Tryz.func169.trans (congrArg some (by kernel_rfl))⟩
  f25 := ⟨Tryz.f170.name, by decide, Tryz.func170.trans (congrArg some (by kernel_rfl))⟩
  f26 := ⟨Tryz.f171.name, by decide, Tryz.func171.trans (congrArg some (by kernel_rfl))⟩
  f27 := ⟨Tryz.f172.name, by decide, Tryz.func172.trans (congrArg some (by kernel_rfl))⟩
  f28 := Tryz.func173.trans (congrArg some (by kernel_rfl))
  f29 := Tryz.func174.trans (congrArg some (by kernel_rfl))
  f46 := ⟨Tryz.f206.name, by decide, Tryz.func206.trans (congrArg some (by kernel_rfl))⟩
  f47 := Tryz.func207.trans (congrArg some (by kernel_rfl))
  f48 := Tryz.func208.trans (congrArg some (by kernel_rfl))
  f49 := ⟨Tryz.f209.name, by decide, Tryz.func209.trans (congrArg some (by kernel_rfl))⟩
  f50 := ⟨Tryz.f210.name, by decide, Tryz.func210.trans (congrArg some (by kernel_rfl))⟩
  f57 := ⟨Tryz.f241.name, by decide, Tryz.func241.trans (congrArg some (by kernel_rfl))⟩
  t0 := Tryz.underlying0
  a0 := Tryz.isAgg0
  z0 := Tryz.sizeOf0
  v0 := Tryz.zeroValue0
  t3 := Tryz.underlying3
  a3 := Tryz.isAgg3
  z3 := Tryz.sizeOf3
  v3 := Tryz.zeroValue3
  t4 := Tryz.underlying4
  a4 := Tryz.isAgg4
  z4 := Tryz.sizeOf4
  v4 := Tryz.zeroValue4
  t5 := Tryz.underlying5
  a5 := Tryz.isAgg5
  z5 := Tryz.sizeOf5
  v5 := Tryz.zeroValue5
  t9 := Tryz.underlying9
  a9 := Tryz.isAgg9
  z9 := Tryz.sizeOf9
  v9 := Tryz.zeroValue9
  t22 := Tryz.underlying22
  a22 := Tryz.isAgg22
  z22 := Tryz.sizeOf22
  v22 := Tryz.zeroValue22
  t25 := Tryz.underlying124
  a25 := Tryz.isAgg124
  z25 := Tryz.sizeOf124
  v25 := Tryz.zeroValue124
  t39 := Tryz.underlying78
  a39 := Tryz.isAgg78
  z39 := Tryz.sizeOf78
  v39 := Tryz.zeroValue78
  t45 := Tryz.underlying198
  a45 := Tryz.isAgg198
  z45 := Tryz.sizeOf198
  v45 := Tryz.zeroValue198
  t46 := Tryz.underlying199
  a46 := Tryz.isAgg199
  z46 := Tryz.sizeOf199
  v46 := Tryz.zeroValue199
  t50 := Tryz.underlying148
  a50 := Tryz.isAgg148
  z50 := Tryz.sizeOf148
  v50 := Tryz.zeroValue148
  t53 := Tryz.underlying205
  a53 := Tryz.isAgg205
  z53 := Tryz.sizeOf205
  v53 := Tryz.zeroValue205
  t55 := Tryz.underlying80
  a55 := Tryz.isAgg80
  z55 := Tryz.sizeOf80
  v55 := Tryz.zeroValue80
  t66 := Tryz.underlying233
  a66 := Tryz.isAgg233
  z66 := Tryz.sizeOf233
  v66 := Tryz.zeroValue233
  t70 := Tryz.underlying184
  a70 := Tryz.isAgg184
  z70 := Tryz.sizeOf184
  v70 := Tryz.zeroValue184
  t76 := Tryz.underlying270
  a76 := Tryz.isAgg270
  z76 := Tryz.sizeOf270
  v76 := Tryz.zeroValue270
  t77 := Tryz.underlying70
  a77 := Tryz.isAgg70
  z77 := Tryz.sizeOf70
  v77 := Tryz.zeroValue70 }
end Go.Proofs
namespace Go.Abs
def b28 : AFn := ⟨0, 3, [(0, none)], (.seq (rg [oo 0 (.mov (.c (.lit (.pointer none))))]) (.seq (rg [oo 1 (.build [(.lit (.slice none 0 0))] []), oo 2 (.box (.t 1)), mv 0 2]) .ret))⟩
theorem fn28 : AA.fn 28 = some b28 := by kernel_rfl
theorem np28 : AA.prim 28 = none := rfl
def b227 : AFn := ⟨2, 8, [(4, none)], (.seq (rg [oo 4 (.mov (ci 0))]) (.seq (rg [mv 5 0, mv 6 1, cl 7 247 [(.t 5), (.t 6)], mv 4 7]) .ret))⟩
theorem fn227 : AA.fn 227 = some b227 := by kernel_rfl
theorem np227 : AA.prim 227 = none := rfl
def l202_0 : ACode := (.seq (.seq (rg [mv 57 8, mv 58 9, oo 59 (.bin .lss .other false (.t 57) (.t 58))]) (.cond (.t 59) .skip (.exit 1))) (.block 2 (.seq (.seq (rg [mv 60 0, mv 61 8, oo 62 (.ixs (.t 60) (.t 61)), mv 63 6, oo 64 (.bin .neq .other false (.t 62) (.t 63))]) (.cond (.t 64) (.seq (rg [mv 65 0, mv 66 8, oo 67 (.bin .add .other true (.t 66) (ci 1)), mv 68 9, oo 69 (.slct (.t 65) (some (.t 67)) (some (.t 68))), mv 70 6, cl 71 227 [(.t 69), (.t 70)], mv 11 71]) (.seq (.seq (rg [mv 72 11, oo 73 (.bin .lss .other true (.t 72) (ci 0))]) (.cond (.t 73) (.seq (rg [oo 4 (.mov (.c (.int .i64 (-1))))]) .ret) .skip)) (rg [mv 74 8, mv 75 11, oo 76 (.bin .add .other true (.t 75) (ci 1)), oo 77 (.bin .add .other false (.t 74) (.t 76)), mv 8 77]))) .skip)) (.seq (.seq (rg [mv 78 0, mv 79 8, oo 80 (.bin .add .other true (.t 79) (ci 1)), oo 81 (.ixs (.t 78) (.t 80)), mv 82 7, oo 83 (.bin .eql .other false (.t 81) (.t 82)), mv 84 83, og 85 (.mov (.t 0)) 84 true, og 86 (.mov (.t 8)) 84 true, og 87 (.mov (.t 8)) 84 true, og 88 (.mov (.t 5)) 84 true, og 89 (.bin .add .other false (.t 87) (.t 88)) 84 true, og 90 (.slct (.t 85) (some (.t 86)) (some (.t 89))) 84 true, og 91 (.mov (.t 1)) 84 true, og 92 (.bin .eql .other false (.t 90) (.t 91)) 84 true, oo 93 (.pick (.t 84) (.t 92) (.c (.bool false)))]) (.cond (.t 93) (.seq (rg [mv 94 8, mv 4 94]) .ret) .skip)) (.seq (rg [mv 95 8, oo 96 (.bin .add .other true (.t 95) (ci 1)), mv 8 96]) (.seq (rg [mv 97 10, oo 98 (.bin .add .other true (.t 97) (ci 1)), mv 10 98]) (.seq (rg [mv 99 5, ⟨(some 100), .bad, none⟩, oo 101 (.bin .leq .other false (.t 99) (.t 100)), mv 102 101, og 103 (.mov (.t 10)) 102 true, og 104 (.mov (.t 8)) 102 true, og 105 (.call (.c (.func (.func 195) [])) [(.t 104)]) 102 true, og 106 (.bin .gtr .other false (.t 103) (.t 105)) 102 true, oo 107 (.pick (.t 102) (.t 106) (.c (.bool false)))]) (.cond (.t 107) (.seq (rg [mv 108 0, mv 109 8, oo 110 (.slct (.t 108) (some (.t 109)) none), mv 111 1, cl 112 233 [(.t 110), (.t 111)], mv 12 112]) (.seq (.seq (rg [mv 113 12, oo 114 (.bin .geq .other true (.t 113) (ci 0))]) (.cond (.t 114) (.seq (rg [mv 115 12, mv 116 8, oo 117 (.bin .add .other false (.t 115) (.t 116)), mv 4 117]) .ret) .skip)) (.seq (rg [oo 4 (.mov (.c (.int .i64 (-1))))]) .ret))) (.seq (rg [mv 118 5, ⟨(some 119), .bad, none⟩, oo 120 (.bin .gtr .other false (.t 118) (.t 119)), mv 121 120, og 122 (.mov (.t 10)) 121 true, og 123 (.mov (.t 8)) 121 true, og 124 (.bin .shr .other true (.t 123) (.c (.int .u64 4))) 121 true, og 125 (.bin .add .other true (ci 4) (.t 124)) 121 true, og 126 (.bin .geq .other false (.t 122) (.t 125)) 121 true, oo 127 (.pick (.t 121) (.t 126) (.c (.bool false))), mv 128 127, og 129 (.mov (.t 8)) 128 true, og 130 (.mov (.t 9)) 128 true, og 131 (.bin .lss .other false (.t 129) (.t 130)) 128 true, oo 132 (.pick (.t 128) (.t 131) (.c (.bool false)))]) (.cond (.t 132) (.seq (rg [mv 133 0, mv 134 8, oo 135 (.slct (.t 133) (some (.t 134)) none), mv 136 1, cl 137 234 [(.t 135), (.t 136)], mv 13 137]) (.seq (.seq (rg [mv 138 13, oo 139 (.bin .lss .other true (.t 138) (ci 0))]) (.cond (.t 139) (.seq (rg [oo 4 (.mov (.c (.int .i64 (-1))))]) .ret) .skip)) (.seq (rg [mv 140 8, mv 141 13, oo 142 (.bin .add .other false (.t 140) (.t 141)), mv 4 142]) .ret))) .skip))))))))))
def r202_0 : ACode := (.seq (rg [oo 4 (.mov (.c (.int .i64 (-1))))]) .ret)
def b202 : AFn := ⟨2, 143, [(4, none)], (.seq (rg [oo 4 (.mov (ci 0))]) (.seq (rg [mv 14 1, oo 15 (.len 0 (.t 14)), mv 5 15]) (.seq (.block 0 (.seq (rg [mv 17 5, oo 18 (.bin .eql .other true (.t 17) (ci 0)), mv 19 18, og 20 (.mov (.t 1)) 19 false, og 21 (.mov (.t 0)) 19 false, og 22 (.bin .eql .other false (.t 20) (.t 21)) 19 false, oo 23 (.pick (.t 19) (.c (.bool true)) (.t 22)), mv 16 23]) (.cond (.t 16) (.seq (rg [oo 4 (.mov (ci 0))]) .ret) (.seq (rg [mv 25 5, oo 26 (.bin .eql .other true (.t 25) (ci 1)), mv 24 26]) (.cond (.t 24) (.seq (rg [mv 27 0, mv 28 1, oo 29 (.ixs (.t 28) (ci 0)), cl 30 227 [(.t 27), (.t 29)], mv 4 30]) .ret) (.seq (rg [mv 32 5, mv 33 0, oo 34 (.len 0 (.t 33)), oo 35 (.bin .geq .other false (.t 32) (.t 34)), mv 31 35]) (.cond (.t 31) (.seq (rg [oo 4 (.mov (.c (.int .i64 (-1))))]) .ret) (.seq (rg [mv 37 5, ⟨(some 38), .bad, none⟩, oo 39 (.bin .leq .other false (.t 37) (.t 38)), mv 40 39, og 41 (.mov (.t 0)) 40 true, og 42 (.len 0 (.t 41)) 40 true, og 43 (.bin .leq .other true (.t 42) (ci 64)) 40 true, oo 44 (.pick (.t 40) (.t 43) (.c (.bool false))), mv 36 44]) (.cond (.t 36) (.seq (rg [mv 45 0, mv 46 1, cl 47 233 [(.t 45), (.t 46)], mv 4 47]) .ret) .skip))))))))) (.seq (rg [mv 48 1, oo 49 (.ixs (.t 48) (ci 0)), mv 6 49]) (.seq (rg [mv 50 1, oo 51 (.ixs (.t 50) (ci 1)), mv 7 51]) (.seq (rg [oo 8 (.mov (ci 0))]) (.seq (rg [mv 52 0, oo 53 (.len 0 (.t 52)), mv 54 5, oo 55 (.bin .sub .other false (.t 53) (.t 54)), oo 56 (.bin .add .other true (.t 55) (ci 1)), mv 9 56]) (.seq (rg [oo 10 (.mov (ci 0))]) (.seq (.block 1 (.loop [0, 1, 4, 5, 6, 7, 8, 9, 10] l202_0)) r202_0)))))))))⟩
theorem fn202 : AA.fn 202 = some b202 := by kernel_rfl
theorem np202 : AA.prim 202 = none := rfl
def b237 : AFn := ⟨2, 8, [(4, none)], (.seq (rg [oo 4 (.mov (ci 0))]) (.seq (rg [mv 5 0, mv 6 1, cl 7 202 [(.t 5), (.t 6)], mv 4 7]) .ret))⟩
theorem fn237 : AA.fn 237 = some b237 := by kernel_rfl
theorem np237 : AA.prim 237 = none := rfl
def l246_0 : ACode := (.block 1 (.seq (rg [mv 20 0, mv 21 1, cl 22 237 [(.t 20), (.t 21)], mv 6 22]) (.seq (.seq (rg [mv 23 6, oo 24 (.bin .eql .other true (.t 23) (.c (.int .i64 (-1))))]) (.cond (.t 24) (.seq (rg [mv 25 5, mv 4 25]) .ret) .skip)) (.seq (rg [mv 26 5, oo 27 (.bin .add .other true (.t 26) (ci 1)), mv 5 27]) (rg [mv 28 0, mv 29 6, mv 30 1, oo 31 (.len 0 (.t 30)), oo 32 (.bin .add .other false (.t 29) (.t 31)), oo 33 (.slct (.t 28) (some (.t 32)) none), mv 0 33])))))
def b246 : AFn := ⟨2, 34, [(4, none)], (.seq (rg [oo 4 (.mov (ci 0))]) (.seq (.seq (rg [mv 7 1, oo 8 (.len 0 (.t 7)), oo 9 (.bin .eql .other true (.t 8) (ci 0))]) (.cond (.t 9) (.seq (rg [mv 10 0, cl 11 254 [(.t 10)], oo 12 (.bin .add .other true (.t 11) (ci 1)), mv 4 12]) .ret) .skip)) (.seq (.seq (rg [mv 13 1, oo 14 (.len 0 (.t 13)), oo 15 (.bin .eql .other true (.t 14) (ci 1))]) (.cond (.t 15) (.seq (rg [mv 16 0, mv 17 1, oo 18 (.ixs (.t 17) (ci 0)), cl 19 255 [(.t 16), (.t 18)], mv 4 19]) .ret) .skip)) (.seq (rg [oo 5 (.mov (ci 0))]) (.block 0 (.loop [0, 1, 4, 5] l246_0))))))⟩
theorem fn246 : AA.fn 246 = some b246 := by kernel_rfl
theorem np246 : AA.prim 246 = none := rfl
def l223_0 : ACode := (.seq (.seq (rg [mv 34 10, mv 35 3, oo 36 (.bin .lss .other false (.t 34) (.t 35))]) (.cond (.t 36) .skip (.exit 0))) (.block 1 (.seq (rg [mv 37 0, mv 38 1, cl 39 237 [(.t 37), (.t 38)], mv 11 39]) (.seq (.seq (rg [mv 40 11, oo 41 (.bin .lss .other true (.t 40) (ci 0))]) (.cond (.t 41) (.exit 0) .skip)) (.seq (rg [mv 42 9, mv 43 10, mv 44 0, mv 45 11, mv 46 2, oo 47 (.bin .add .other false (.t 45) (.t 46)), oo 48 (.slct (.t 44) none (some (.t 47))), oo 49 (.ixa 1 (.t 42) (.t 43)), ⟨none, (.st 1 (.t 49) (.t 48)), none⟩]) (.seq (rg [mv 50 0, mv 51 11, mv 52 1, oo 53 (.len 0 (.t 52)), oo 54 (.bin .add .other false (.t 51) (.t 53)), oo 55 (.slct (.t 50) (some (.t 54)) none), mv 0 55]) (rg [mv 56 10, oo 57 (.bin .add .other true (.t 56) (ci 1)), mv 10 57])))))))
def r223_0 : ACode := (.seq (rg [mv 58 9, mv 59 10, mv 60 0, oo 61 (.ixa 1 (.t 58) (.t 59)), ⟨none, (.st 1 (.t 61) (.t 60)), none⟩]) (.seq (rg [mv 62 9, mv 63 10, oo 64 (.bin .add .other true (.t 63) (ci 1)), oo 65 (.slc 1 (.t 62) none (some (.t 64)) none), mv 8 65]) .ret))
def b223 : AFn := ⟨4, 66, [(8, none)], (.seq (rg [oo 8 (.mov (.c (.lit (.slice none 0 0))))]) (.seq (.seq (rg [mv 12 3, oo 13 (.bin .eql .other true (.t 12) (ci 0))]) (.cond (.t 13) (.seq (rg [oo 8 (.mov (.c (.lit (.slice none 0 0))))]) .ret) .skip)) (.seq (.seq (rg [mv 14 1, oo 15 (.bin .eql .other true (.t 14) (.c (.str [])))]) (.cond (.t 15) (.seq (rg [mv 16 0, mv 17 3, cl 18 245 [(.t 16), (.t 17)], mv 8 18]) .ret) .skip)) (.seq (.seq (rg [mv 19 3, oo 20 (.bin .lss .other true (.t 19) (ci 0))]) (.cond (.t 20) (rg [mv 21 0, mv 22 1, cl 23 246 [(.t 21), (.t 22)], oo 24 (.bin .add .other true (.t 23) (ci 1)), mv 3 24]) .skip)) (.seq (rg [mv 25 3, mv 26 0, oo 27 (.len 0 (.t 26)), oo 28 (.bin .add .other true (.t 27) (ci 1)), oo 29 (.minmax false (.t 25) (.t 28)), mv 3 29]) (.seq (rg [mv 30 3, oo 31 (.mksl 16 1 [(.str [])] (.t 30) (.t 30)), mv 9 31]) (.seq (rg [mv 32 3, oo 33 (.bin .sub .other true (.t 32) (ci 1)), mv 3 33]) (.seq (rg [oo 10 (.mov (ci 0))]) (.seq (.block 0 (.loop [0, 1, 2, 3, 8, 9, 10] l223_0)) r223_0)))))))))⟩
theorem fn223 : AA.fn 223 = some b223 := by kernel_rfl
theorem np223 : AA.prim 223 = none := rfl
def b187 : AFn := ⟨2, 8, [(4, none)], (.seq (rg [oo 4 (.mov (.c (.lit (.slice none 0 0))))]) (.seq (rg [mv 5 0, mv 6 1, cl 7 223 [(.t 5), (.t 6), (ci 0), (.c (.int .i64 (-1)))], mv 4 7]) .ret))⟩
theorem fn187 : AA.fn 187 = some b187 := by kernel_rfl
theorem np187 : AA.prim 187 = none := rfl
def l224_0 : ACode := (.seq (rg [oo 9 (.bin .lss .other false (.t 8) (.t 7))]) (.seq (.cond (.t 9) .skip (.exit 0)) (.seq (.block 1 (.seq (rg [mv 10 8, mv 5 10]) (.seq (rg [mv 11 1, mv 12 0, mv 13 5, oo 14 (.ixa 1 (.t 12) (.t 13)), oo 15 (.ld 1 false (.t 14)), oo 16 (.call (.t 11) [(.t 15)])]) (.cond (.t 16) (.seq (rg [mv 17 5, mv 4 17]) .ret) .skip)))) (rg [oo 18 (.bin .add .other true (.t 8) (ci 1)), mv 8 18]))))
def r224_0 : ACode := (.seq (rg [oo 4 (.mov (.c (.int .i64 (-1))))]) .ret)
def b224 : AFn := ⟨2, 19, [(4, none)], (.seq (rg [oo 4 (.mov (ci 0))]) (.seq (.seq (rg [mv 6 0, oo 7 (.len 1 (.t 6)), oo 8 (.mov (ci 0))]) (.block 0 (.loop [0, 1, 4, 7, 8] l224_0))) r224_0))⟩
theorem fn224 : AA.fn 224 = some b224 := by kernel_rfl
theorem np224 : AA.prim 224 = none := rfl
def b188 : AFn := ⟨2, 9, [(4, none)], (.seq (rg [oo 4 (.mov (.c (.bool false)))]) (.seq (rg [mv 5 0, mv 6 1, cl 7 224 [(.t 5), (.t 6)], oo 8 (.bin .geq .other true (.t 7) (ci 0)), mv 4 8]) .ret))⟩
theorem fn188 : AA.fn 188 = some b188 := by kernel_rfl
theorem np188 : AA.prim 188 = none := rfl
def b192 : AFn := ⟨2, 8, [(4, none)], (.seq (rg [oo 4 (.mov (ci 0))]) (.seq (rg [mv 5 0, mv 6 1, cl 7 227 [(.t 5), (.t 6)], mv 4 7]) .ret))⟩
theorem fn192 : AA.fn 192 = some b192 := by kernel_rfl
theorem np192 : AA.prim 192 = none := rfl
def b151 : AFn := ⟨2, 22, [(4, none)], (.seq (rg [oo 4 (.mov (.c (.bool false)))]) (.seq (rg [mv 5 0, oo 6 (.bin .neq .other true (.t 5) (.c (.str []))), mv 7 6, og 8 (.mov (.t 0)) 7 true, og 9 (.len 0 (.t 8)) 7 true, og 10 (.mov (.t 1)) 7 true, og 11 (.bin .leq .other false (.t 9) (.t 10)) 7 true, oo 12 (.pick (.t 7) (.t 11) (.c (.bool false))), mv 13 12, og 14 (.mov (.t 0)) 13 true, og 15 (.call (.c (.func (.func 191) [])) [(.t 14)]) 13 true, oo 16 (.pick (.t 13) (.t 15) (.c (.bool false))), mv 17 16, og 18 (.mov (.t 0)) 17 true, og 19 (.call (.c (.func (.func 192) [])) [(.t 18), (.c (.int .u8 0))]) 17 true, og 20 (.bin .lss .other true (.t 19) (ci 0)) 17 true, oo 21 (.pick (.t 17) (.t 20) (.c (.bool false))), mv 4 21]) .ret))⟩
theorem fn151 : AA.fn 151 = some b151 := by kernel_rfl
theorem np151 : AA.prim 151 = none := rfl
def b225 : AFn := ⟨2, 9, [(4, none)], (.seq (rg [oo 4 (.mov (.c (.bool false)))]) (.seq (rg [mv 5 0, mv 6 1, cl 7 237 [(.t 5), (.t 6)], oo 8 (.bin .geq .other true (.t 7) (ci 0)), mv 4 8]) .ret))⟩
theorem fn225 : AA.fn 225 = some b225 := by kernel_rfl
theorem np225 : AA.prim 225 = none := rfl
def b190 : AFn := ⟨1, 18, [(2, none)], (.seq (rg [oo 2 (.mov (.c (.bool false)))]) (.seq (rg [mv 3 0, cl 4 151 [(.t 3), (ci 120)], mv 5 4, og 6 (.mov (.t 0)) 5 true, og 7 (.bin .neq .other true (.t 6) (.c (.str [46]))) 5 true, oo 8 (.pick (.t 5) (.t 7) (.c (.bool false))), mv 9 8, og 10 (.mov (.t 0)) 9 true, og 11 (.bin .neq .other true (.t 10) (.c (.str [46, 46]))) 9 true, oo 12 (.pick (.t 9) (.t 11) (.c (.bool false))), mv 13 12, og 14 (.mov (.t 0)) 13 true, og 15 (.call (.c (.func (.func 225) [])) [(.t 14), (.c (.str [47]))]) 13 true, og 16 (.un .not (.t 15)) 13 true, oo 17 (.pick (.t 13) (.t 16) (.c (.bool false))), mv 2 17]) .ret))⟩
theorem fn190 : AA.fn 190 = some b190 := by kernel_rfl
theorem np190 : AA.prim 190 = none := rfl
def b189 : AFn := ⟨1, 6, [(2, none)], (.seq (rg [oo 2 (.mov (.c (.bool false)))]) (.seq (rg [mv 3 0, cl 4 190 [(.t 3)], oo 5 (.un .not (.t 4)), mv 2 5]) .ret))⟩
theorem fn189 : AA.fn 189 = some b189 := by kernel_rfl
theorem np189 : AA.prim 189 = none := rfl
def b149 : AFn := ⟨1, 12, [(2, none)], (.seq (rg [oo 2 (.mov (.c (.lit (.slice none 0 0))))]) (.seq (.seq (rg [mv 4 0, oo 5 (.len 0 (.t 4)), oo 6 (.bin .gtr .other true (.t 5) (ci 400))]) (.cond (.t 6) (.seq (rg [oo 2 (.mov (.c (.lit (.slice none 0 0))))]) .ret) .skip)) (.seq (rg [mv 7 0, oo 8 (.call (.c (.func (.func 187) [])) [(.t 7), (.c (.str [47]))]), mv 3 8]) (.seq (.seq (rg [mv 9 3, oo 10 (.call (.c (.func (.func 188) [])) [(.t 9), (.c (.func (.func 189) []))])]) (.cond (.t 10) (.seq (rg [oo 2 (.mov (.c (.lit (.slice none 0 0))))]) .ret) .skip)) (.seq (rg [mv 11 3, mv 2 11]) .ret)))))⟩
theorem fn149 : AA.fn 149 = some b149 := by kernel_rfl
theorem np149 : AA.prim 149 = none := rfl
def b112 : AFn := ⟨1, 7, [(2, none)], (.seq (rg [oo 2 (.mov (.c (.bool false)))]) (.seq (rg [mv 3 0, cl 4 149 [(.t 3)], oo 5 (.len 1 (.t 4)), oo 6 (.bin .gtr .other true (.t 5) (ci 0)), mv 2 6]) .ret))⟩
theorem fn112 : AA.fn 112 = some b112 := by kernel_rfl
theorem np112 : AA.prim 112 = none := rfl
def l164_0 : ACode := (.seq (.seq (rg [mv 9 5, oo 10 (.bin .geq .other true (.t 9) (ci 0))]) (.cond (.t 10) .skip (.exit 0))) (.seq (.block 1 (.seq (rg [mv 13 0, mv 14 5, oo 15 (.ixs (.t 13) (.t 14)), mv 16 1, oo 17 (.bin .eql .other false (.t 15) (.t 16))]) (.cond (.t 17) (.seq (rg [mv 18 5, mv 4 18]) .ret) .skip))) (rg [mv 11 5, oo 12 (.bin .sub .other true (.t 11) (ci 1)), mv 5 12])))
def r164_0 : ACode := (.seq (rg [oo 4 (.mov (.c (.int .i64 (-1))))]) .ret)
def b164 : AFn := ⟨2, 19, [(4, none)], (.seq (rg [oo 4 (.mov (ci 0))]) (.seq (.seq (rg [mv 6 0, oo 7 (.len 0 (.t 6)), oo 8 (.bin .sub .other true (.t 7) (ci 1)), mv 5 8]) (.block 0 (.loop [0, 1, 4, 5] l164_0))) r164_0))⟩
theorem fn164 : AA.fn 164 = some b164 := by kernel_rfl
theorem np164 : AA.prim 164 = none := rfl
def b129 : AFn := ⟨2, 8, [(4, none)], (.seq (rg [oo 4 (.mov (ci 0))]) (.seq (rg [mv 5 0, mv 6 1, cl 7 164 [(.t 5), (.t 6)], mv 4 7]) .ret))⟩
theorem fn129 : AA.fn 129 = some b129 := by kernel_rfl
theorem np129 : AA.prim 129 = none := rfl
def b84 : AFn := ⟨1, 17, [(2, none), (3, none)], (.seq (rg [oo 2 (.mov (.c (.str []))), oo 3 (.mov (.c (.bool false)))]) (.seq (rg [mv 5 0, cl 6 129 [(.t 5), (.c (.int .u8 47))], mv 4 6]) (.seq (.seq (rg [mv 7 4, oo 8 (.bin .lss .other true (.t 7) (ci 0)), mv 9 8, og 10 (.mov (.t 0)) 9 false, og 11 (.call (.c (.func (.func 112) [])) [(.t 10)]) 9 false, og 12 (.un .not (.t 11)) 9 false, oo 13 (.pick (.t 9) (.c (.bool true)) (.t 12))]) (.cond (.t 13) (.seq (rg [oo 2 (.mov (.c (.str []))), oo 3 (.mov (.c (.bool false)))]) .ret) .skip)) (.seq (rg [mv 14 0, mv 15 4, oo 16 (.slct (.t 14) none (some (.t 15))), mv 2 16, oo 3 (.mov (.c (.bool true)))]) .ret))))⟩
theorem fn84 : AA.fn 84 = some b84 := by kernel_rfl
theorem np84 : AA.prim 84 = none := rfl
def b155 : AFn := ⟨2, 23, [(4, none), (5, none), (6, none)], (.seq (rg [oo 4 (.mov (.c (.str []))), oo 5 (.mov (.c (.str []))), oo 6 (.mov (.c (.bool false)))]) (.seq (.seq (rg [mv 8 0, mv 9 1, cl 10 202 [(.t 8), (.t 9)], mv 7 10]) (.seq (rg [mv 11 7, oo 12 (.bin .geq .other true (.t 11) (ci 0))]) (.cond (.t 12) (.seq (.reg true [] [mv 13 0, mv 14 7, oo 15 (.slct (.t 13) none (some (.t 14))), mv 16 0, mv 17 7, mv 18 1, oo 19 (.len 0 (.t 18)), oo 20 (.bin .add .other false (.t 17) (.t 19)), oo 21 (.slct (.t 16) (some (.t 20)) none), mv 4 15, mv 5 21, oo 6 (.mov (.c (.bool true)))]) .ret) .skip))) (.seq (rg [mv 22 0, mv 4 22, oo 5 (.mov (.c (.str []))), oo 6 (.mov (.c (.bool false)))]) .ret)))⟩
theorem fn155 : AA.fn 155 = some b155 := by kernel_rfl
theorem np155 : AA.prim 155 = none := rfl
def b119 : AFn := ⟨2, 13, [(4, none), (5, none), (6, none)], (.seq (rg [oo 4 (.mov (.c (.str []))), oo 5 (.mov (.c (.str []))), oo 6 (.mov (.c (.bool false)))]) (.seq (rg [mv 7 0, mv 8 1, cl 9 155 [(.t 7), (.t 8)], oo 10 (.ext (.t 9) 0), oo 11 (.ext (.t 9) 1), oo 12 (.ext (.t 9) 2), mv 4 10, mv 5 11, mv 6 12]) .ret))⟩
theorem fn119 : AA.fn 119 = some b119 := by kernel_rfl
theorem np119 : AA.prim 119 = none := rfl
def b175 : AFn := ⟨2, 8, [(4, none)], (.seq (rg [oo 4 (.mov (ci 0))]) (.seq (rg [mv 5 0, mv 6 1, cl 7 211 [(.t 5), (.t 6)], mv 4 7]) .ret))⟩
theorem fn175 : AA.fn 175 = some b175 := by kernel_rfl
theorem np175 : AA.prim 175 = none := rfl
def b132 : AFn := ⟨2, 8, [(4, none)], (.seq (rg [oo 4 (.mov (ci 0))]) (.seq (rg [mv 5 0, mv 6 1, cl 7 175 [(.t 5), (.t 6)], mv 4 7]) .ret))⟩
theorem fn132 : AA.fn 132 = some b132 := by kernel_rfl
theorem np132 : AA.prim 132 = none := rfl
def l87_0 : ACode := (.block 1 (.seq (rg [mv 13 0, oo 14 (.call (.c (.func (.func 119) [])) [(.t 13), (.c (.str [47]))]), mv 12 14, oo 15 (.ext (.t 12) 0), oo 16 (.ext (.t 12) 1), oo 17 (.ext (.t 12) 2), mv 5 15, mv 6 16, mv 7 17]) (.seq (rg [mv 19 1, oo 20 (.call (.c (.func (.func 119) [])) [(.t 19), (.c (.str [47]))]), mv 18 20, oo 21 (.ext (.t 18) 0), oo 22 (.ext (.t 18) 1), oo 23 (.ext (.t 18) 2), mv 8 21, mv 9 22, mv 10 23]) (.seq (.seq (rg [mv 24 5, mv 25 8, cl 26 132 [(.t 24), (.t 25)], mv 11 26]) (.block 2 (.seq (rg [mv 28 11, oo 29 (.bin .neq .other true (.t 28) (ci 0)), mv 27 29]) (.cond (.t 27) (.seq (rg [mv 30 11, mv 4 30]) .ret) (.seq (rg [mv 32 7, oo 33 (.un .not (.t 32)), mv 34 33, og 35 (.mov (.t 10)) 34 true, og 36 (.un .not (.t 35)) 34 true, oo 37 (.pick (.t 34) (.t 36) (.c (.bool false))), mv 31 37]) (.cond (.t 31) (.seq (rg [oo 4 (.mov (ci 0))]) .ret) (.seq (rg [mv 39 7, oo 40 (.un .not (.t 39)), mv 38 40]) (.cond (.t 38) (.seq (rg [oo 4 (.mov (.c (.int .i64 (-1))))]) .ret) (.seq (rg [mv 42 10, oo 43 (.un .not (.t 42)), mv 41 43]) (.cond (.t 41) (.seq (rg [oo 4 (.mov (ci 1))]) .ret) .skip)))))))))) (rg [mv 44 6, mv 45 9, mv 0 44, mv 1 45])))))
def b87 : AFn := ⟨2, 46, [(4, none)], (.seq (rg [oo 4 (.mov (ci 0))]) (.block 0 (.loop [0, 1, 4] l87_0)))⟩
theorem fn87 : AA.fn 87 = some b87 := by kernel_rfl
theorem np87 : AA.prim 87 = none := rfl
def b150 : AFn := ⟨2, 12, [(4, none)], (.seq (rg [oo 4 (.mov (.c (.bool false)))]) (.seq (rg [mv 5 0, mv 6 1, oo 7 (.bin .geq .other false (.t 5) (.t 6)), mv 8 7, og 9 (.mov (.t 0)) 8 true, og 10 (.bin .leq .other true (.t 9) (ci 1099511627776)) 8 true, oo 11 (.pick (.t 8) (.t 10) (.c (.bool false))), mv 4 11]) .ret))⟩
theorem fn150 : AA.fn 150 = some b150 := by kernel_rfl
theorem np150 : AA.prim 150 = none := rfl
def b113 : AFn := ⟨1, 99, [(2, none)], (.seq (rg [oo 1 (.box (.t 0)), oo 2 (.mov (.c (.bool false)))]) (.seq (rg [oo 3 (.mov (.c (.func (.func 150) [])))]) (.seq (.seq (rg [oo 4 (.fa 2 (.t 1)), oo 5 (.ld 1 false (.t 4)), oo 6 (.bin .lss .other true (.t 5) (ci 0)), mv 7 6, og 8 (.fa 2 (.t 1)) 7 false, og 9 (.ld 1 false (.t 8)) 7 false, og 10 (.bin .gtr .other true (.t 9) (ci 4095)) 7 false, oo 11 (.pick (.t 7) (.c (.bool true)) (.t 10)), mv 12 11, og 13 (.mov (.t 3)) 12 false, og 14 (.fa 3 (.t 1)) 12 false, og 15 (.ld 1 false (.t 14)) 12 false, og 16 (.call (.t 13) [(.t 15), (ci 0)]) 12 false, og 17 (.un .not (.t 16)) 12 false, oo 18 (.pick (.t 12) (.c (.bool true)) (.t 17)), mv 19 18, og 20 (.mov (.t 3)) 19 false, og 21 (.fa 4 (.t 1)) 19 false, og 22 (.ld 1 false (.t 21)) 19 false, og 23 (.call (.t 20) [(.t 22), (ci 0)]) 19 false, og 24 (.un .not (.t 23)) 19 false, oo 25 (.pick (.t 19) (.c (.bool true)) (.t 24)), mv 26 25, og 27 (.mov (.t 3)) 26 false, og 28 (.fa 5 (.t 1)) 26 false, og 29 (.ld 1 false (.t 28)) 26 false, og 30 (.call (.t 27) [(.t 29), (.c (.int .i64 (-1099511627776)))]) 26 false, og 31 (.un .not (.t 30)) 26 false, oo 32 (.pick (.t 26) (.c (.bool true)) (.t 31))]) (.cond (.t 32) (.seq (rg [oo 2 (.mov (.c (.bool false)))]) .ret) .skip)) (.seq (.seq (rg [oo 33 (.fa 1 (.t 1)), oo 34 (.ld 1 false (.t 33))]) (.block 0 (.seq (rg [oo 36 (.bin .eql .other true (.t 34) (ci 1)), mv 35 36]) (.cond (.t 35) (.seq (rg [oo 37 (.fa 6 (.t 1)), oo 38 (.ld 1 false (.t 37)), oo 39 (.bin .eql .other true (.t 38) (.c (.str []))), mv 40 39, og 41 (.fa 7 (.t 1)) 40 true, og 42 (.ld 1 false (.t 41)) 40 true, og 43 (.len 1 (.t 42)) 40 true, og 44 (.bin .eql .other true (.t 43) (ci 0)) 40 true, oo 45 (.pick (.t 40) (.t 44) (.c (.bool false))), mv 2 45]) .ret) (.seq (rg [oo 47 (.bin .eql .other true (.t 34) (ci 2)), mv 46 47]) (.cond (.t 46) (.seq (rg [oo 48 (.fa 6 (.t 1)), oo 49 (.ld 1 false (.t 48)), oo 50 (.bin .eql .other true (.t 49) (.c (.str []))), mv 51 50, og 52 (.fa 7 (.t 1)) 51 true, og 53 (.ld 1 false (.t 52)) 51 true, og 54 (.len 1 (.t 53)) 51 true, og 55 (.bin .leq .other true (.t 54) (ci 65536)) 51 true, oo 56 (.pick (.t 51) (.t 55) (.c (.bool false))), mv 2 56]) .ret) (.seq (rg [oo 58 (.bin .eql .other true (.t 34) (ci 3)), mv 57 58]) (.cond (.t 57) (.seq (rg [oo 59 (.fa 6 (.t 1)), oo 60 (.ld 1 false (.t 59)), cl 61 151 [(.t 60), (ci 400)], mv 62 61, og 63 (.fa 7 (.t 1)) 62 true, og 64 (.ld 1 false (.t 63)) 62 true, og 65 (.len 1 (.t 64)) 62 true, og 66 (.bin .eql .other true (.t 65) (ci 0)) 62 true, oo 67 (.pick (.t 62) (.t 66) (.c (.bool false))), mv 2 67]) .ret) (.seq (rg [oo 69 (.bin .eql .other true (.t 34) (ci 4)), mv 68 69]) (.cond (.t 68) (.seq (rg [oo 70 (.fa 6 (.t 1)), oo 71 (.ld 1 false (.t 70)), cl 72 112 [(.t 71)], mv 73 72, og 74 (.fa 7 (.t 1)) 73 true, og 75 (.ld 1 false (.t 74)) 73 true, og 76 (.len 1 (.t 75)) 73 true, og 77 (.bin .eql .other true (.t 76) (ci 0)) 73 true, oo 78 (.pick (.t 73) (.t 77) (.c (.bool false))), mv 79 78, og 80 (.fa 2 (.t 1)) 79 true, og 81 (.ld 1 false (.t 80)) 79 true, og 82 (.bin .eql .other true (.t 81) (ci 0)) 79 true, oo 83 (.pick (.t 79) (.t 82) (.c (.bool false))), mv 84 83, og 85 (.fa 3 (.t 1)) 84 true, og 86 (.ld 1 false (.t 85)) 84 true, og 87 (.bin .eql .other true (.t 86) (ci 0)) 84 true, oo 88 (.pick (.t 84) (.t 87) (.c (.bool false))), mv 89 88, og 90 (.fa 4 (.t 1)) 89 true, og 91 (.ld 1 false (.t 90)) 89 true, og 92 (.bin .eql .other true (.t 91) (ci 0)) 89 true, oo 93 (.pick (.t 89) (.t 92) (.c (.bool false))), mv 94 93, og 95 (.fa 5 (.t 1)) 94 true, og 96 (.ld 1 false (.t 95)) 94 true, og 97 (.bin .eql .other true (.t 96) (ci 0)) 94 true, oo 98 (.pick (.t 94) (.t 97) (.c (.bool false))), mv 2 98]) .ret) .skip)))))))))) (.seq (rg [oo 2 (.mov (.c (.bool false)))]) .ret)))))⟩
theorem fn113 : AA.fn 113 = some b113 := by kernel_rfl
theorem np113 : AA.prim 113 = none := rfl
def b67 : AFn := ⟨2, 94, [(4, none)], (.seq (rg [oo 3 (.box (.t 1)), oo 4 (.mov (.c (.lit .nilIface)))]) (.seq (.seq (rg [oo 7 (.fa 0 (.t 3)), oo 8 (.ld 1 false (.t 7)), cl 9 112 [(.t 8)], oo 10 (.un .not (.t 9))]) (.cond (.t 10) (.seq (rg [oo 11 (.mkif 58 (ci 12)), mv 4 11]) .ret) .skip)) (.seq (.seq (.reg true [(14, 15), (11, 16), (12, 16), (13, 16), (14, 16)] [oo 12 (.ld 8 true (.t 3)), cl 13 113 [(.t 12)], oo 14 (.un .not (.t 13)), mv 15 14, og 16 (.mov (.t 0)) 15 false, og 17 (.nilck (.t 16)) 15 false, og 18 (.fa 0 (.t 17)) 15 false, og 19 (.ld 1 false (.t 18)) 15 false, og 20 (.len 2 (.t 19)) 15 false, og 21 (.bin .gtr .other true (.t 20) (ci 0)) 15 false, og 22 (.mov (.t 21)) 15 false, og 23 (.mov (.t 0)) 22 true, og 24 (.nilck (.t 23)) 22 true, og 25 (.fa 1 (.t 24)) 22 true, og 26 (.ld 1 false (.t 25)) 22 true, og 27 (.fa 0 (.t 3)) 22 true, og 28 (.ld 1 false (.t 27)) 22 true, og 29 (.call (.c (.func (.func 87) [])) [(.t 26), (.t 28)]) 22 true, og 30 (.bin .geq .other true (.t 29) (ci 0)) 22 true, og 31 (.pick (.t 22) (.t 30) (.c (.bool false))) 15 false, oo 32 (.pick (.t 15) (.c (.bool true)) (.t 31))]) (.cond (.t 32) (.seq (rg [oo 33 (.mkif 58 (ci 13)), mv 4 33]) .ret) .skip)) (.seq (.seq (rg [oo 35 (.fa 0 (.t 3)), oo 36 (.ld 1 false (.t 35)), cl 37 84 [(.t 36)], mv 34 37, oo 38 (.ext (.t 34) 0), oo 39 (.ext (.t 34) 1), mv 5 38, mv 6 39]) (.seq (rg [mv 40 6, mv 41 40, og 42 (.mov (.t 0)) 41 true, og 43 (.nilck (.t 42)) 41 true, og 44 (.fa 0 (.t 43)) 41 true, og 45 (.ld 1 false (.t 44)) 41 true, og 46 (.mov (.t 5)) 41 true, og 47 (.look 0 (.int .i64 0) (.t 45) (.t 46) false) 41 true, og 48 (.bin .neq .other true (.t 47) (ci 1)) 41 true, oo 49 (.pick (.t 41) (.t 48) (.c (.bool false)))]) (.cond (.t 49) (.seq (rg [oo 50 (.mkif 58 (ci 13)), mv 4 50]) .ret) .skip))) (.seq (.seq (.reg true [(7, 8), (4, 9), (5, 9), (6, 9), (7, 9)] [oo 51 (.fa 1 (.t 3)), oo 52 (.ld 1 false (.t 51)), oo 53 (.bin .eql .other true (.t 52) (ci 4)), mv 54 53, og 55 (.mov (.t 0)) 54 true, og 56 (.nilck (.t 55)) 54 true, og 57 (.fa 0 (.t 56)) 54 true, og 58 (.ld 1 false (.t 57)) 54 true, og 59 (.fa 6 (.t 3)) 54 true, og 60 (.ld 1 false (.t 59)) 54 true, og 61 (.look 0 (.int .i64 0) (.t 58) (.t 60) false) 54 true, og 62 (.bin .neq .other true (.t 61) (ci 2)) 54 true, oo 63 (.pick (.t 54) (.t 62) (.c (.bool false)))]) (.cond (.t 63) (.seq (rg [oo 64 (.mkif 58 (ci 13)), mv 4 64]) .ret) .skip)) (.seq (.seq (.reg true [(3, 4), (0, 5), (1, 5), (2, 5), (3, 5), (3, 6)] [mv 65 0, oo 66 (.nilck (.t 65)), oo 67 (.fa 2 (.t 66)), oo 68 (.ld 1 false (.t 67)), oo 69 (.fa 7 (.t 3)), oo 70 (.ld 1 false (.t 69)), oo 71 (.len 1 (.t 70)), oo 72 (.bin .add .other false (.t 68) (.t 71)), oo 73 (.nilck (.t 65)), oo 74 (.fa 2 (.t 73)), ⟨none, (.st 1 (.t 74) (.t 72)), none⟩]) (.seq (rg [mv 75 0, oo 76 (.nilck (.t 75)), oo 77 (.fa 2 (.t 76)), oo 78 (.ld 1 false (.t 77)), oo 79 (.bin .gtr .other true (.t 78) (ci 1048576))]) (.cond (.t 79) (.seq (rg [oo 80 (.mkif 58 (ci 18)), mv 4 80]) .ret) .skip))) (.seq (.reg true [(3, 4), (0, 5), (1, 5), (2, 5), (3, 5), (3, 6), (5, 6), (0, 7), (1, 7), (2, 7), (3, 7), (4, 7), (5, 7)] [mv 81 0, oo 82 (.nilck (.t 81)), oo 83 (.fa 0 (.t 82)), oo 84 (.ld 1 false (.t 83)), oo 85 (.fa 0 (.t 3)), oo 86 (.ld 1 false (.t 85)), oo 87 (.fa 1 (.t 3)), oo 88 (.ld 1 false (.t 87)), ⟨none, (.mupd 0 (.t 84) (.t 86) (.t 88)), none⟩]) (.seq (rg [mv 89 0, oo 90 (.fa 0 (.t 3)), oo 91 (.ld 1 false (.t 90)), oo 92 (.nilck (.t 89)), oo 93 (.fa 1 (.t 92)), ⟨none, (.st 1 (.t 93) (.t 91)), none⟩]) (.seq (rg [oo 4 (.mov (.c (.lit .nilIface)))]) .ret)))))))))⟩
theorem fn67 : AA.fn 67 = some b67 := by kernel_rfl
theorem np67 : AA.prim 67 = none := rfl
def l31_0 : ACode := (.seq (rg [oo 20 (.bin .lss .other false (.t 19) (.t 18))]) (.seq (.cond (.t 20) .skip (.exit 0)) (.seq (.block 1 (.seq (rg [mv 21 19, oo 22 (.ixa 8 (.t 17) (.t 19)), oo 23 (.ld 8 true (.t 22)), oo 6 (.alloc [(.str []), (.int .i64 0), (.int .i64 0), (.int .i64 0), (.int .i64 0), (.int .i64 0), (.str []), (.lit (.slice none 0 0))]), mv 5 21, ⟨none, (.st 8 (.t 6) (.t 23)), none⟩]) (.seq (rg [mv 24 4, oo 25 (.ld 8 true (.t 6)), cl 26 67 [(.t 24), (.t 25)], mv 7 26]) (.seq (rg [mv 27 7, oo 28 (.bin .neq (.iface [58]) true (.t 27) (.c (.lit .nilIface)))]) (.cond (.t 28) (.seq (rg [mv 29 5, mv 30 7, mv 2 29, mv 3 30]) .ret) .skip))))) (rg [oo 31 (.bin .add .other true (.t 19) (ci 1)), mv 19 31]))))
def r31_0 : ACode := (.seq (rg [oo 2 (.mov (.c (.int .i64 (-1)))), oo 3 (.mov (.c (.lit .nilIface)))]) .ret)
def b31 : AFn := ⟨1, 32, [(2, none), (3, none)], (.seq (rg [oo 2 (.mov (ci 0)), oo 3 (.mov (.c (.lit .nilIface)))]) (.seq (.seq (rg [mv 8 0, oo 9 (.len 1 (.t 8)), oo 10 (.bin .gtr .other true (.t 9) (ci 200))]) (.cond (.t 10) (.seq (rg [mv 11 0, oo 12 (.len 1 (.t 11)), oo 13 (.mkif 58 (ci 19)), mv 2 12, mv 3 13]) .ret) .skip)) (.seq (rg [⟨(some 14), .mkmap, none⟩, oo 15 (.build [(.lit (.map none)), (.str []), (.int .i64 0)] [(0, (1, (.t 14)))]), oo 16 (.box (.t 15)), mv 4 16]) (.seq (.seq (rg [mv 17 0, oo 18 (.len 1 (.t 17)), oo 19 (.mov (ci 0))]) (.block 0 (.loop [2, 3, 4, 17, 18, 19] l31_0))) r31_0))))⟩
theorem fn31 : AA.fn 31 = some b31 := by kernel_rfl
theorem np31 : AA.prim 31 = none := rfl
def b64 : AFn := ⟨1, 9, [(2, none)], (.seq (rg [oo 2 (.mov (.c (.lit (.slice none 0 0))))]) (.seq (rg [mv 3 0, mv 4 0, oo 5 (.len 1 (.t 4)), mv 6 0, oo 7 (.len 1 (.t 6)), oo 8 (.slc 8 (.t 3) none (some (.t 5)) (some (.t 7))), mv 2 8]) .ret))⟩
theorem fn64 : AA.fn 64 = some b64 := by kernel_rfl
theorem np64 : AA.prim 64 = none := rfl
def b101 : AFn := ⟨1, 8, [(2, none)], (.seq (rg [oo 2 (.mov (.c (.lit (.slice none 0 0))))]) (.seq (.seq (rg [mv 3 0, oo 4 (.bin .eql .slice true (.t 3) (.c (.lit (.slice none 0 0))))]) (.cond (.t 4) (.seq (rg [oo 2 (.mov (.c (.lit (.slice none 0 0))))]) .ret) .skip)) (.seq (rg [oo 5 (.bslice 1 0 [(.int .u8 0)] []), mv 6 0, oo 7 (.app 1 1 (.t 5) (.t 6)), mv 2 7]) .ret)))⟩
theorem fn101 : AA.fn 101 = some b101 := by kernel_rfl
theorem np101 : AA.prim 101 = none := rfl
def b108 : AFn := ⟨1, 8, [(2, (some (8, true)))], (.seq (rg [oo 1 (.box (.t 0)), oo 2 (.alloc [(.str []), (.int .i64 0), (.int .i64 0), (.int .i64 0), (.int .i64 0), (.int .i64 0), (.str []), (.lit (.slice none 0 0))])]) (.seq (rg [oo 3 (.fa 7 (.t 1)), oo 4 (.ld 1 false (.t 3)), cl 5 101 [(.t 4)], oo 6 (.fa 7 (.t 1)), ⟨none, (.st 1 (.t 6) (.t 5)), none⟩]) (.seq (rg [oo 7 (.ld 8 true (.t 1)), ⟨none, (.st 8 (.t 2) (.t 7)), none⟩]) .ret)))⟩
theorem fn108 : AA.fn 108 = some b108 := by kernel_rfl
theorem np108 : AA.prim 108 = none := rfl
def l65_0 : ACode := (.seq (rg [oo 9 (.bin .lss .other false (.t 8) (.t 7))]) (.seq (.cond (.t 9) .skip (.exit 0)) (.seq (.block 1 (.seq (rg [oo 10 (.ixa 8 (.t 6) (.t 8)), oo 11 (.ld 8 true (.t 10)), oo 5 (.alloc [(.str []), (.int .i64 0), (.int .i64 0), (.int .i64 0), (.int .i64 0), (.int .i64 0), (.str []), (.lit (.slice none 0 0))]), ⟨none, (.st 8 (.t 5) (.t 11)), none⟩]) (rg [mv 12 3, oo 13 (.ld 8 true (.t 5)), cl 14 108 [(.t 13)], oo 15 (.bslice 8 1 [(.str []), (.int .i64 0), (.int .i64 0), (.int .i64 0), (.int .i64 0), (.int .i64 0), (.str []), (.lit (.slice none 0 0))] [(.t 14)]), oo 16 (.app 96 8 (.t 12) (.t 15)), mv 3 16]))) (rg [oo 17 (.bin .add .other true (.t 8) (ci 1)), mv 8 17]))))
def r65_0 : ACode := (.seq (rg [mv 18 3, mv 2 18]) .ret)
def b65 : AFn := ⟨1, 19, [(2, none)], (.seq (rg [oo 2 (.mov (.c (.lit (.slice none 0 0))))]) (.seq (rg [oo 3 (.mov (.c (.lit (.slice none 0 0))))]) (.seq (.seq (rg [mv 6 0, oo 7 (.len 1 (.t 6)), oo 8 (.mov (ci 0))]) (.block 0 (.loop [2, 3, 6, 7, 8] l65_0))) r65_0)))⟩
theorem fn65 : AA.fn 65 = some b65 := by kernel_rfl
theorem np65 : AA.prim 65 = none := rfl
def l161_0 : ACode := (.seq (rg [oo 11 (.next (.t 10)), oo 12 (.ext (.t 11) 0)]) (.seq (.cond (.t 12) .skip (.exit 0)) (.block 1 (.seq (rg [oo 13 (.ext (.t 11) 1), oo 14 (.ext (.t 11) 2), mv 7 13, mv 8 14]) (.seq (rg [mv 15 1, mv 16 8, oo 17 (.call (.t 15) [(.t 16)]), mv 18 2, oo 19 (.bin .eql .bool false (.t 17) (.t 18))]) (.cond (.t 19) (.seq (rg [mv 20 7, mv 6 20]) .ret) .skip))))))
def r161_0 : ACode := (.seq (rg [oo 6 (.mov (.c (.int .i64 (-1))))]) .ret)
def b161 : AFn := ⟨3, 21, [(6, none)], (.seq (rg [oo 6 (.mov (ci 0))]) (.seq (.seq (rg [mv 9 0, oo 10 (.range (.t 9))]) (.block 0 (.loop [1, 2, 6, 10] l161_0))) r161_0))⟩
theorem fn161 : AA.fn 161 = some b161 := by kernel_rfl
theorem np161 : AA.prim 161 = none := rfl
def b126 : AFn := ⟨2, 8, [(4, none)], (.seq (rg [oo 4 (.mov (ci 0))]) (.seq (rg [mv 5 0, mv 6 1, cl 7 161 [(.t 5), (.t 6), (.c (.bool true))], mv 4 7]) .ret))⟩
theorem fn126 : AA.fn 126 = some b126 := by kernel_rfl
theorem np126 : AA.prim 126 = none := rfl
def b127 : AFn := ⟨1, 9, [(2, none)], (.seq (rg [oo 2 (.mov (.c (.bool false)))]) (.seq (rg [mv 3 0, oo 4 (.bin .eql .other true (.t 3) (.c (.int .i32 0))), mv 5 4, og 6 (.mov (.t 0)) 5 false, og 7 (.bin .gtr .other true (.t 6) (.c (.int .i32 127))) 5 false, oo 8 (.pick (.t 5) (.c (.bool true)) (.t 7)), mv 2 8]) .ret))⟩
theorem fn127 : AA.fn 127 = some b127 := by kernel_rfl
theorem np127 : AA.prim 127 = none := rfl
def b82 : AFn := ⟨1, 6, [(2, none)], (.seq (rg [oo 2 (.mov (.c (.bool false)))]) (.seq (rg [mv 3 0, oo 4 (.call (.c (.func (.func 126) [])) [(.t 3), (.c (.func (.func 127) []))]), oo 5 (.bin .lss .other true (.t 4) (ci 0)), mv 2 5]) .ret))⟩
theorem fn82 : AA.fn 82 = some b82 := by kernel_rfl
theorem np82 : AA.prim 82 = none := rfl
def l81_0 : ACode := (.seq (rg [oo 20 (.bin .lss .other false (.t 19) (.t 18))]) (.seq (.cond (.t 20) .skip (.exit 0)) (.seq (.block 1 (.seq (rg [mv 21 19, mv 5 21]) (.seq (rg [mv 22 0, mv 23 5, oo 24 (.ixs (.t 22) (.t 23)), oo 25 (.bin .eql .other true (.t 24) (.c (.int .u8 47))), mv 26 25, og 27 (.mov (.t 5)) 26 true, og 28 (.bin .geq .other true (.t 27) (ci 1)) 26 true, oo 29 (.pick (.t 26) (.t 28) (.c (.bool false))), mv 30 29, og 31 (.mov (.t 5)) 30 true, og 32 (.bin .leq .other true (.t 31) (ci 155)) 30 true, oo 33 (.pick (.t 30) (.t 32) (.c (.bool false))), mv 34 33, og 35 (.mov (.t 0)) 34 true, og 36 (.len 0 (.t 35)) 34 true, og 37 (.mov (.t 5)) 34 true, og 38 (.bin .sub .other false (.t 36) (.t 37)) 34 true, og 39 (.bin .sub .other true (.t 38) (ci 1)) 34 true, og 40 (.bin .geq .other true (.t 39) (ci 1)) 34 true, oo 41 (.pick (.t 34) (.t 40) (.c (.bool false))), mv 42 41, og 43 (.mov (.t 0)) 42 true, og 44 (.len 0 (.t 43)) 42 true, og 45 (.mov (.t 5)) 42 true, og 46 (.bin .sub .other false (.t 44) (.t 45)) 42 true, og 47 (.bin .sub .other true (.t 46) (ci 1)) 42 true, og 48 (.bin .leq .other true (.t 47) (ci 100)) 42 true, oo 49 (.pick (.t 42) (.t 48) (.c (.bool false)))]) (.cond (.t 49) (.seq (.reg true [] [mv 50 0, mv 51 5, oo 52 (.slct (.t 50) none (some (.t 51))), mv 53 0, mv 54 5, oo 55 (.bin .add .other true (.t 54) (ci 1)), oo 56 (.slct (.t 53) (some (.t 55)) none), mv 2 52, mv 3 56, oo 4 (.mov (.c (.bool true)))]) .ret) .skip)))) (rg [oo 57 (.bin .add .other true (.t 19) (ci 1)), mv 19 57]))))
def r81_0 : ACode := (.seq (rg [oo 2 (.mov (.c (.str []))), oo 3 (.mov (.c (.str []))), oo 4 (.mov (.c (.bool false)))]) .ret)
def b81 : AFn := ⟨1, 58, [(2, none), (3, none), (4, none)], (.seq (rg [oo 2 (.mov (.c (.str []))), oo 3 (.mov (.c (.str []))), oo 4 (.mov (.c (.bool false)))]) (.seq (.seq (rg [mv 6 0, oo 7 (.bin .eql .other true (.t 6) (.c (.str []))), mv 8 7, og 9 (.mov (.t 0)) 8 false, og 10 (.call (.c (.func (.func 82) [])) [(.t 9)]) 8 false, og 11 (.un .not (.t 10)) 8 false, oo 12 (.pick (.t 8) (.c (.bool true)) (.t 11))]) (.cond (.t 12) (.seq (rg [oo 2 (.mov (.c (.str []))), oo 3 (.mov (.c (.str []))), oo 4 (.mov (.c (.bool false)))]) .ret) .skip)) (.seq (.seq (rg [mv 13 0, oo 14 (.len 0 (.t 13)), oo 15 (.bin .leq .other true (.t 14) (ci 100))]) (.cond (.t 15) (.seq (rg [mv 16 0, oo 2 (.mov (.c (.str []))), mv 3 16, oo 4 (.mov (.c (.bool true)))]) .ret) .skip)) (.seq (.seq (rg [mv 17 0, oo 18 (.len 0 (.t 17)), oo 19 (.mov (ci 0))]) (.block 0 (.loop [0, 2, 3, 4, 18, 19] l81_0))) r81_0))))⟩
theorem fn81 : AA.fn 81 = some b81 := by kernel_rfl
theorem np81 : AA.prim 81 = none := rfl
def b44 : AFn := ⟨1, 13, [(2, none)], (.seq (rg [oo 2 (.mov (.c (.bool false)))]) (.seq (rg [mv 7 0, cl 8 81 [(.t 7)], mv 6 8, oo 9 (.ext (.t 6) 0), oo 10 (.ext (.t 6) 1), oo 11 (.ext (.t 6) 2), mv 3 9, mv 4 10, mv 5 11]) (.seq (rg [mv 12 5, mv 2 12]) .ret)))⟩
theorem fn44 : AA.fn 44 = some b44 := by kernel_rfl
theorem np44 : AA.prim 44 = none := rfl
def b45 : AFn := ⟨1, 14, [(2, none)], (.seq (rg [oo 2 (.mov (.c (.bool false)))]) (.seq (rg [mv 3 0, oo 4 (.bin .neq .other true (.t 3) (.c (.str []))), mv 5 4, og 6 (.mov (.t 0)) 5 true, og 7 (.len 0 (.t 6)) 5 true, og 8 (.bin .leq .other true (.t 7) (ci 100)) 5 true, oo 9 (.pick (.t 5) (.t 8) (.c (.bool false))), mv 10 9, og 11 (.mov (.t 0)) 10 true, og 12 (.call (.c (.func (.func 82) [])) [(.t 11)]) 10 true, oo 13 (.pick (.t 10) (.t 12) (.c (.bool false))), mv 2 13]) .ret))⟩
theorem fn45 : AA.fn 45 = some b45 := by kernel_rfl
theorem np45 : AA.prim 45 = none := rfl
def b46 : AFn := ⟨1, 9, [(2, none)], (.seq (rg [oo 2 (.mov (.c (.bool false)))]) (.seq (rg [mv 3 0, oo 4 (.bin .geq .other true (.t 3) (ci 0)), mv 5 4, og 6 (.mov (.t 0)) 5 true, og 7 (.bin .lss .other true (.t 6) (ci 2097152)) 5 true, oo 8 (.pick (.t 5) (.t 7) (.c (.bool false))), mv 2 8]) .ret))⟩
theorem fn46 : AA.fn 46 = some b46 := by kernel_rfl
theorem np46 : AA.prim 46 = none := rfl
def b48 : AFn := ⟨1, 9, [(2, none)], (.seq (rg [oo 2 (.mov (.c (.bool false)))]) (.seq (rg [mv 3 0, oo 4 (.bin .geq .other true (.t 3) (ci 0)), mv 5 4, og 6 (.mov (.t 0)) 5 true, og 7 (.bin .lss .other true (.t 6) (ci 8589934592)) 5 true, oo 8 (.pick (.t 5) (.t 7) (.c (.bool false))), mv 2 8]) .ret))⟩
theorem fn48 : AA.fn 48 = some b48 := by kernel_rfl
theorem np48 : AA.prim 48 = none := rfl
def b55 : AFn := ⟨4, 15, [], (.seq (rg [mv 7 0, oo 8 (.un .not (.t 7))]) (.cond (.t 8) (rg [oo 9 (.ld 1 false (.t 3)), mv 10 1, mv 11 2, oo 12 (.build [(.str []), (.str [])] [(0, (1, (.t 10))), (1, (1, (.t 11)))]), oo 13 (.bslice 2 1 [(.str []), (.str [])] [(.t 12)]), oo 14 (.app 32 2 (.t 9) (.t 13)), ⟨none, (.st 1 (.t 3) (.t 14)), none⟩]) .skip))⟩
theorem fn55 : AA.fn 55 = some b55 := by kernel_rfl
theorem np55 : AA.prim 55 = none := rfl
def b56 : AFn := ⟨1, 5, [(2, none)], (.seq (rg [oo 2 (.mov (.c (.str [])))]) (.seq (rg [mv 3 0, cl 4 98 [(.t 3)], mv 2 4]) .ret))⟩
theorem fn56 : AA.fn 56 = some b56 := by kernel_rfl
theorem np56 : AA.prim 56 = none := rfl
def b21 : AFn := ⟨1, 50, [(2, none)], (.seq (rg [oo 1 (.box (.t 0)), oo 2 (.mov (.c (.lit (.slice none 0 0))))]) (.seq (rg [oo 3 (.alloc [(.lit (.slice none 0 0))])]) (.seq (rg [oo 5 (.mkfn (.func 55) [(.t 3)]), mv 4 5]) (.seq (.reg true [(0, 2), (0, 3), (2, 4), (3, 4), (0, 5), (1, 5), (2, 5), (3, 5), (0, 6)] [mv 6 4, oo 7 (.fa 4 (.t 1)), oo 8 (.ld 1 false (.t 7)), cl 9 46 [(.t 8)], oo 10 (.fa 4 (.t 1)), oo 11 (.ld 1 false (.t 10)), cl 12 56 [(.t 11)], oo 13 (.call (.t 6) [(.t 9), (.c (.str [103, 105, 100])), (.t 12)])]) (.seq (.reg true [(0, 2), (0, 6), (0, 7), (2, 9), (6, 9), (7, 9), (0, 10), (1, 10), (2, 10), (3, 10), (4, 10), (5, 10), (6, 10), (7, 10), (8, 10)] [mv 14 4, oo 15 (.fa 6 (.t 1)), oo 16 (.ld 1 false (.t 15)), oo 17 (.bin .eql .other true (.t 16) (.c (.str []))), mv 18 17, og 19 (.fa 6 (.t 1)) 18 false, og 20 (.ld 1 false (.t 19)) 18 false, og 21 (.call (.c (.func (.func 45) [])) [(.t 20)]) 18 false, oo 22 (.pick (.t 18) (.c (.bool true)) (.t 21)), oo 23 (.fa 6 (.t 1)), oo 24 (.ld 1 false (.t 23)), oo 25 (.call (.t 14) [(.t 22), (.c (.str [108, 105, 110, 107, 112, 97, 116, 104])), (.t 24)])]) (.seq (.reg true [(0, 2), (0, 3), (2, 4), (3, 4), (0, 5), (1, 5), (2, 5), (3, 5), (0, 6)] [mv 26 4, oo 27 (.fa 5 (.t 1)), oo 28 (.ld 1 false (.t 27)), cl 29 48 [(.t 28)], oo 30 (.fa 5 (.t 1)), oo 31 (.ld 1 false (.t 30)), cl 32 56 [(.t 31)], oo 33 (.call (.t 26) [(.t 29), (.c (.str [109, 116, 105, 109, 101])), (.t 32)])]) (.seq (.reg true [(0, 2), (0, 3), (2, 4), (3, 4), (0, 5), (1, 5), (2, 5), (3, 5)] [mv 34 4, oo 35 (.fa 0 (.t 1)), oo 36 (.ld 1 false (.t 35)), cl 37 44 [(.t 36)], oo 38 (.fa 0 (.t 1)), oo 39 (.ld 1 false (.t 38)), oo 40 (.call (.t 34) [(.t 37), (.c (.str [112, 97, 116, 104])), (.t 39)])]) (.seq (.reg true [(0, 2), (0, 3), (2, 4), (3, 4), (0, 5), (1, 5), (2, 5), (3, 5), (0, 6)] [mv 41 4, oo 42 (.fa 3 (.t 1)), oo 43 (.ld 1 false (.t 42)), cl 44 46 [(.t 43)], oo 45 (.fa 3 (.t 1)), oo 46 (.ld 1 false (.t 45)), cl 47 56 [(.t 46)], oo 48 (.call (.t 41) [(.t 44), (.c (.str [117, 105, 100])), (.t 47)])]) (.seq (rg [oo 49 (.ld 1 false (.t 3)), mv 2 49]) .ret)))))))))⟩
theorem fn21 : AA.fn 21 = some b21 := by kernel_rfl
theorem np21 : AA.prim 21 = none := rfl
def b115 : AFn := ⟨1, 60, [(2, none)], (.seq (rg [oo 1 (.box (.t 0)), oo 2 (.mov (.c (.bool false)))]) (.seq (.seq (rg [oo 3 (.fa 1 (.t 1)), oo 4 (.ld 1 false (.t 3)), cl 5 46 [(.t 4)], oo 6 (.un .not (.t 5)), mv 7 6, og 8 (.fa 2 (.t 1)) 7 false, og 9 (.ld 1 false (.t 8)) 7 false, og 10 (.call (.c (.func (.func 46) [])) [(.t 9)]) 7 false, og 11 (.un .not (.t 10)) 7 false, oo 12 (.pick (.t 7) (.c (.bool true)) (.t 11)), mv 13 12, og 14 (.fa 3 (.t 1)) 13 false, og 15 (.ld 1 false (.t 14)) 13 false, og 16 (.call (.c (.func (.func 46) [])) [(.t 15)]) 13 false, og 17 (.un .not (.t 16)) 13 false, oo 18 (.pick (.t 13) (.c (.bool true)) (.t 17)), mv 19 18, og 20 (.fa 4 (.t 1)) 19 false, og 21 (.ld 1 false (.t 20)) 19 false, og 22 (.call (.c (.func (.func 48) [])) [(.t 21)]) 19 false, og 23 (.un .not (.t 22)) 19 false, oo 24 (.pick (.t 19) (.c (.bool true)) (.t 23)), mv 25 24, og 26 (.fa 5 (.t 1)) 25 false, og 27 (.ld 1 false (.t 26)) 25 false, og 28 (.call (.c (.func (.func 48) [])) [(.t 27)]) 25 false, og 29 (.un .not (.t 28)) 25 false, oo 30 (.pick (.t 25) (.c (.bool true)) (.t 29))]) (.cond (.t 30) (.seq (rg [oo 2 (.mov (.c (.bool false)))]) .ret) .skip)) (.seq (.seq (rg [oo 31 (.fa 6 (.t 1)), oo 32 (.ld 1 false (.t 31))]) (.block 0 (.seq (.seq (rg [oo 34 (.bin .eql .other true (.t 32) (.c (.int .u8 49))), mv 33 34]) (.cond (.t 33) .skip (rg [oo 35 (.bin .eql .other true (.t 32) (.c (.int .u8 50))), mv 33 35]))) (.cond (.t 33) (.seq (rg [oo 36 (.fa 7 (.t 1)), oo 37 (.ld 1 false (.t 36)), cl 38 45 [(.t 37)], mv 39 38, og 40 (.fa 4 (.t 1)) 39 true, og 41 (.ld 1 false (.t 40)) 39 true, og 42 (.bin .eql .other true (.t 41) (ci 0)) 39 true, oo 43 (.pick (.t 39) (.t 42) (.c (.bool false))), mv 2 43]) .ret) (.seq (rg [oo 45 (.bin .eql .other true (.t 32) (.c (.int .u8 53))), mv 44 45]) (.cond (.t 44) (.seq (rg [oo 46 (.fa 7 (.t 1)), oo 47 (.ld 1 false (.t 46)), oo 48 (.bin .eql .other true (.t 47) (.c (.str []))), mv 49 48, og 50 (.fa 4 (.t 1)) 49 true, og 51 (.ld 1 false (.t 50)) 49 true, og 52 (.bin .eql .other true (.t 51) (ci 0)) 49 true, oo 53 (.pick (.t 49) (.t 52) (.c (.bool false))), mv 2 53]) .ret) (.seq (.seq (rg [oo 55 (.bin .eql .other true (.t 32) (.c (.int .u8 48))), mv 54 55]) (.cond (.t 54) .skip (rg [oo 56 (.bin .eql .other true (.t 32) (.c (.int .u8 120))), mv 54 56]))) (.cond (.t 54) (.seq (rg [oo 57 (.fa 7 (.t 1)), oo 58 (.ld 1 false (.t 57)), oo 59 (.bin .eql .other true (.t 58) (.c (.str []))), mv 2 59]) .ret) .skip)))))))) (.seq (rg [oo 2 (.mov (.c (.bool false)))]) .ret))))⟩
theorem fn115 : AA.fn 115 = some b115 := by kernel_rfl
theorem np115 : AA.prim 115 = none := rfl
def l116_0 : ACode := (.seq (.seq (rg [mv 11 8, oo 12 (.bin .geq .other true (.t 11) (ci 0))]) (.cond (.t 12) .skip (.exit 0))) (.seq (.block 1 (.seq (rg [mv 15 0, mv 16 1, mv 17 8, oo 18 (.bin .add .other false (.t 16) (.t 17)), mv 19 3, oo 20 (.bin .and .other true (.t 19) (ci 7)), oo 21 (.bin .add .other true (ci 48) (.t 20)), oo 22 (.cvi .u8 (.t 21)), oo 23 (.ixa 1 (.t 15) (.t 18)), ⟨none, (.st 1 (.t 23) (.t 22)), none⟩]) (rg [mv 24 3, oo 25 (.bin .shr .other true (.t 24) (.c (.int .u64 3))), mv 3 25]))) (rg [mv 13 8, oo 14 (.bin .sub .other true (.t 13) (ci 1)), mv 8 14])))
def b116 : AFn := ⟨4, 26, [], (.seq (rg [mv 9 2, oo 10 (.bin .sub .other true (.t 9) (ci 1)), mv 8 10]) (.block 0 (.loop [0, 1, 3, 8] l116_0)))⟩
theorem fn116 : AA.fn 116 = some b116 := by kernel_rfl
theorem np116 : AA.prim 116 = none := rfl
def l117_0 : ACode := (.seq (rg [oo 9 (.bin .lss .other false (.t 8) (.t 7))]) (.seq (.cond (.t 9) .skip (.exit 0)) (.seq (.block 1 (.seq (rg [mv 10 8, oo 11 (.ixa 1 (.t 6) (.t 8)), oo 12 (.ld 1 false (.t 11)), mv 4 10, mv 5 12]) (.seq (rg [mv 13 4, oo 14 (.bin .lss .other true (.t 13) (ci 148)), mv 15 14, og 16 (.mov (.t 4)) 15 false, og 17 (.bin .geq .other true (.t 16) (ci 156)) 15 false, oo 18 (.pick (.t 15) (.c (.bool true)) (.t 17))]) (.cond (.t 18) (rg [mv 19 3, mv 20 5, oo 21 (.cvi .i64 (.t 20)), oo 22 (.bin .add .other false (.t 19) (.t 21)), mv 3 22]) .skip)))) (rg [oo 23 (.bin .add .other true (.t 8) (ci 1)), mv 8 23]))))
def r117_0 : ACode := (.seq (rg [mv 24 3, mv 2 24]) .ret)
def b117 : AFn := ⟨1, 25, [(2, none)], (.seq (rg [oo 2 (.mov (ci 0))]) (.seq (rg [oo 3 (.mov (ci 256))]) (.seq (.seq (rg [mv 6 0, oo 7 (.len 1 (.t 6)), oo 8 (.mov (ci 0))]) (.block 0 (.loop [2, 3, 6, 7, 8] l117_0))) r117_0)))⟩
theorem fn117 : AA.fn 117 = some b117 := by kernel_rfl
theorem np117 : AA.prim 117 = none := rfl
def b70 : AFn := ⟨1, 74, [(2, none), (3, none)], (.seq (rg [oo 1 (.box (.t 0)), oo 2 (.mov (.c (.lit (.slice none 0 0)))), oo 3 (.mov (.c (.lit .nilIface)))]) (.seq (rg [oo 9 (.fa 0 (.t 1)), oo 10 (.ld 1 false (.t 9)), cl 11 81 [(.t 10)], mv 8 11, oo 12 (.ext (.t 8) 0), oo 13 (.ext (.t 8) 1), oo 14 (.ext (.t 8) 2), mv 4 12, mv 5 13, mv 6 14]) (.seq (.seq (rg [mv 15 6, oo 16 (.un .not (.t 15)), mv 17 16, og 18 (.ld 8 true (.t 1)) 17 false, og 19 (.call (.c (.func (.func 115) [])) [(.t 18)]) 17 false, og 20 (.un .not (.t 19)) 17 false, oo 21 (.pick (.t 17) (.c (.bool true)) (.t 20))]) (.cond (.t 21) (.seq (rg [oo 22 (.mkif 58 (ci 14)), oo 2 (.mov (.c (.lit (.slice none 0 0)))), mv 3 22]) .ret) .skip)) (.seq (rg [oo 23 (.mksl 1 1 [(.int .u8 0)] (ci 512) (ci 512)), mv 7 23]) (.seq (rg [mv 24 7, mv 25 5, oo 26 (.copy 1 (.t 24) (.t 25))]) (.seq (rg [mv 27 7, oo 28 (.fa 1 (.t 1)), oo 29 (.ld 1 false (.t 28)), cl 30 116 [(.t 27), (ci 100), (ci 7), (.t 29)]]) (.seq (rg [mv 31 7, oo 32 (.fa 2 (.t 1)), oo 33 (.ld 1 false (.t 32)), cl 34 116 [(.t 31), (ci 108), (ci 7), (.t 33)]]) (.seq (rg [mv 35 7, oo 36 (.fa 3 (.t 1)), oo 37 (.ld 1 false (.t 36)), cl 38 116 [(.t 35), (ci 116), (ci 7), (.t 37)]]) (.seq (rg [mv 39 7, oo 40 (.fa 4 (.t 1)), oo 41 (.ld 1 false (.t 40)), cl 42 116 [(.t 39), (ci 124), (ci 11), (.t 41)]]) (.seq (rg [mv 43 7, oo 44 (.fa 5 (.t 1)), oo 45 (.ld 1 false (.t 44)), cl 46 116 [(.t 43), (ci 136), (ci 11), (.t 45)]]) (.seq (rg [mv 47 7, oo 48 (.fa 6 (.t 1)), oo 49 (.ld 1 false (.t 48)), oo 50 (.ixa 1 (.t 47) (ci 156)), ⟨none, (.st 1 (.t 50) (.t 49)), none⟩]) (.seq (.reg true [(0, 3), (1, 3)] [mv 51 7, oo 52 (.slc 1 (.t 51) (some (ci 157)) none none), oo 53 (.fa 7 (.t 1)), oo 54 (.ld 1 false (.t 53)), oo 55 (.copy 1 (.t 52) (.t 54))]) (.seq (rg [mv 56 7, oo 57 (.slc 1 (.t 56) (some (ci 257)) none none), oo 58 (.copy 1 (.t 57) (.c (.str [117, 115, 116, 97, 114, 0, 48, 48])))]) (.seq (rg [mv 59 7, cl 60 116 [(.t 59), (ci 329), (ci 7), (ci 0)]]) (.seq (rg [mv 61 7, cl 62 116 [(.t 61), (ci 337), (ci 7), (ci 0)]]) (.seq (rg [mv 63 7, oo 64 (.slc 1 (.t 63) (some (ci 345)) none none), mv 65 4, oo 66 (.copy 1 (.t 64) (.t 65))]) (.seq (rg [mv 67 7, mv 68 7, cl 69 117 [(.t 68)], cl 70 116 [(.t 67), (ci 148), (ci 6), (.t 69)]]) (.seq (rg [mv 71 7, oo 72 (.ixa 1 (.t 71) (ci 155)), ⟨none, (.st 1 (.t 72) (.c (.int .u8 32))), none⟩]) (.seq (rg [mv 73 7, mv 2 73, oo 3 (.mov (.c (.lit .nilIface)))]) .ret)))))))))))))))))))⟩
theorem fn70 : AA.fn 70 = some b70 := by kernel_rfl
theorem np70 : AA.prim 70 = none := rfl
def l157_0 : ACode := (.seq (rg [oo 14 (.bin .lss .other false (.t 13) (.t 12))]) (.seq (.cond (.t 14) .skip (.exit 0)) (.seq (.block 1 (.seq (rg [mv 15 13, mv 3 15]) (.seq (rg [mv 16 0, mv 17 3, oo 18 (.ixs (.t 16) (.t 17)), oo 19 (.bin .lss .other true (.t 18) (.c (.int .u8 33))), mv 20 19, og 21 (.mov (.t 0)) 20 false, og 22 (.mov (.t 3)) 20 false, og 23 (.ixs (.t 21) (.t 22)) 20 false, og 24 (.bin .gtr .other true (.t 23) (.c (.int .u8 126))) 20 false, oo 25 (.pick (.t 20) (.c (.bool true)) (.t 24)), mv 26 25, og 27 (.mov (.t 0)) 26 false, og 28 (.mov (.t 3)) 26 false, og 29 (.ixs (.t 27) (.t 28)) 26 false, og 30 (.bin .eql .other true (.t 29) (.c (.int .u8 61))) 26 false, oo 31 (.pick (.t 26) (.c (.bool true)) (.t 30))]) (.cond (.t 31) (.seq (rg [oo 2 (.mov (.c (.bool false)))]) .ret) .skip)))) (rg [oo 32 (.bin .add .other true (.t 13) (ci 1)), mv 13 32]))))
def r157_0 : ACode := (.seq (rg [oo 2 (.mov (.c (.bool true)))]) .ret)
def b157 : AFn := ⟨1, 33, [(2, none)], (.seq (rg [oo 2 (.mov (.c (.bool false)))]) (.seq (.seq (rg [mv 4 0, oo 5 (.bin .eql .other true (.t 4) (.c (.str []))), mv 6 5, og 7 (.mov (.t 0)) 6 false, og 8 (.len 0 (.t 7)) 6 false, og 9 (.bin .gtr .other true (.t 8) (ci 100)) 6 false, oo 10 (.pick (.t 6) (.c (.bool true)) (.t 9))]) (.cond (.t 10) (.seq (rg [oo 2 (.mov (.c (.bool false)))]) .ret) .skip)) (.seq (.seq (rg [mv 11 0, oo 12 (.len 0 (.t 11)), oo 13 (.mov (ci 0))]) (.block 0 (.loop [0, 2, 12, 13] l157_0))) r157_0)))⟩
theorem fn157 : AA.fn 157 = some b157 := by kernel_rfl
theorem np157 : AA.prim 157 = none := rfl
def l158_0 : ACode := (.seq (.seq (rg [mv 6 3, mv 7 0, mv 8 3, cl 9 56 [(.t 8)], oo 10 (.len 0 (.t 9)), oo 11 (.bin .add .other false (.t 7) (.t 10)), oo 12 (.bin .neq .other false (.t 6) (.t 11))]) (.cond (.t 12) .skip (.exit 0))) (.block 1 (rg [mv 13 0, mv 14 3, cl 15 56 [(.t 14)], oo 16 (.len 0 (.t 15)), oo 17 (.bin .add .other false (.t 13) (.t 16)), mv 3 17])))
def r158_0 : ACode := (.seq (rg [mv 18 3, mv 2 18]) .ret)
def b158 : AFn := ⟨1, 19, [(2, none)], (.seq (rg [oo 2 (.mov (ci 0))]) (.seq (rg [mv 4 0, oo 5 (.bin .add .other true (.t 4) (ci 1)), mv 3 5]) (.seq (.block 0 (.loop [0, 2, 3] l158_0)) r158_0)))⟩
theorem fn158 : AA.fn 158 = some b158 := by kernel_rfl
theorem np158 : AA.prim 158 = none := rfl
def b121 : AFn := ⟨2, 33, [(4, none), (5, none)], (.seq (rg [oo 4 (.mov (.c (.str []))), oo 5 (.mov (.c (.lit .nilIface)))]) (.seq (.seq (rg [mv 8 0, cl 9 157 [(.t 8)], oo 10 (.un .not (.t 9)), mv 11 10, og 12 (.mov (.t 1)) 11 false, og 13 (.len 0 (.t 12)) 11 false, og 14 (.bin .gtr .other true (.t 13) (ci 65536)) 11 false, oo 15 (.pick (.t 11) (.c (.bool true)) (.t 14))]) (.cond (.t 15) (.seq (rg [oo 16 (.mkif 58 (ci 15)), oo 4 (.mov (.c (.str []))), mv 5 16]) .ret) .skip)) (.seq (rg [mv 17 0, oo 18 (.bin .add .other true (.c (.str [32])) (.t 17)), oo 19 (.bin .add .other true (.t 18) (.c (.str [61]))), mv 20 1, oo 21 (.bin .add .other false (.t 19) (.t 20)), oo 22 (.bin .add .other true (.t 21) (.c (.str [10]))), mv 6 22]) (.seq (rg [mv 23 6, oo 24 (.len 0 (.t 23)), cl 25 158 [(.t 24)], mv 7 25]) (.seq (.seq (rg [mv 26 7, oo 27 (.bin .gtr .other true (.t 26) (ci 65536))]) (.cond (.t 27) (.seq (rg [oo 28 (.mkif 58 (ci 15)), oo 4 (.mov (.c (.str []))), mv 5 28]) .ret) .skip)) (.seq (rg [mv 29 7, cl 30 56 [(.t 29)], mv 31 6, oo 32 (.bin .add .other false (.t 30) (.t 31)), mv 4 32, oo 5 (.mov (.c (.lit .nilIface)))]) .ret))))))⟩
theorem fn121 : AA.fn 121 = some b121 := by kernel_rfl
theorem np121 : AA.prim 121 = none := rfl
def l109_0 : ACode := (.seq (rg [oo 12 (.bin .lss .other false (.t 11) (.t 10))]) (.seq (.cond (.t 12) .skip (.exit 0)) (.seq (.block 1 (.seq (rg [mv 13 11, oo 14 (.ixa 2 (.t 9) (.t 11)), oo 15 (.ld 2 true (.t 14)), oo 6 (.alloc [(.str []), (.str [])]), mv 5 13, ⟨none, (.st 2 (.t 6) (.t 15)), none⟩]) (.seq (rg [oo 17 (.fa 0 (.t 6)), oo 18 (.ld 1 false (.t 17)), oo 19 (.fa 1 (.t 6)), oo 20 (.ld 1 false (.t 19)), cl 21 121 [(.t 18), (.t 20)], mv 16 21, oo 22 (.ext (.t 16) 0), oo 23 (.ext (.t 16) 1), mv 7 22, mv 8 23]) (.seq (.seq (.reg true [(11, 12), (6, 13), (7, 13), (8, 13), (9, 13), (10, 13), (11, 13)] [mv 24 8, oo 25 (.bin .neq (.iface [58]) true (.t 24) (.c (.lit .nilIface))), mv 26 25, og 27 (.mov (.t 5)) 26 false, og 28 (.bin .gtr .other true (.t 27) (ci 0)) 26 false, og 29 (.mov (.t 28)) 26 false, og 30 (.mov (.t 0)) 29 true, og 31 (.mov (.t 5)) 29 true, og 32 (.bin .sub .other true (.t 31) (ci 1)) 29 true, og 33 (.ixa 2 (.t 30) (.t 32)) 29 true, og 34 (.fa 0 (.t 33)) 29 true, og 35 (.ld 1 false (.t 34)) 29 true, og 36 (.fa 0 (.t 6)) 29 true, og 37 (.ld 1 false (.t 36)) 29 true, og 38 (.bin .geq .other false (.t 35) (.t 37)) 29 true, og 39 (.pick (.t 29) (.t 38) (.c (.bool false))) 26 false, oo 40 (.pick (.t 26) (.c (.bool true)) (.t 39)), mv 41 40, og 42 (.mov (.t 4)) 41 false, og 43 (.len 1 (.t 42)) 41 false, og 44 (.mov (.t 7)) 41 false, og 45 (.len 0 (.t 44)) 41 false, og 46 (.bin .add .other false (.t 43) (.t 45)) 41 false, og 47 (.bin .gtr .other true (.t 46) (ci 65536)) 41 false, oo 48 (.pick (.t 41) (.c (.bool true)) (.t 47))]) (.cond (.t 48) (.seq (rg [oo 49 (.mkif 58 (ci 15)), oo 2 (.mov (.c (.lit (.slice none 0 0)))), mv 3 49]) .ret) .skip)) (rg [mv 50 4, mv 51 7, oo 52 (.app 1 1 (.t 50) (.t 51)), mv 4 52]))))) (rg [oo 53 (.bin .add .other true (.t 11) (ci 1)), mv 11 53]))))
def r109_0 : ACode := (.seq (rg [mv 54 4, mv 2 54, oo 3 (.mov (.c (.lit .nilIface)))]) .ret)
def b109 : AFn := ⟨1, 55, [(2, none), (3, none)], (.seq (rg [oo 2 (.mov (.c (.lit (.slice none 0 0)))), oo 3 (.mov (.c (.lit .nilIface)))]) (.seq (rg [oo 4 (.mov (.c (.lit (.slice none 0 0))))]) (.seq (.seq (rg [mv 9 0, oo 10 (.len 1 (.t 9)), oo 11 (.mov (ci 0))]) (.block 0 (.loop [0, 2, 3, 4, 9, 10, 11] l109_0))) r109_0)))⟩
theorem fn109 : AA.fn 109 = some b109 := by kernel_rfl
theorem np109 : AA.prim 109 = none := rfl
def b148 : AFn := ⟨1, 9, [(2, none)], (.seq (rg [oo 2 (.mov (.c (.lit (.slice none 0 0))))]) (.seq (rg [mv 3 0, mv 4 0, oo 5 (.len 1 (.t 4)), mv 6 0, oo 7 (.len 1 (.t 6)), oo 8 (.slc 1 (.t 3) none (some (.t 5)) (some (.t 7))), mv 2 8]) .ret))⟩
theorem fn148 : AA.fn 148 = some b148 := by kernel_rfl
theorem np148 : AA.prim 148 = none := rfl
def b110 : AFn := ⟨1, 11, [(2, none)], (.seq (rg [oo 2 (.mov (.c (.lit (.slice none 0 0))))]) (.seq (rg [mv 3 0, cl 4 148 [(.t 3)], mv 5 0, oo 6 (.len 1 (.t 5)), oo 7 (.bin .rem .other true (.t 6) (ci 512)), oo 8 (.bin .sub .other true (ci 512) (.t 7)), oo 9 (.bin .rem .other true (.t 8) (ci 512)), oo 10 (.appz 1 1 [(.int .u8 0)] (.t 4) (.t 9)), mv 2 10]) .ret))⟩
theorem fn110 : AA.fn 110 = some b110 := by kernel_rfl
theorem np110 : AA.prim 110 = none := rfl
def b102 : AFn := ⟨1, 10, [(2, none)], (.seq (rg [oo 2 (.mov (.c (.int .u8 0)))]) (.seq (.seq (rg [mv 3 0]) (.block 0 (.seq (rg [oo 5 (.bin .eql .other true (.t 3) (ci 1)), mv 4 5]) (.cond (.t 4) (.seq (rg [oo 2 (.mov (.c (.int .u8 53)))]) .ret) (.seq (rg [oo 7 (.bin .eql .other true (.t 3) (ci 3)), mv 6 7]) (.cond (.t 6) (.seq (rg [oo 2 (.mov (.c (.int .u8 50)))]) .ret) (.seq (rg [oo 9 (.bin .eql .other true (.t 3) (ci 4)), mv 8 9]) (.cond (.t 8) (.seq (rg [oo 2 (.mov (.c (.int .u8 49)))]) .ret) .skip)))))))) (.seq (rg [oo 2 (.mov (.c (.int .u8 48)))]) .ret)))⟩
theorem fn102 : AA.fn 102 = some b102 := by kernel_rfl
theorem np102 : AA.prim 102 = none := rfl
def l111_0 : ACode := (.seq (rg [oo 30 (.bin .lss .other false (.t 29) (.t 28))]) (.seq (.cond (.t 30) .skip (.exit 0)) (.seq (.block 1 (.seq (rg [oo 31 (.ixa 2 (.t 27) (.t 29)), oo 32 (.ld 2 true (.t 31)), oo 7 (.alloc [(.str []), (.str [])]), ⟨none, (.st 2 (.t 7) (.t 32)), none⟩]) (.seq (rg [oo 33 (.fa 0 (.t 7)), oo 34 (.ld 1 false (.t 33))]) (.block 2 (.seq (rg [oo 36 (.bin .eql .other true (.t 34) (.c (.str [103, 105, 100]))), mv 35 36]) (.cond (.t 35) (rg [oo 37 (.fa 3 (.t 5)), ⟨none, (.st 1 (.t 37) (ci 0)), none⟩]) (.seq (rg [oo 39 (.bin .eql .other true (.t 34) (.c (.str [108, 105, 110, 107, 112, 97, 116, 104]))), mv 38 39]) (.cond (.t 38) (rg [oo 40 (.fa 7 (.t 5)), ⟨none, (.st 1 (.t 40) (.c (.str [112, 97, 120]))), none⟩]) (.seq (rg [oo 42 (.bin .eql .other true (.t 34) (.c (.str [109, 116, 105, 109, 101]))), mv 41 42]) (.cond (.t 41) (rg [oo 43 (.fa 5 (.t 5)), ⟨none, (.st 1 (.t 43) (ci 0)), none⟩]) (.seq (rg [oo 45 (.bin .eql .other true (.t 34) (.c (.str [112, 97, 116, 104]))), mv 44 45]) (.cond (.t 44) (rg [oo 46 (.fa 0 (.t 5)), ⟨none, (.st 1 (.t 46) (.c (.str [112, 97, 120]))), none⟩]) (.seq (rg [oo 48 (.bin .eql .other true (.t 34) (.c (.str [117, 105, 100]))), mv 47 48]) (.cond (.t 47) (rg [oo 49 (.fa 2 (.t 5)), ⟨none, (.st 1 (.t 49) (ci 0)), none⟩]) .skip)))))))))))))) (rg [oo 50 (.bin .add .other true (.t 29) (ci 1)), mv 29 50]))))
def r111_0 : ACode := (.seq (rg [oo 51 (.ld 8 true (.t 5)), ⟨none, (.st 8 (.t 4) (.t 51)), none⟩]) .ret)
def b111 : AFn := ⟨2, 52, [(4, (some (8, true)))], (.seq (rg [oo 2 (.box (.t 0)), oo 4 (.alloc [(.str []), (.int .i64 0), (.int .i64 0), (.int .i64 0), (.int .i64 0), (.int .i64 0), (.int .u8 0), (.str [])])]) (.seq (.reg true [(1, 2), (0, 3), (1, 3), (1, 4), (3, 4), (0, 5), (1, 5), (2, 5), (3, 5), (1, 6), (3, 6), (5, 6), (0, 7), (1, 7), (2, 7), (3, 7), (4, 7), (5, 7), (1, 8), (3, 8), (5, 8), (7, 8), (0, 9), (1, 9), (2, 9), (3, 9), (4, 9), (5, 9), (6, 9), (7, 9), (1, 10), (3, 10), (5, 10), (7, 10), (1, 11), (3, 11), (5, 11), (7, 11), (9, 11), (0, 12), (1, 12), (2, 12), (3, 12), (4, 12), (5, 12), (6, 12), (7, 12), (8, 12), (9, 12), (10, 12), (1, 13), (3, 13), (5, 13), (7, 13), (9, 13), (12, 13), (0, 14), (1, 14), (2, 14), (3, 14), (4, 14), (5, 14), (6, 14), (7, 14), (8, 14), (9, 14), (10, 14), (11, 14), (12, 14), (0, 15), (1, 15), (2, 15), (3, 15), (4, 15), (5, 15), (6, 15), (7, 15), (8, 15), (9, 15), (10, 15), (11, 15), (12, 15), (1, 16), (3, 16), (5, 16), (7, 16), (9, 16), (12, 16), (14, 16), (15, 16), (0, 17), (1, 17), (2, 17), (3, 17), (4, 17), (5, 17), (6, 17), (7, 17), (8, 17), (9, 17), (10, 17), (11, 17), (12, 17), (13, 17), (14, 17), (15, 17), (0, 19), (1, 19), (2, 19), (3, 19), (4, 19), (5, 19), (6, 19), (7, 19), (8, 19), (9, 19), (10, 19), (11, 19), (12, 19), (13, 19), (14, 19), (15, 19), (16, 19), (17, 19), (18, 19)] [oo 8 (.fa 0 (.t 2)), oo 9 (.ld 1 false (.t 8)), oo 10 (.fa 2 (.t 2)), oo 11 (.ld 1 false (.t 10)), oo 12 (.fa 3 (.t 2)), oo 13 (.ld 1 false (.t 12)), oo 14 (.fa 4 (.t 2)), oo 15 (.ld 1 false (.t 14)), oo 16 (.fa 7 (.t 2)), oo 17 (.ld 1 false (.t 16)), oo 18 (.len 1 (.t 17)), oo 19 (.fa 5 (.t 2)), oo 20 (.ld 1 false (.t 19)), oo 21 (.fa 1 (.t 2)), oo 22 (.ld 1 false (.t 21)), cl 23 102 [(.t 22)], oo 24 (.fa 6 (.t 2)), oo 25 (.ld 1 false (.t 24)), oo 26 (.build [(.str []), (.int .i64 0), (.int .i64 0), (.int .i64 0), (.int .i64 0), (.int .i64 0), (.int .u8 0), (.str [])] [(0, (1, (.t 9))), (1, (1, (.t 11))), (2, (1, (.t 13))), (3, (1, (.t 15))), (4, (1, (.t 18))), (5, (1, (.t 20))), (6, (1, (.t 23))), (7, (1, (.t 25)))]), oo 5 (.alloc [(.str []), (.int .i64 0), (.int .i64 0), (.int .i64 0), (.int .i64 0), (.int .i64 0), (.int .u8 0), (.str [])]), ⟨none, (.st 8 (.t 5) (.t 26)), none⟩]) (.seq (.seq (rg [mv 27 1, oo 28 (.len 1 (.t 27)), oo 29 (.mov (ci 0))]) (.block 0 (.loop [4, 5, 27, 28, 29] l111_0))) r111_0)))⟩
theorem fn111 : AA.fn 111 = some b111 := by kernel_rfl
theorem np111 : AA.prim 111 = none := rfl
def b66 : AFn := ⟨2, 62, [(4, none), (5, none)], (.seq (rg [oo 3 (.box (.t 1)), oo 4 (.mov (.c (.lit (.slice none 0 0)))), oo 5 (.mov (.c (.lit .nilIface)))]) (.seq (rg [oo 13 (.ld 8 true (.t 3)), cl 14 21 [(.t 13)], mv 6 14]) (.seq (rg [oo 7 (.mov (.c (.lit (.slice none 0 0))))]) (.seq (.seq (rg [mv 15 6, oo 16 (.len 1 (.t 15)), oo 17 (.bin .gtr .other true (.t 16) (ci 0))]) (.cond (.t 17) (.seq (rg [mv 19 6, cl 20 109 [(.t 19)], mv 18 20, oo 21 (.ext (.t 18) 0), oo 22 (.ext (.t 18) 1), mv 8 21, mv 9 22]) (.seq (.seq (rg [mv 23 9, oo 24 (.bin .neq (.iface [58]) true (.t 23) (.c (.lit .nilIface)))]) (.cond (.t 24) (.seq (rg [mv 25 9, oo 4 (.mov (.c (.lit (.slice none 0 0)))), mv 5 25]) .ret) .skip)) (.seq (rg [mv 27 0, cl 28 56 [(.t 27)], oo 29 (.bin .add .other true (.c (.str [112, 97, 120, 47])) (.t 28)), mv 30 8, oo 31 (.len 1 (.t 30)), oo 32 (.build [(.str []), (.int .i64 0), (.int .i64 0), (.int .i64 0), (.int .i64 0), (.int .i64 0), (.int .u8 0), (.str [])] [(0, (1, (.t 29))), (4, (1, (.t 31))), (6, (1, (.c (.int .u8 120))))]), cl 33 70 [(.t 32)], mv 26 33, oo 34 (.ext (.t 26) 0), oo 35 (.ext (.t 26) 1), mv 10 34, mv 9 35]) (.seq (.seq (rg [mv 36 9, oo 37 (.bin .neq (.iface [58]) true (.t 36) (.c (.lit .nilIface)))]) (.cond (.t 37) (.seq (rg [mv 38 9, oo 4 (.mov (.c (.lit (.slice none 0 0)))), mv 5 38]) .ret) .skip)) (rg [mv 39 7, mv 40 10, oo 41 (.app 1 1 (.t 39) (.t 40)), mv 42 8, cl 43 110 [(.t 42)], oo 44 (.app 1 1 (.t 41) (.t 43)), mv 7 44]))))) .skip)) (.seq (rg [oo 46 (.ld 8 true (.t 3)), mv 47 6, cl 48 111 [(.t 46), (.t 47)], cl 49 70 [(.t 48)], mv 45 49, oo 50 (.ext (.t 45) 0), oo 51 (.ext (.t 45) 1), mv 11 50, mv 12 51]) (.seq (.seq (rg [mv 52 12, oo 53 (.bin .neq (.iface [58]) true (.t 52) (.c (.lit .nilIface)))]) (.cond (.t 53) (.seq (rg [mv 54 12, oo 4 (.mov (.c (.lit (.slice none 0 0)))), mv 5 54]) .ret) .skip)) (.seq (.reg true [(2, 3), (0, 4), (1, 4), (2, 4)] [mv 55 7, mv 56 11, oo 57 (.app 1 1 (.t 55) (.t 56)), oo 58 (.fa 7 (.t 3)), oo 59 (.ld 1 false (.t 58)), cl 60 110 [(.t 59)], oo 61 (.app 1 1 (.t 57) (.t 60)), mv 4 61, oo 5 (.mov (.c (.lit .nilIface)))]) .ret)))))))⟩
theorem fn66 : AA.fn 66 = some b66 := by kernel_rfl
theorem np66 : AA.prim 66 = none := rfl
end Go.Abs
