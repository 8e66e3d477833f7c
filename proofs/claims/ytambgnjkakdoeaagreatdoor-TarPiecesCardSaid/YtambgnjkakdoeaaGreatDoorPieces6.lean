import Derived.Test.YtambgnjkakdoeaaGreatDoorPieces5
import Derived.IntWalk
import Derived.Lib.AtoiAll
import Derived.Lib.Bytealg
import Derived.Lib.ItoaNum
import Derived.Lib.ValidU
import Derived.Test.YtambgnjkakdoeaaGreatDoorChecked
/- PART OF A PROOF (texts joined by a program): T2 P0 T3 T4. -/
set_option linter.unusedVariables false
set_option linter.unusedSimpArgs false
set_option linter.unusedSectionVars false
/- SYMBOLIC EVALUATION: what the operations give at plain values. -/
namespace Go.Abs
section
variable {e : EqK} {c : Bool} {k : IntKind} {x y : Int} {s t : List UInt8} {v w : AVal}
theorem wrap_i64 (h1 : -9223372036854775808 ≤ x) (h2 : x ≤ 9223372036854775807) : IntKind.i64.wrap x = x := IntWalk.i64_in x ⟨h1, h2⟩
theorem wrap_u8 (h1 : 0 ≤ x) (h2 : x ≤ 255) : IntKind.u8.wrap x = x := IntWalk.u8_in x ⟨h1, h2⟩
theorem wrap_i32 (h1 : -2147483648 ≤ x) (h2 : x ≤ 2147483647) : IntKind.i32.wrap x = x := IntWalk.i32_in x ⟨h1, h2⟩
theorem wrap_u32 (h1 : 0 ≤ x) (h2 : x ≤ 4294967295) : IntKind.u32.wrap x = x := IntWalk.u32_in x ⟨h1, h2⟩
theorem wrap_u64 (h1 : 0 ≤ x) (h2 : x ≤ 18446744073709551615) : IntKind.u64.wrap x = x := IntWalk.u64_in x ⟨h1, h2⟩

theorem toNat_succ {i : Int} (h : 0 ≤ i) : (i + 1).toNat = i.toNat + 1 := by omega
theorem u8_back (c : UInt8) : c.toNat.toUInt8 = c := by simp
theorem cast_lit (n : Nat) : (((no_index (OfNat.ofNat n)) : Nat) : Int) = OfNat.ofNat n := rfl
@[go_sem] theorem aBin_add : aBin .add e c (.int k x) (.int k y) = some (.int k (k.wrap (x + y))) := by simp [aBin, intOp]
@[go_sem] theorem aBin_sub : aBin .sub e c (.int k x) (.int k y) = some (.int k (k.wrap (x - y))) := by simp [aBin, intOp]
@[go_sem] theorem aBin_mul : aBin .mul e c (.int k x) (.int k y) = some (.int k (k.wrap (x * y))) := by simp [aBin, intOp]
@[go_sem] theorem aBin_quo : aBin .quo e c (.int k x) (.int k y) = if y = 0 then none else some (.int k (k.wrap (x.tdiv y))) := by simp [aBin, intOp]
@[go_sem] theorem aBin_rem : aBin .rem e c (.int k x) (.int k y) = if y = 0 then none else some (.int k (x.tmod y)) := by simp [aBin, intOp]
@[go_sem] theorem aBin_and : aBin .and e c (.int k x) (.int k y) = some (.int k (k.wrap (BitVec.ofInt k.bits x &&& BitVec.ofInt k.bits y).toNat)) := by simp [aBin, intOp]
@[go_sem] theorem aBin_or : aBin .or e c (.int k x) (.int k y) = some (.int k (k.wrap (BitVec.ofInt k.bits x ||| BitVec.ofInt k.bits y).toNat)) := by simp [aBin, intOp]
@[go_sem] theorem aBin_shl {k' : IntKind} : aBin .shl e c (.int k x) (.int k' y) = if y < 0 then none else some (.int k (k.wrap (x * 2 ^ (min y.toNat k.bits)))) := by simp [aBin, intOp]
@[go_sem] theorem aBin_shr {k' : IntKind} : aBin .shr e c (.int k x) (.int k' y) = if y < 0 then none else some (.int k (x.fdiv (2 ^ (min y.toNat k.bits)))) := by simp [aBin, intOp]
@[go_sem] theorem aBin_eql : aBin .eql e c (.int k x) (.int k y) = some (.bool (decide (x = y))) := by
  simp [aBin, intOp]
  rfl
@[go_sem] theorem aBin_neq : aBin .neq e c (.int k x) (.int k y) = some (.bool (!decide (x = y))) := by
  simp [aBin, intOp]
  rfl
@[go_sem] theorem aBin_lss : aBin .lss e c (.int k x) (.int k y) = some (.bool (decide (x < y))) := by simp [aBin, intOp]
@[go_sem] theorem aBin_leq : aBin .leq e c (.int k x) (.int k y) = some (.bool (decide (x ≤ y))) := by simp [aBin, intOp]
@[go_sem] theorem aBin_gtr : aBin .gtr e c (.int k x) (.int k y) = some (.bool (decide (y < x))) := by simp [aBin, intOp]
@[go_sem] theorem aBin_geq : aBin .geq e c (.int k x) (.int k y) = some (.bool (decide (y ≤ x))) := by simp [aBin, intOp]
@[go_sem] theorem aBin_sadd : aBin .add e c (.str s) (.str t) = if s.length + t.length ≤ strMax then some (.str (s ++ t)) else none := by simp [aBin, strOp]
@[go_sem] theorem aBin_seql : aBin .eql e c (.str s) (.str t) = some (.bool (decide (s = t))) := by
  simp [aBin, strOp]
  by_cases h : s = t <;> simp [h]
@[go_sem] theorem aBin_sneq : aBin .neq e c (.str s) (.str t) = some (.bool (!decide (s = t))) := by
  simp [aBin, strOp]
  by_cases h : s = t <;> simp [h]
@[go_sem] theorem aBin_slss : aBin .lss e c (.str s) (.str t) = some (.bool (Op.bytesLess s t)) := by simp [aBin, strOp]
@[go_sem] theorem aBin_sgeq : aBin .geq e c (.str s) (.str t) = some (.bool (!Op.bytesLess s t)) := by simp [aBin, strOp]
@[go_sem] theorem aBin_sleq : aBin .leq e c (.str s) (.str t) = some (.bool (Op.bytesLess s t || decide (s = t))) := by
  simp [aBin, strOp]
  by_cases h : s = t <;> simp [h]
@[go_sem] theorem aBin_sgtr : aBin .gtr e c (.str s) (.str t) = some (.bool (!(Op.bytesLess s t || decide (s = t)))) := by
  simp [aBin, strOp]
  by_cases h : s = t <;> simp [h]
variable {a b : Bool} {ts : List TypeId} {u u' : TypeId} {z : Nat} {es : List AVal} {cl tmp : Bool} {id off len p q : Nat}
@[go_sem] theorem aBin_beql : aBin .eql .bool c (.bool a) (.bool b) = some (.bool (a == b)) := rfl
@[go_sem] theorem aBin_bneq : aBin .neq .bool c (.bool a) (.bool b) = some (.bool (!(a == b))) := rfl
@[go_sem] theorem aBin_peq {a b a' b' : List UInt8} : aBin .eql .pair c (.agg [.str a, .str b]) (.agg [.str a', .str b']) = some (.bool (decide (a = a' ∧ b = b'))) := by
  by_cases h1 : a = a' <;> by_cases h2 : b = b' <;> simp [aBin, aEq, h1, h2]
@[go_sem] theorem aBin_pneq {a b a' b' : List UInt8} : aBin .neq .pair c (.agg [.str a, .str b]) (.agg [.str a', .str b']) = some (.bool (!decide (a = a' ∧ b = b'))) := by
  by_cases h1 : a = a' <;> by_cases h2 : b = b' <;> simp [aBin, aEq, h1, h2]
@[go_sem] theorem aBin_nn : aBin .eql (.iface ts) true (.lit .nilIface) (.lit .nilIface) = some (.bool true) := rfl
@[go_sem] theorem aBin_nn' : aBin .neq (.iface ts) true (.lit .nilIface) (.lit .nilIface) = some (.bool false) := rfl
@[go_sem] theorem aBin_ni : aBin .eql (.iface ts) c (.lit .nilIface) (.iface u v) = some (.bool false) := rfl
@[go_sem] theorem aBin_ni' : aBin .neq (.iface ts) c (.lit .nilIface) (.iface u v) = some (.bool true) := rfl
@[go_sem] theorem aBin_in : aBin .eql (.iface ts) c (.iface u v) (.lit .nilIface) = some (.bool false) := rfl
@[go_sem] theorem aBin_in' : aBin .neq (.iface ts) c (.iface u v) (.lit .nilIface) = some (.bool true) := rfl
@[go_sem] theorem aBin_ii : aBin .eql (.iface ts) c (.iface u (.int k x)) (.iface u (.int k y)) = if ts.contains u = true then some (.bool (decide (x = y))) else none := by
  simp only [aBin, aEq, if_true]
  split <;> simp
  rfl
@[go_sem] theorem aBin_ii' : aBin .neq (.iface ts) c (.iface u (.int k x)) (.iface u (.int k y)) = if ts.contains u = true then some (.bool (!decide (x = y))) else none := by
  simp only [aBin, aEq, if_true]
  split <;> simp
  rfl
@[go_sem] theorem aBin_snn : aBin .eql .slice c (.lit (.slice none p q)) (.lit (.slice none p q)) = some (.bool true) := rfl
@[go_sem] theorem aBin_snn' : aBin .neq .slice c (.lit (.slice none p q)) (.lit (.slice none p q)) = some (.bool false) := rfl
@[go_sem] theorem aBin_svn : aBin .eql .slice c (.view z es cl tmp) (.lit (.slice none p q)) = some (.bool false) := rfl
@[go_sem] theorem aBin_svn' : aBin .neq .slice c (.view z es cl tmp) (.lit (.slice none p q)) = some (.bool true) := rfl
@[go_sem] theorem aBin_son : aBin .eql .slice c (.own id z off len cl) (.lit (.slice none p q)) = some (.bool false) := rfl
@[go_sem] theorem aBin_son' : aBin .neq .slice c (.own id z off len cl) (.lit (.slice none p q)) = some (.bool true) := rfl
@[go_sem] theorem aBin_pnn : aBin .eql .ptr c (.lit (.pointer none)) (.lit (.pointer none)) = some (.bool true) := rfl
@[go_sem] theorem aBin_pnn' : aBin .neq .ptr c (.lit (.pointer none)) (.lit (.pointer none)) = some (.bool false) := rfl
@[go_sem] theorem aBin_ppn : aBin .eql .ptr c (.ptr id off) (.lit (.pointer none)) = some (.bool false) := rfl
@[go_sem] theorem aBin_ppn' : aBin .neq .ptr c (.ptr id off) (.lit (.pointer none)) = some (.bool true) := rfl
@[go_sem] theorem aUn_not : aUn .not (.bool b) = some (.bool (!b)) := rfl
@[go_sem] theorem aUn_neg : aUn .neg (.int k x) = some (.int k (k.wrap (0 - x))) := rfl
attribute [go_sem] AVal.closed AVal.undef AVal.nilS AVal.nilI AVal.nilP AVal.byte
attribute [go_sem] Option.map_some Option.map_none Option.bind_some Option.bind_none List.length_map
end

/-! ## what is symbolic: bytes of a text, elements of a row -/
section
variable {A : AProg} {m nid n : Nat} {d : Option Nat} {env : List AVal} {h h' : Heap} {st : ASt} {S : List Frame} {F : FinP} {ops : List AOper} {s : List UInt8} {k : IntKind} {i : Int} {α : Type} {l : List α} {f : α → AVal} {x y : AOpd}
/-- the byte of a text at a place -/
def ixsV (v w : AVal) (h : Heap) : Option (AVal × Heap) := match v, toNat? w with
  | .str s, some i => match s[i]? with
    | some b => some (.byte b, h)
    | none => none
  | _, _ => none
@[go_sem high] theorem aop_ixs : aop (.ixs x y) env nid h = ixsV (x.ev env) (y.ev env) h := rfl
theorem xp_ixs {K : AVal × Heap → Prop} : (∃ r, ixsV (.str s) (.int k i) h = some r ∧ K r) ↔ (0 ≤ i ∧ i.toNat < s.length) ∧ ∀ b, s[i.toNat]? = some b → K (.int .u8 b.toNat, h) := by
  unfold ixsV toNat?
  by_cases h0 : 0 ≤ i
  · simp only [h0, if_true, true_and]
    by_cases h1 : i.toNat < s.length
    · simp [List.getElem?_eq_getElem h1, h1, AVal.byte]
    · simp [List.getElem?_eq_none (Nat.not_lt.1 h1), h1]
  · simp [h0]
variable {ps : List (Nat × Nat)} {base : Nat} {fs : List Foot} {ft : Foot}
@[go_sem] theorem op_ixs : OP A m (ixsV (.str s) (.int k i) h) d ops nid env n S F ↔ (0 ≤ i ∧ i.toNat < s.length) ∧ ∀ b, s[i.toNat]? = some b → RN A m ops (nid + stride) (setAt d (.int .u8 b.toNat) env) h n S F := xp_ixs
@[go_sem] theorem od_ixs : OD A m ps base fs ft (ixsV (.str s) (.int k i) h) d ops nid env n S F ↔ (0 ≤ i ∧ i.toNat < s.length) ∧ ∀ b, s[i.toNat]? = some b → RD A m ps base (fs ++ [ft]) ops (nid + stride) (setAt d (.int .u8 b.toNat) env) h n S F := xp_ixs
end
end Go.Abs
/- THE PROGRAM, as the small code has it; the library's functions whose contracts are given. -/
namespace Go.Abs
open Go.Proofs
def gl0 : Globs := fun _ => none
/-- a slice of bytes: nil, or a row -/
inductive BS where
  | nil
  | mk (clip tmp : Bool) (l : List UInt8)
namespace BS
def av : BS → AVal
  | .nil => .lit (.slice none 0 0)
  | .mk clip tmp l => .view 1 (l.map .byte) clip tmp
def isTmp : BS → Bool
  | .nil => false
  | .mk _ t _ => t
def l : BS → List UInt8
  | .nil => []
  | .mk _ _ l => l
end BS
def itoaP : List AVal → Option AVal
  | [.int .i64 n] => if -9223372036854775808 ≤ n ∧ n ≤ 9223372036854775807 then some (.str (Lib.itoa n)) else none
  | _ => none
/-- 'strconv.Atoi': the value; is there an error? -/
def atoiV (s : List UInt8) : Int := match Lib.atoiAll s with
  | .ok v => v
  | .range => Lib.atoiSat s
  | _ => 0
def atoiOk (s : List UInt8) : Bool := match Lib.atoiAll s with
  | .ok _ => true
  | _ => false
/-- some error -/
def numErr : AVal := .iface 227 .junk
def atoiP : List AVal → Option AVal
  | [.str s] => if s.length ≤ 281474976710656 then some (.tuple [.int .i64 (atoiV s), if atoiOk s = true then .lit .nilIface else numErr]) else none
  | _ => none
def validP : List AVal → Option AVal
  | [.str s] => if s.length ≤ 9223372036854775807 then some (.bool (Lib.validD s)) else none
  | _ => none
def countP : List AVal → Option AVal
  | [.str s, .int .u8 c] => some (.int .i64 (Lib.countByte s c.toNat.toUInt8))
  | _ => none
def indexP : List AVal → Option AVal
  | [.str s, .int .u8 c] => some (.int .i64 (Lib.indexByte s c.toNat.toUInt8))
  | _ => none
def indexBP : List AVal → Option AVal
  | [.view 1 es _ _, .int .u8 c] => (bytesOf es).map fun l => .int .i64 (Lib.indexByte l c.toNat.toUInt8)
  | [.lit (.slice none 0 0), .int .u8 _] => some (.int .i64 (-1))
  | _ => none
def cmpP : List AVal → Option AVal
  | [.str s, .str t] => some (.int .i64 (Lib.compareBytes s t))
  | _ => none
def prims : Nat → Option (List AVal → Option AVal)
  | 98 => some itoaP
  | 118 => some atoiP
  | 191 => some validP
  | 255 => some countP
  | 247 => some indexP
  | 228 => some indexBP
  | 211 => some cmpP
  | _ => none
/-- functions that write into a slice which they are given, or give it back -/
def movesT (g : Nat) : Bool := g == 116 || g == 114 || g == 110 || g == 148 || g == 64 || g == 96 || g == 53 || g == 182 || g == 27 || g == 26 || g == 85 || g == 130 || g == 165 || g == 166 || g == 167 || g == 169 || g == 170 || g == 171 || g == 172 || g == 206
noncomputable def AA : AProg := { fn := fun g => (Tryz.prog.funcs[g]?).bind (trFn gl0 Tryz.prog [58]), moves := movesT, prim := prims }
@[go_sem] theorem AA_moves {g : Nat} : AA.moves g = movesT g := by
  unfold AA
  exact Eq.refl _
attribute [go_sem] movesT
@[go_sem] theorem call98 {n : Int} (h1 : -9223372036854775808 ≤ n) (h2 : n ≤ 9223372036854775807) : callT AA 98 [.int .i64 n] [] = some (.str (Lib.itoa n), []) := callT_prim rfl (if_pos ⟨h1, h2⟩)
@[go_sem] theorem call118 {s : List UInt8} (h : s.length ≤ 281474976710656) : callT AA 118 [.str s] [] = some (.tuple [.int .i64 (atoiV s), if atoiOk s = true then .lit .nilIface else numErr], []) := callT_prim rfl (if_pos h)
@[go_sem] theorem call191 {s : List UInt8} (h : s.length ≤ 9223372036854775807) : callT AA 191 [.str s] [] = some (.bool (Lib.validD s), []) := callT_prim rfl (if_pos h)
@[go_sem] theorem call255 {s : List UInt8} {c : Int} : callT AA 255 [.str s, .int .u8 c] [] = some (.int .i64 (Lib.countByte s c.toNat.toUInt8), []) := callT_prim rfl rfl
@[go_sem] theorem call247 {s : List UInt8} {c : Int} : callT AA 247 [.str s, .int .u8 c] [] = some (.int .i64 (Lib.indexByte s c.toNat.toUInt8), []) := callT_prim rfl rfl
theorem bytesOf_map (l : List UInt8) : bytesOf (l.map .byte) = some l := by
  induction l with
  | nil => rfl
  | cons b r ih =>
    simp only [List.map_cons, AVal.byte, bytesOf] at ih ⊢
    rw [ih]
    simp
@[go_sem] theorem call228 {b : BS} {c : Int} : callT AA 228 [b.av, .int .u8 c] [] = some (.int .i64 (Lib.indexByte b.l c.toNat.toUInt8), []) := by
  cases b with
  | nil => exact callT_prim rfl rfl
  | mk clip tmp l => exact callT_prim (p := indexBP) rfl (by simp [indexBP, BS.av, BS.l, bytesOf_map])
@[go_sem] theorem call211 {s t : List UInt8} : callT AA 211 [.str s, .str t] [] = some (.int .i64 (Lib.compareBytes s t), []) := callT_prim rfl rfl
end Go.Abs
/- SYMBOLIC EVALUATION: rules for rows, texts and slices of unknown length. -/
namespace Go.Abs
section
variable {A : AProg} {m nid n : Nat} {d : Option Nat} {env : List AVal} {h h' : Heap} {S : List Frame} {F : FinP} {ops : List AOper} {s : List UInt8} {k k' : IntKind} {i j : Int} {α : Type} {l : List α} {f : α → AVal} {x y v : AOpd} {id z sz off len p : Nat} {clip tmp agg : Bool} {es : List AVal} {b : BS} {ps : List (Nat × Nat)} {base : Nat} {fs : List Foot} {ft : Foot} {K : AVal × Heap → Prop}

attribute [go_sem] List.length_append List.length_replicate List.length_set List.length_drop List.length_take Nat.zero_add Nat.add_zero Int.add_zero Int.zero_add

/-! ## an element's address -/
def ixaV (sz : Nat) (v w : AVal) (h : Heap) : Option (AVal × Heap) := match v, toNat? w with
  | .view z es _ tmp, some i => match es[i]? with
    | some e => if z = sz then some (.rptr e.cells tmp, h) else none
    | none => none
  | .own id z off len _, some i => if z = sz ∧ i < len then some (.eptr id (off + i) 0, h) else none
  | _, _ => none
@[go_sem high] theorem aop_ixa : aop (.ixa sz x y) env nid h = ixaV sz (x.ev env) (y.ev env) h := rfl
theorem xp_ixa_view : (∃ r, ixaV sz (.view z es clip tmp) (.int k i) h = some r ∧ K r) ↔ (z = sz ∧ 0 ≤ i ∧ i.toNat < es.length) ∧ ∀ e, es[i.toNat]? = some e → K (.rptr e.cells tmp, h) := by
  unfold ixaV toNat?
  by_cases h0 : 0 ≤ i
  · simp only [h0, if_true, true_and]
    by_cases h1 : i.toNat < es.length
    · simp only [List.getElem?_eq_getElem h1, h1, and_true]
      by_cases hz : z = sz <;> simp [hz]
    · simp [List.getElem?_eq_none (Nat.not_lt.1 h1), h1]
  · simp [h0]
theorem xp_ixa_map : (∃ r, ixaV sz (.view z (l.map f) clip tmp) (.int k i) h = some r ∧ K r) ↔ (z = sz ∧ 0 ≤ i ∧ i.toNat < l.length) ∧ ∀ a, l[i.toNat]? = some a → K (.rptr (f a).cells tmp, h) := by
  rw [xp_ixa_view]
  simp only [List.length_map, List.getElem?_map, Option.map_eq_some_iff]
  constructor
  · rintro ⟨h1, h2⟩
    exact ⟨h1, fun a ha => h2 _ ⟨a, ha, rfl⟩⟩
  · rintro ⟨h1, h2⟩
    exact ⟨h1, fun e ⟨a, ha, he⟩ => he ▸ h2 a ha⟩
@[go_sem] theorem ixa_own : ixaV sz (.own id z off len clip) (.int k i) h = if z = sz ∧ 0 ≤ i ∧ i.toNat < len then some (.eptr id (off + i.toNat) 0, h) else none := by
  unfold ixaV toNat?
  by_cases h0 : 0 ≤ i
  · simp only [h0, if_true, true_and]
  · simp [h0]
theorem xp_ixa_bs : (∃ r, ixaV 1 b.av (.int k i) h = some r ∧ K r) ↔ (0 ≤ i ∧ i.toNat < b.l.length) ∧ ∀ a, b.l[i.toNat]? = some a → K (.rptr [.int .u8 a.toNat] b.isTmp, h) := by
  cases b with
  | nil =>
    simp only [BS.av, BS.l, List.length_nil, Nat.not_lt_zero, and_false, false_and, iff_false]
    rintro ⟨r, h1, _⟩
    unfold ixaV at h1
    simp at h1
  | mk clip tmp l =>
    simp only [BS.av, BS.l, xp_ixa_map, true_and, BS.isTmp]
    rfl
@[go_sem] theorem op_ixa_map : OP A m (ixaV sz (.view z (l.map f) clip tmp) (.int k i) h) d ops nid env n S F ↔ (z = sz ∧ 0 ≤ i ∧ i.toNat < l.length) ∧ ∀ a, l[i.toNat]? = some a → RN A m ops (nid + stride) (setAt d (.rptr (f a).cells tmp) env) h n S F := xp_ixa_map
@[go_sem] theorem od_ixa_map : OD A m ps base fs ft (ixaV sz (.view z (l.map f) clip tmp) (.int k i) h) d ops nid env n S F ↔ (z = sz ∧ 0 ≤ i ∧ i.toNat < l.length) ∧ ∀ a, l[i.toNat]? = some a → RD A m ps base (fs ++ [ft]) ops (nid + stride) (setAt d (.rptr (f a).cells tmp) env) h n S F := xp_ixa_map
@[go_sem] theorem op_ixa_bs : OP A m (ixaV 1 b.av (.int k i) h) d ops nid env n S F ↔ (0 ≤ i ∧ i.toNat < b.l.length) ∧ ∀ a, b.l[i.toNat]? = some a → RN A m ops (nid + stride) (setAt d (.rptr [.int .u8 a.toNat] b.isTmp) env) h n S F := xp_ixa_bs
@[go_sem] theorem od_ixa_bs : OD A m ps base fs ft (ixaV 1 b.av (.int k i) h) d ops nid env n S F ↔ (0 ≤ i ∧ i.toNat < b.l.length) ∧ ∀ a, b.l[i.toNat]? = some a → RD A m ps base (fs ++ [ft]) ops (nid + stride) (setAt d (.rptr [.int .u8 a.toNat] b.isTmp) env) h n S F := xp_ixa_bs

/-! ## an element that is read, written -/
def ldV (sz : Nat) (agg : Bool) (v : AVal) (h : Heap) : Option (AVal × Heap) := match v with
  | .rptr cs _ => (part cs 0 sz agg).map (·, h)
  | .ptr id o => match h.get id with
    | some (.var cs) => (part cs o sz agg).map (·, h)
    | _ => none
  | .eptr id i o => match h.get id with
    | some (.row es _) => match es[i]? with
      | some e => (part e.cells o sz agg).map (·, h)
      | none => none
    | _ => none
  | _ => none
def ldE (es : List AVal) (i o sz : Nat) (agg : Bool) (h : Heap) : Option (AVal × Heap) := match es[i]? with
  | some e => (part e.cells o sz agg).map (·, h)
  | none => none
@[go_sem high] theorem aop_ld : aop (.ld sz agg x) env nid h = ldV sz agg (x.ev env) h := rfl
@[go_sem] theorem ldV_rptr {cs : List AVal} : ldV sz agg (.rptr cs tmp) h = (part cs 0 sz agg).map (·, h) := rfl
@[go_sem] theorem ldV_ptr {o : Nat} : ldV sz agg (.ptr id o) h = (match h.get id with | some (.var cs) => (part cs o sz agg).map (·, h) | _ => none) := rfl
@[go_sem] theorem ldV_eptr {o q : Nat} : ldV sz agg (.eptr id q o) h = (match h.get id with | some (.row es _) => ldE es q o sz agg h | _ => none) := rfl
theorem xp_ldE {q o : Nat} : (∃ r, ldE es q o sz agg h = some r ∧ K r) ↔ q < es.length ∧ ∀ e, es[q]? = some e → ∃ r, (part e.cells o sz agg).map (·, h) = some r ∧ K r := by
  unfold ldE
  by_cases h1 : q < es.length
  · simp [List.getElem?_eq_getElem h1, h1]
  · simp [List.getElem?_eq_none (Nat.not_lt.1 h1), h1]
theorem xp_ldE_map {q o : Nat} : (∃ r, ldE (l.map f) q o sz agg h = some r ∧ K r) ↔ q < l.length ∧ ∀ a, l[q]? = some a → ∃ r, (part (f a).cells o sz agg).map (·, h) = some r ∧ K r := by
  rw [xp_ldE]
  simp only [List.length_map, List.getElem?_map, Option.map_eq_some_iff (x := l[q]?)]
  constructor
  · rintro ⟨h1, h2⟩
    exact ⟨h1, fun a ha => h2 _ ⟨a, ha, rfl⟩⟩
  · rintro ⟨h1, h2⟩
    exact ⟨h1, fun e ⟨a, ha, he⟩ => he ▸ h2 a ha⟩
@[go_sem] theorem op_ldE_map {q o : Nat} : OP A m (ldE (l.map f) q o sz agg h) d ops nid env n S F ↔ q < l.length ∧ ∀ a, l[q]? = some a → OP A m ((part (f a).cells o sz agg).map (·, h)) d ops nid env n S F := xp_ldE_map
@[go_sem] theorem od_ldE_map {q o : Nat} : OD A m ps base fs ft (ldE (l.map f) q o sz agg h) d ops nid env n S F ↔ q < l.length ∧ ∀ a, l[q]? = some a → OD A m ps base fs ft ((part (f a).cells o sz agg).map (·, h)) d ops nid env n S F := xp_ldE_map

/-- all elements are of so many cells -/
def RowOf (sz : Nat) (es : List AVal) : Prop := ∀ e ∈ es, e.cells.length = sz
theorem RowOf.nil : RowOf sz [] := by simp [RowOf]
theorem RowOf.cons {e : AVal} {r : List AVal} (h1 : e.cells.length = sz) (h2 : RowOf sz r) : RowOf sz (e :: r) := by
  intro e' he
  rcases List.mem_cons.1 he with rfl | h
  · exact h1
  · exact h2 e' h
theorem RowOf.append {a c : List AVal} (h1 : RowOf sz a) (h2 : RowOf sz c) : RowOf sz (a ++ c) := by
  intro e he
  rcases List.mem_append.1 he with h | h
  · exact h1 e h
  · exact h2 e h
theorem RowOf.map (hf : ∀ a, (f a).cells.length = sz) : RowOf sz (l.map f) := by
  intro e he
  obtain ⟨a, _, rfl⟩ := List.mem_map.1 he
  exact hf a
theorem RowOf.replicate {q : Nat} {e : AVal} (he : e.cells.length = sz) : RowOf sz (List.replicate q e) := by
  intro e' h
  rw [(List.mem_replicate.1 h).2]
  exact he
theorem RowOf.bytes {s : List UInt8} : RowOf 1 (s.map .byte) := RowOf.map fun _ => rfl
theorem RowOf.strs {s : List (List UInt8)} : RowOf 1 (s.map .str) := RowOf.map fun _ => rfl

def stE (es : List AVal) (s i o sz : Nat) (v : AVal) (id : Nat) (h : Heap) : Option (AVal × Heap) := match es[i]? with
  | some e => if o + sz ≤ s ∧ e.cells.length = s ∧ v.closed then
      some (.undef, h.put id (.row (es.set i (if sz = s then v else .agg (splice e.cells o v.cells))) s)) else none
  | none => none
def stV (sz : Nat) (p v : AVal) (h : Heap) : Option (AVal × Heap) :=
  if v.cells.length = sz ∧ v.cells.all AVal.leaf then
    match p with
    | .ptr id o => match h.get id with
      | some (.var cs) => if o + sz ≤ cs.length then some (.undef, h.put id (.var (splice cs o v.cells))) else none
      | _ => none
    | .eptr id i o => match h.get id with
      | some (.row es s) => stE es s i o sz v id h
      | _ => none
    | _ => none
  else none
@[go_sem high] theorem aop_st : aop (.st sz x v) env nid h = stV sz (x.ev env) (v.ev env) h := rfl
def stP (sz : Nat) (p v : AVal) (h : Heap) : Option (AVal × Heap) := match p with
    | .ptr id o => match h.get id with
      | some (.var cs) => if o + sz ≤ cs.length then some (.undef, h.put id (.var (splice cs o v.cells))) else none
      | _ => none
    | .eptr id i o => match h.get id with
      | some (.row es s) => stE es s i o sz v id h
      | _ => none
    | _ => none
@[go_sem] theorem stV_eq {p v : AVal} : stV sz p v h = if v.cells.length = sz ∧ v.cells.all AVal.leaf = true then stP sz p v h else none := rfl
@[go_sem] theorem stP_ptr {o : Nat} {v : AVal} : stP sz (.ptr id o) v h = (match h.get id with
      | some (.var cs) => if o + sz ≤ cs.length then some (.undef, h.put id (.var (splice cs o v.cells))) else none
      | _ => none) := rfl
@[go_sem] theorem stP_eptr {o q : Nat} {v : AVal} : stP sz (.eptr id q o) v h = (match h.get id with
      | some (.row es s) => stE es s q o sz v id h
      | _ => none) := rfl
@[go_sem] theorem stE_whole {q : Nat} {v : AVal} (hr : RowOf sz es) : stE es sz q 0 sz v id h = if q < es.length ∧ v.closed = true then some (.undef, h.put id (.row (es.set q v) sz)) else none := by
  unfold stE
  by_cases h1 : q < es.length
  · have hc := hr es[q] (List.getElem_mem h1)
    simp [List.getElem?_eq_getElem h1, h1, hc]
  · simp [List.getElem?_eq_none (Nat.not_lt.1 h1), h1]
/-- a byte is written -/
@[go_sem high] theorem stE_byte {q : Nat} {c : Int} {s : List UInt8} (h0 : 0 ≤ c) (h1 : c ≤ 255) : stE (s.map .byte) 1 q 0 1 (.int .u8 c) id h = if q < s.length then some (.undef, h.put id (.row ((s.set q (UInt8.ofNat c.toNat)).map .byte) 1)) else none := by
  rw [stE_whole RowOf.bytes]
  have e : (s.map AVal.byte).set q (.int .u8 c) = (s.set q (UInt8.ofNat c.toNat)).map AVal.byte := by
    rw [List.map_set]
    congr 1
    simp only [AVal.byte, AVal.int.injEq, true_and]
    have : (UInt8.ofNat c.toNat).toNat = c.toNat := UInt8.toNat_ofNat_of_lt' (by simp [UInt8.size]; omega)
    rw [this]
    omega
  rw [e]
  simp [AVal.closed, AVal.cells, AVal.flat]

/-! ## parts of texts and slices -/
@[go_sem] theorem map_ite {α β : Type} {c : Prop} [Decidable c] {f : α → β} {x : α} : Option.map f (if c then some x else none) = if c then some (f x) else none := by
  split <;> rfl
@[go_sem] theorem bind_ite {α β : Type} {c : Prop} [Decidable c] {f : α → Option β} {x : α} : Option.bind (if c then some x else none) f = if c then f x else none := by
  split <;> rfl
@[go_sem] theorem take_map_len {α β : Type} {l : List α} {f : α → β} : (l.map f).take l.length = l.map f := List.take_of_length_le (by simp)
@[go_sem] theorem take_len {α : Type} {l : List α} : l.take l.length = l := List.take_of_length_le (Nat.le_refl _)
theorem sl_str {lo hi : Option AVal} {a c : Nat} (h1 : natOr 0 lo = some a) (h2 : natOr s.length hi = some c) : aSlice 1 (.str s) lo hi none = if a ≤ c ∧ c ≤ s.length then some (.str ((s.drop a).take (c - a))) else none := by
  unfold aSlice bounds
  simp only [h1, h2]
  by_cases hc : a ≤ c ∧ c ≤ s.length
  · simp [hc]
  · simp only [hc, if_false]
@[go_sem] theorem sl_str_lo : aSlice 1 (.str s) (some (.int k i)) none none = if 0 ≤ i ∧ i ≤ s.length then some (.str (s.drop i.toNat)) else none := by
  by_cases h0 : 0 ≤ i
  · rw [sl_str (a := i.toNat) (c := s.length) (by simp [natOr, toNat?, h0]) rfl]
    have e : (s.drop i.toNat).take (s.length - i.toNat) = s.drop i.toNat := List.take_of_length_le (by simp)
    rw [e]
    have : (i.toNat ≤ s.length ∧ s.length ≤ s.length) = (0 ≤ i ∧ i ≤ s.length) := by apply propext; omega
    simp only [this]
  · simp [aSlice, bounds, natOr, toNat?, h0]
@[go_sem] theorem sl_str_hi : aSlice 1 (.str s) none (some (.int k i)) none = if 0 ≤ i ∧ i ≤ s.length then some (.str (s.take i.toNat)) else none := by
  by_cases h0 : 0 ≤ i
  · rw [sl_str (a := 0) (c := i.toNat) rfl (by simp [natOr, toNat?, h0])]
    simp only [List.drop_zero, Nat.sub_zero]
    have : (0 ≤ i.toNat ∧ i.toNat ≤ s.length) = (0 ≤ i ∧ i ≤ s.length) := by apply propext; omega
    simp only [this]
  · simp [aSlice, bounds, natOr, toNat?, h0]
@[go_sem] theorem sl_str_both : aSlice 1 (.str s) (some (.int k i)) (some (.int k' j)) none = if 0 ≤ i ∧ i ≤ j ∧ j ≤ s.length then some (.str ((s.drop i.toNat).take (j.toNat - i.toNat))) else none := by
  by_cases h0 : 0 ≤ i
  · by_cases h1 : 0 ≤ j
    · rw [sl_str (a := i.toNat) (c := j.toNat) (by simp [natOr, toNat?, h0]) (by simp [natOr, toNat?, h1])]
      have : (i.toNat ≤ j.toNat ∧ j.toNat ≤ s.length) = (0 ≤ i ∧ i ≤ j ∧ j ≤ s.length) := by apply propext; omega
      simp only [this]
    · have hf : ¬ (0 ≤ i ∧ i ≤ j ∧ j ≤ s.length) := by omega
      simp [aSlice, bounds, natOr, toNat?, h1, hf]
  · simp [aSlice, bounds, natOr, toNat?, h0]

/-- a part of a slice of bytes -/
def BS.sl (b : BS) (lo hi : Nat) : BS := match b with
  | .nil => .nil
  | .mk clip tmp l => .mk (clip && hi == l.length) tmp ((l.drop lo).take (hi - lo))
theorem BS.sl_l {lo hi : Nat} : (b.sl lo hi).l = (b.l.drop lo).take (hi - lo) := by
  cases b <;> simp [BS.sl, BS.l]
theorem sl_bs {lo hi : Option AVal} {a c : Nat} (h1 : natOr 0 lo = some a) (h2 : natOr b.l.length hi = some c) : aSlice 1 b.av lo hi none = if a ≤ c ∧ c ≤ b.l.length then some (b.sl a c).av else none := by
  cases b with
  | nil =>
    simp only [BS.l, List.length_nil] at h1 h2 ⊢
    unfold aSlice
    simp only [BS.av, BS.sl, bounds, h1, h2]
    by_cases hc : a ≤ c ∧ c ≤ 0
    · simp only [hc, and_self, if_true]
    · simp only [hc, if_false]
  | mk clip tmp l =>
    simp only [BS.l] at h1 h2 ⊢
    unfold aSlice
    simp only [BS.av, BS.sl, bounds, List.length_map, h1, h2]
    by_cases hc : a ≤ c ∧ c ≤ l.length
    · simp [hc, clipOf, List.map_drop, List.map_take]
    · simp only [hc, if_false]
@[go_sem] theorem sl_bs_lo : aSlice 1 b.av (some (.int k i)) none none = if 0 ≤ i ∧ i ≤ b.l.length then some (b.sl i.toNat b.l.length).av else none := by
  by_cases h0 : 0 ≤ i
  · rw [sl_bs (a := i.toNat) (c := b.l.length) (by simp [natOr, toNat?, h0]) rfl]
    have : (i.toNat ≤ b.l.length ∧ b.l.length ≤ b.l.length) = (0 ≤ i ∧ i ≤ b.l.length) := by apply propext; omega
    simp only [this]
  · cases b <;> simp [aSlice, BS.av, bounds, natOr, toNat?, h0]
@[go_sem] theorem sl_bs_hi : aSlice 1 b.av none (some (.int k i)) none = if 0 ≤ i ∧ i ≤ b.l.length then some (b.sl 0 i.toNat).av else none := by
  by_cases h0 : 0 ≤ i
  · rw [sl_bs (a := 0) (c := i.toNat) rfl (by simp [natOr, toNat?, h0])]
    have : (0 ≤ i.toNat ∧ i.toNat ≤ b.l.length) = (0 ≤ i ∧ i ≤ b.l.length) := by apply propext; omega
    simp only [this]
  · cases b <;> simp [aSlice, BS.av, bounds, natOr, toNat?, h0]
@[go_sem] theorem sl_bs_both : aSlice 1 b.av (some (.int k i)) (some (.int k' j)) none = if 0 ≤ i ∧ i ≤ j ∧ j ≤ b.l.length then some (b.sl i.toNat j.toNat).av else none := by
  by_cases h0 : 0 ≤ i
  · by_cases h1 : 0 ≤ j
    · rw [sl_bs (a := i.toNat) (c := j.toNat) (by simp [natOr, toNat?, h0]) (by simp [natOr, toNat?, h1])]
      have : (i.toNat ≤ j.toNat ∧ j.toNat ≤ b.l.length) = (0 ≤ i ∧ i ≤ j ∧ j ≤ b.l.length) := by apply propext; omega
      simp only [this]
    · have hf : ¬ (0 ≤ i ∧ i ≤ j ∧ j ≤ b.l.length) := by omega
      rw [if_neg hf]
      cases b <;> simp [aSlice, BS.av, bounds, natOr, toNat?, h1, h0]
  · cases b <;> simp [aSlice, BS.av, bounds, natOr, toNat?, h0]

theorem sl_own {lo hi : Option AVal} {a c : Nat} (h1 : natOr 0 lo = some a) (h2 : natOr len hi = some c) : aSlice sz (.own id z off len clip) lo hi none = if a ≤ c ∧ c ≤ len ∧ z = sz ∧ (clip = false ∨ c = len) then some (.own id z (off + a) (c - a) clip) else none := by
  unfold aSlice bounds
  simp only [h1, h2]
  by_cases hc : a ≤ c ∧ c ≤ len
  · by_cases hz : z = sz ∧ (clip = false ∨ c = len)
    · simp [hc, hz]
    · have h2 : ¬ (a ≤ c ∧ c ≤ len ∧ z = sz ∧ (clip = false ∨ c = len)) := fun h => hz h.2.2
      rw [if_neg h2]
      simp only [hc, and_self, if_true]
      simp [hz]
  · have h2 : ¬ (a ≤ c ∧ c ≤ len ∧ z = sz ∧ (clip = false ∨ c = len)) := fun h => hc ⟨h.1, h.2.1⟩
    rw [if_neg h2]
    simp only [hc, if_false]
@[go_sem] theorem sl_own_lo : aSlice sz (.own id z off len clip) (some (.int k i)) none none = if 0 ≤ i ∧ i ≤ len ∧ z = sz then some (.own id z (off + i.toNat) (len - i.toNat) clip) else none := by
  by_cases h0 : 0 ≤ i
  · rw [sl_own (a := i.toNat) (c := len) (by simp [natOr, toNat?, h0]) rfl]
    have : (i.toNat ≤ len ∧ len ≤ len ∧ z = sz ∧ (clip = false ∨ len = len)) = (0 ≤ i ∧ i ≤ len ∧ z = sz) := by
      apply propext
      constructor
      · rintro ⟨a, _, c, _⟩
        exact ⟨h0, by omega, c⟩
      · rintro ⟨a, b, c⟩
        exact ⟨by omega, Nat.le_refl _, c, .inr rfl⟩
    exact (ite_congr this (fun _ => rfl) (fun _ => rfl))
  · simp [aSlice, bounds, natOr, toNat?, h0]
@[go_sem] theorem sl_own_hi : aSlice sz (.own id z off len false) none (some (.int k i)) none = if 0 ≤ i ∧ i ≤ len ∧ z = sz then some (.own id z off i.toNat false) else none := by
  by_cases h0 : 0 ≤ i
  · rw [sl_own (a := 0) (c := i.toNat) rfl (by simp [natOr, toNat?, h0])]
    simp only [Nat.add_zero, Nat.sub_zero, true_or, and_true]
    have : (0 ≤ i.toNat ∧ i.toNat ≤ len ∧ z = sz) = (0 ≤ i ∧ i ≤ len ∧ z = sz) := by
      apply propext
      constructor
      · rintro ⟨a, b, c⟩; exact ⟨h0, by omega, c⟩
      · rintro ⟨a, b, c⟩; exact ⟨by omega, by omega, c⟩
    exact (ite_congr this (fun _ => rfl) (fun _ => rfl))
  · simp [aSlice, bounds, natOr, toNat?, h0]
end

/-! ## slices of bytes, whole -/
section
variable {b : BS} {f : Nat → Option Nat} {h : Heap}
@[go_sem] theorem ids_bs : b.av.ids = [] := by cases b <;> rfl
@[go_sem] theorem ren_bs : b.av.ren f = b.av := by cases b <;> rfl
@[go_sem] theorem ownIds_bs : b.av.ownIds = [] := by cases b <;> rfl
@[go_sem] theorem lend_bs : b.av.lend h = some b.av := by cases b <;> rfl
@[go_sem] theorem cells_bs : b.av.cells = [b.av] := by cases b <;> rfl
@[go_sem] theorem leaf_bs : b.av.leaf = true := by cases b <;> rfl
@[go_sem] theorem elems_bs : elems h b.av = some (b.l.map .byte) := by cases b <;> rfl
@[go_sem] theorem appended_bs : appended h b.av = some (b.l.map .byte) := by cases b <;> rfl
@[go_sem] theorem szIs_bs : szIs 1 b.av = true := by cases b <;> rfl
@[go_sem] theorem bytesOf_map' {l : List UInt8} : bytesOf (l.map .byte) = some l := bytesOf_map l
@[go_sem] theorem len_bs {env : List AVal} {nid : Nat} : aop (.len 1 (.c b.av)) env nid h = some (.int .i64 b.l.length, h) := by
  cases b <;> simp [aop, AOpd.ev, BS.av, BS.l]
def lenV (v : AVal) (h : Heap) : Option (AVal × Heap) := match v with
    | .view _ es _ _ => some (.int .i64 es.length, h)
    | .own _ _ _ n _ => some (.int .i64 n, h)
    | .lit (.slice none 0 0) => some (.int .i64 0, h)
    | _ => none
@[go_sem high] theorem aop_len1 {env : List AVal} {nid : Nat} {x : AOpd} : aop (.len 1 x) env nid h = lenV (x.ev env) h := rfl
@[go_sem] theorem lenV_view {z : Nat} {es : List AVal} {c t : Bool} : lenV (.view z es c t) h = some (.int .i64 es.length, h) := rfl
@[go_sem] theorem lenV_own {i z o n : Nat} {c : Bool} : lenV (.own i z o n c) h = some (.int .i64 n, h) := rfl
@[go_sem] theorem lenV_nil : lenV (.lit (.slice none 0 0)) h = some (.int .i64 0, h) := rfl
@[go_sem] theorem lenV_bs : lenV b.av h = some (.int .i64 b.l.length, h) := by cases b <;> simp [lenV, BS.av, BS.l]
end
end Go.Abs
/- SYMBOLIC EVALUATION: maps with text keys; entries, headers, records. -/
namespace Go.Abs
section
variable {env : List AVal} {nid : Nat} {h : Heap}
def lookS (zero : AVal) (ok : Bool) (k : AVal) (es : List (AVal × AVal)) (h : Heap) : Option (AVal × Heap) := match findKey k es 0 with
  | some (some (_, v)) => some (if ok then .tuple [v, .bool true] else v, h)
  | some none => some (if ok then .tuple [zero, .bool false] else zero, h)
  | none => none
def lookM (zero : AVal) (ok : Bool) (m k : AVal) (h : Heap) : Option (AVal × Heap) := match m with
  | .mapr id => match h.get id with
    | some (.map es) => lookS zero ok k es h
    | _ => none
  | _ => none
@[go_sem] theorem aop_look {kk : Nat} {zero : AVal} {m k : AOpd} {ok : Bool} : aop (.look kk zero m k ok) env nid h = if keyOk kk (k.ev env) = true then lookM zero ok (m.ev env) (k.ev env) h else none := rfl
@[go_sem] theorem lookM_mapr {zero k : AVal} {ok : Bool} {id : Nat} : lookM zero ok (.mapr id) k h = (match h.get id with
    | some (.map es) => lookS zero ok k es h
    | _ => none) := rfl
def mupdS (k v : AVal) (es : List (AVal × AVal)) (id : Nat) (h : Heap) : Option (AVal × Heap) := match findKey k es 0 with
  | some (some (i, _)) => some (.undef, h.put id (.map (setVal es i v)))
  | some none => some (.undef, h.put id (.map (es ++ [(k, v)])))
  | none => none
def mupdM (kk : Nat) (m k v : AVal) (h : Heap) : Option (AVal × Heap) := match m with
  | .mapr id => match h.get id with
    | some (.map es) => if v.flat = true ∧ keyOk kk k = true then mupdS k v es id h else none
    | _ => none
  | _ => none
@[go_sem] theorem aop_mupd {kk : Nat} {m k v : AOpd} : aop (.mupd kk m k v) env nid h = mupdM kk (m.ev env) (k.ev env) (v.ev env) h := by
  simp only [aop, mupdM]
  cases m.ev env <;> rfl
@[go_sem] theorem mupdM_mapr {kk : Nat} {k v : AVal} {id : Nat} : mupdM kk (.mapr id) k v h = (match h.get id with
    | some (.map es) => if v.flat = true ∧ keyOk kk k = true then mupdS k v es id h else none
    | _ => none) := rfl
end

/-- a map from texts to numbers, in the order of its making -/
abbrev Kinds := List (List UInt8 × Int)
def kv (e : List UInt8 × Int) : AVal × AVal := (.str e.1, .int .i64 e.2)
def lk (p : List UInt8) : Kinds → Int
  | [] => 0
  | (q, v) :: r => if p = q then v else lk p r
def putK (p : List UInt8) (v : Int) : Kinds → Kinds
  | [] => [(p, v)]
  | (q, u) :: r => if p = q then (q, v) :: r else (q, u) :: putK p v r
def atK (p : List UInt8) : Kinds → Nat → Option (Nat × AVal)
  | [], _ => none
  | (q, v) :: r, i => if p = q then some (i, .int .i64 v) else atK p r (i + 1)
theorem findKey_kv (p : List UInt8) : ∀ (ks : Kinds) (i : Nat), findKey (.str p) (ks.map kv) i = some (atK p ks i)
  | [], i => rfl
  | (q, v) :: r, i => by
    simp only [List.map_cons, kv, findKey, keyEq, atK]
    by_cases hpq : p = q
    · simp [hpq]
    · have : (p == q) = false := by simpa using hpq
      simp only [this, hpq, if_false]
      exact findKey_kv p r (i + 1)
theorem atK_lk (p : List UInt8) : ∀ (ks : Kinds) (i : Nat), (match atK p ks i with | some (_, v) => v | none => .int .i64 0) = .int .i64 (lk p ks)
  | [], i => rfl
  | (q, v) :: r, i => by
    unfold atK lk
    by_cases hpq : p = q
    · simp [hpq]
    · simp only [hpq, if_false]
      exact atK_lk p r (i + 1)
@[go_sem] theorem lookS_kv {p : List UInt8} {ks : Kinds} {h : Heap} : lookS (.int .i64 0) false (.str p) (ks.map kv) h = some (.int .i64 (lk p ks), h) := by
  unfold lookS
  rw [findKey_kv, ← atK_lk p ks 0]
  cases atK p ks 0 <;> simp
theorem atK_put (p : List UInt8) (v : Int) : ∀ (ks : Kinds) (i : Nat), (match atK p ks i with | some (j, _) => setVal (ks.map kv) (j - i) (.int .i64 v) | none => ks.map kv ++ [(.str p, .int .i64 v)]) = (putK p v ks).map kv ∧ (∀ j u, atK p ks i = some (j, u) → i ≤ j)
  | [], i => ⟨rfl, by simp [atK]⟩
  | (q, u) :: r, i => by
    unfold atK putK
    by_cases hpq : p = q
    · simp [hpq, setVal, kv]
    · simp only [hpq, if_false]
      obtain ⟨h1, h2⟩ := atK_put p v r (i + 1)
      constructor
      · rw [List.map_cons (l := putK p v r), ← h1]
        cases hat : atK p r (i + 1) with
        | none => simp
        | some x =>
          obtain ⟨j, w⟩ := x
          have := h2 j w hat
          have e : j - i = (j - (i + 1)) + 1 := by omega
          simp only [e, List.map_cons, setVal, kv]
      · intro j w hj
        have := h2 j w hj
        omega
@[go_sem] theorem mupdS_kv {p : List UInt8} {v : Int} {ks : Kinds} {id : Nat} {h : Heap} : mupdS (.str p) (.int .i64 v) (ks.map kv) id h = some (.undef, h.put id (.map ((putK p v ks).map kv))) := by
  unfold mupdS
  rw [findKey_kv, ← (atK_put p v ks 0).1]
  cases hat : atK p ks 0 with
  | none => rfl
  | some x => rfl
@[go_sem] theorem keyOk_str {p : List UInt8} : keyOk 0 (.str p) = true := rfl

/-! ## entries -/
structure Ent where
  path : List UInt8
  kind : Int
  mode : Int
  uid : Int
  gid : Int
  time : Int
  link : List UInt8
  data : BS
def Ent.av (e : Ent) : AVal := .agg [.str e.path, .int .i64 e.kind, .int .i64 e.mode, .int .i64 e.uid, .int .i64 e.gid, .int .i64 e.time, .str e.link, e.data.av]
attribute [go_sem] Ent.av
@[go_sem] theorem cells_ent {e : Ent} : e.av.cells = [.str e.path, .int .i64 e.kind, .int .i64 e.mode, .int .i64 e.uid, .int .i64 e.gid, .int .i64 e.time, .str e.link, e.data.av] := rfl
theorem rowEnt {t : List Ent} : RowOf 8 (t.map Ent.av) := RowOf.map fun _ => rfl
/-- an error -/
def errV (n : Int) : AVal := if n = 0 then .lit .nilIface else .iface 58 (.int .i64 n)

/-! ## append; what is handed over -/
section
variable {bytes sz nid id z off len i o : Nat} {clip tmp : Bool} {xs es cs r : List AVal} {h : Heap} {c v : AVal} {k k' : IntKind} {b : BS} {env : List AVal} {x : AOpd} {lo hi mx : Option AOpd} {p q : Int}
@[go_sem] theorem appendTo_nil : appendTo bytes sz (.lit (.slice none 0 0)) xs nid h = if xs.isEmpty then some (.lit (.slice none 0 0), h) else
    if xs.length * bytes ≤ roomMax ∧ xs.length < roomMax then some (.own nid sz 0 xs.length false, h ++ [(nid, .row xs sz)]) else none := rfl
@[go_sem] theorem appendTo_view : appendTo bytes sz (.view z es true tmp) xs nid h = if xs.isEmpty then some (.view z es true tmp, h) else
    if z = sz ∧ (es.length + xs.length) * bytes ≤ roomMax ∧ es.length + xs.length < roomMax then
      some (.own nid sz 0 (es.length + xs.length) false, h ++ [(nid, .row (es ++ xs) sz)]) else none := rfl
@[go_sem] theorem appendTo_own : appendTo bytes sz (.own id z 0 len false) xs nid h = (match h.get id with
    | some (.row es _) =>
      if z = sz ∧ len ≤ es.length ∧ (len + xs.length) * bytes ≤ roomMax ∧ len + xs.length < roomMax then
        some (.own nid sz 0 (len + xs.length) false, h.del id ++ [(nid, .row (es.take len ++ xs) sz)])
      else none
    | _ => none) := rfl
@[go_sem] theorem appendTo_ownc : appendTo bytes sz (.own id z 0 len true) xs nid h = (match h.get id with
    | some (.row es _) =>
      if z = sz ∧ len ≤ es.length ∧ (len + xs.length) * bytes ≤ roomMax ∧ len + xs.length < roomMax then
        if xs.isEmpty then some (.own id z 0 len true, h) else
        some (.own nid sz 0 (len + xs.length) false, h ++ [(nid, .row (es.take len ++ xs) sz)])
      else none
    | _ => none) := rfl
@[go_sem] theorem consume1_own : consume1 h (.own id z off len clip) = (match h.get id with
    | some (.row es _) => if off + len ≤ es.length then some (.view z ((es.drop off).take len) clip false, h.del id) else none
    | _ => none) := rfl
@[go_sem] theorem consume1_int {n : Int} : consume1 h (.int k n) = some (.int k n, h) := rfl
@[go_sem] theorem consume1_str {l : List UInt8} : consume1 h (.str l) = some (.str l, h) := rfl
@[go_sem] theorem consume1_bool {t : Bool} : consume1 h (.bool t) = some (.bool t, h) := rfl
@[go_sem] theorem consume1_lit {t : Value} : consume1 h (.lit t) = some (.lit t, h) := rfl
@[go_sem] theorem consume1_view : consume1 h (.view z es clip tmp) = some (.view z es clip tmp, h) := rfl
@[go_sem] theorem consume1_bs : consume1 h b.av = some (b.av, h) := by cases b <;> rfl
@[go_sem] theorem consumeCs_nil : consumeCs h [] = some ([], h) := rfl
@[go_sem] theorem consumeCs_cons : consumeCs h (c :: r) = (consume1 h c).bind fun x => (consumeCs x.2 r).bind fun y => some (x.1 :: y.1, y.2) := rfl
@[go_sem] theorem consume_agg : consume h (.agg cs) = (consumeCs h cs).bind fun x => some (.agg x.1, x.2) := by
  simp only [consume]
  cases consumeCs h cs <;> rfl
@[go_sem] theorem consume_int {n : Int} : consume h (.int k n) = some (.int k n, h) := rfl
@[go_sem] theorem consume_str {l : List UInt8} : consume h (.str l) = some (.str l, h) := rfl
@[go_sem] theorem consume_own : consume h (.own id z off len clip) = consume1 h (.own id z off len clip) := rfl
@[go_sem] theorem consume_bs : consume h b.av = some (b.av, h) := by cases b <;> rfl
@[go_sem] theorem consumeL_nil : consumeL h [] = some ([], h) := rfl
@[go_sem] theorem consumeL_cons : consumeL h (c :: r) = (consume h c).bind fun x => (consumeL x.2 r).bind fun y => some (x.1 :: y.1, y.2) := rfl
attribute [go_sem] allSz

def BS.isNil : BS → Bool
  | .nil => true
  | .mk .. => false
@[go_sem] theorem aBin_bs_eql {cst : Bool} : aBin .eql .slice cst b.av (.lit (.slice none 0 0)) = some (.bool b.isNil) := by cases b <;> rfl
@[go_sem] theorem aBin_bs_neq {cst : Bool} : aBin .neq .slice cst b.av (.lit (.slice none 0 0)) = some (.bool (!b.isNil)) := by cases b <;> rfl
@[go_sem] theorem flat_bs : b.av.flat = !b.isTmp := by
  cases b with
  | nil => rfl
  | mk clip tmp l => cases tmp <;> rfl
@[go_sem] theorem noTmp_bs : b.av.noTmp = !b.isTmp := by
  cases b with
  | nil => rfl
  | mk clip tmp l => rfl

/-- a part of a slice -/
def slcV (sz : Nat) (v : AVal) (lo hi mx : Option AVal) (h : Heap) : Option (AVal × Heap) := match v with
    | .str _ => none
    | v => (aSlice sz v lo hi mx).map (·, h)
@[go_sem high] theorem aop_slcV : aop (.slc sz x lo hi mx) env nid h = slcV sz (x.ev env) (lo.map (·.ev env)) (hi.map (·.ev env)) (mx.map (·.ev env)) h := rfl
variable {lv hv mv : Option AVal}
@[go_sem] theorem slcV_view : slcV sz (.view z es clip tmp) lv hv mv h = (aSlice sz (.view z es clip tmp) lv hv mv).map (·, h) := rfl
@[go_sem] theorem slcV_own : slcV sz (.own id z off len clip) lv hv mv h = (aSlice sz (.own id z off len clip) lv hv mv).map (·, h) := rfl
@[go_sem] theorem slcV_nil : slcV sz (.lit (.slice none 0 0)) lv hv mv h = (aSlice sz (.lit (.slice none 0 0)) lv hv mv).map (·, h) := rfl
@[go_sem] theorem slcV_bs : slcV sz b.av lv hv mv h = (aSlice sz b.av lv hv mv).map (·, h) := by cases b <;> rfl
@[go_sem] theorem sl_own_clip : aSlice sz (.own id z off len clip) none (some (.int k len)) (some (.int k' len)) = if z = sz then some (.own id z off len true) else none := by
  simp [aSlice, bounds, natOr, toNat?]
@[go_sem] theorem sl_nil_clip : aSlice sz (.lit (.slice none 0 0)) none (some (.int k 0)) (some (.int k' 0)) = some (.lit (.slice none 0 0)) := by
  simp [aSlice, bounds, natOr, toNat?]
@[go_sem] theorem sl_view_clip {α : Type} {l : List α} {f : α → AVal} : aSlice sz (.view z (l.map f) clip tmp) none (some (.int k l.length)) (some (.int k' l.length)) = if z = sz then some (.view z (l.map f) true tmp) else none := by
  simp [aSlice, bounds, natOr, toNat?, clipOf, take_map_len]
def BS.clipped : BS → BS
  | .nil => .nil
  | .mk _ t l => .mk true t l
@[go_sem] theorem sl_bs_clip : aSlice 1 b.av none (some (.int k b.l.length)) (some (.int k' b.l.length)) = some b.clipped.av := by
  cases b with
  | nil => simp [aSlice, bounds, natOr, toNat?, BS.av, BS.l, BS.clipped]
  | mk c t l => simp [aSlice, bounds, natOr, toNat?, BS.av, BS.l, BS.clipped, clipOf, take_map_len]
@[go_sem] theorem mk_l {t : Bool} {l : List UInt8} : (BS.mk clip t l).l = l := rfl
end
@[go_sem] theorem av_nil : BS.av .nil = .lit (.slice none 0 0) := rfl
@[go_sem] theorem l_nil : BS.l .nil = [] := rfl
@[go_sem] theorem one_slice : (Value.slice none 0 0).oneCell' = true := rfl
@[go_sem] theorem one_iface : Value.nilIface.oneCell' = true := rfl
@[go_sem] theorem one_ptr : (Value.pointer none).oneCell' = true := rfl
@[go_sem] theorem one_map : (Value.map none).oneCell' = true := rfl
def BS.cp : BS → BS
  | .nil => .nil
  | .mk _ _ l => .mk false false l
@[go_sem] theorem cp_nil : BS.cp .nil = .nil := rfl
@[go_sem] theorem cp_mk {c t : Bool} {l : List UInt8} : BS.cp (.mk c t l) = .mk false false l := rfl
theorem cp_l {b : BS} : b.cp.l = b.l := by cases b <;> rfl
/-- an entry, copied -/
def Ent.cp (e : Ent) : Ent := { e with data := e.data.cp }
def Ent.cav (e : Ent) : AVal := .agg [.str e.path, .int .i64 e.kind, .int .i64 e.mode, .int .i64 e.uid, .int .i64 e.gid, .int .i64 e.time, .str e.link, e.data.cp.av]
theorem cav_eq {t : List Ent} : t.map Ent.cav = (t.map Ent.cp).map Ent.av := by
  rw [List.map_map]
  rfl
theorem rowCav {t : List Ent} : RowOf 8 (t.map Ent.cav) := RowOf.map fun _ => rfl
theorem mk_av {c t : Bool} {l : List UInt8} : BS.av (.mk c t l) = .view 1 (l.map .byte) c t := rfl

/-! ## rows of bytes -/
@[go_sem] theorem rep_byte {n : Nat} : List.replicate n (AVal.int .u8 0) = (List.replicate n (0 : UInt8)).map .byte := by
  rw [List.map_replicate]
  rfl
@[go_sem] theorem row_copy {off n q : Nat} {bs xs : List UInt8} : List.take off (bs.map AVal.byte) ++ List.take n (xs.map AVal.byte) ++ List.drop q (bs.map AVal.byte) = (bs.take off ++ xs.take n ++ bs.drop q).map .byte := by
  simp
attribute [go_sem] List.headD_cons
theorem and7 {x : Int} (h0 : 0 ≤ x) (h1 : x ≤ 9223372036854775807) : ((BitVec.ofInt 64 x &&& BitVec.ofInt 64 7).toNat : Int) = x % 8 := by
  rw [BitVec.toNat_and]
  have e1 : (BitVec.ofInt 64 x).toNat = x.toNat := by
    rw [BitVec.toNat_ofInt]
    congr 1
    omega
  have e2 : (BitVec.ofInt 64 7).toNat = 2 ^ 3 - 1 := by rfl
  rw [e1, e2, Nat.and_two_pow_sub_one_eq_mod]
  omega
@[go_sem] theorem bits_i64 : IntKind.i64.bits = 64 := rfl
@[go_sem] theorem shr3 {x : Int} : x.fdiv (2 ^ (min 3 64)) = x / 8 := by
  have : (2 : Int) ^ (min 3 64) = 8 := rfl
  rw [this]
  exact Int.fdiv_eq_ediv_of_nonneg _ (by omega)
/-! ## headers -/
structure Hd where
  path : List UInt8
  mode : Int
  uid : Int
  gid : Int
  size : Int
  time : Int
  type : UInt8
  link : List UInt8
def Hd.av (h : Hd) : AVal := .agg [.str h.path, .int .i64 h.mode, .int .i64 h.uid, .int .i64 h.gid, .int .i64 h.size, .int .i64 h.time, .int .u8 h.type.toNat, .str h.link]
attribute [go_sem] Hd.av
end Go.Abs
