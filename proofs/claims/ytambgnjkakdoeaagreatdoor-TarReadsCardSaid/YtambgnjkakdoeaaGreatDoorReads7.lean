import Derived.Test.YtambgnjkakdoeaaGreatDoorReads6
import Derived.Below
import Derived.BigFrameIn
import Derived.ChangeArms
import Derived.ChangeSlices
import Derived.Ground.NamesProg
import Derived.Lib.BytesEntry
import Derived.LoopIn
import Derived.LoopNIn
import Derived.OwnWalkIn
import Derived.ProofKit
import Derived.Shelf.Abstract
import Derived.Shelf.Strconv.AtoiAll
import Derived.Shelf.Strconv.Itoa4
import Derived.Shelf.Unicode.ValidAny
import Derived.TacticsInMore
import Derived.Test.YtambgnjkakdoeaaGreatDoorProg
import Derived.WalkKit
/- PART OF A PROOF (texts joined by a program): F1 Shelf P1 R0 N9 B8 B9 B10 B5. -/
set_option linter.unusedVariables false
set_option linter.unusedSimpArgs false
set_option linter.unusedSectionVars false
namespace Go.Abs
open Am
set_option maxRecDepth 10000
theorem s227 (s : List UInt8) (c : Int) : callT AA 227 [.str s, .int .u8 c] [] = some (.int .i64 (Lib.indexByte s c.toNat.toUInt8), []) := by
  refine enter fn227 np227 rfl ?_
  simp (maxSteps:=2000000) (disch:=first | omega | (repeat' (first | exact RowOf.strs | exact RowOf.bytes | exact RowOf.nil | exact RowOf.replicate rfl | refine RowOf.append ?_ ?_ | refine RowOf.cons rfl ?_))) only [b227, go_sem, Nat.reduceAdd, Nat.reduceSub, Nat.reduceMul, Nat.reduceLT, Nat.reduceLeDiff, Nat.reduceEqDiff, Nat.reduceBEq, Int.reduceLT, Int.reduceLE, Int.reduceEq, Int.reduceToNat, ↓reduceIte, reduceCtorEq, decide_true, decide_false, Bool.not_true, Bool.not_false, Bool.and_true, Bool.and_false, Bool.true_and, Bool.false_and, Bool.or_true, Bool.or_false, Bool.true_or, Bool.false_or, List.isEmpty_nil, List.isEmpty_cons, Bool.false_eq_true, true_and, and_true, Nat.zero_le, Nat.not_lt_zero, beq_self_eq_true, List.length_nil, wrap_i64, wrap_u8, wrap_i32, wrap_u32, wrap_u64, Option.some.injEq, forall_eq', Int.natCast_zero, Int.natCast_one, cast_lit, Int.toNat_natCast, eq_self, if_true, if_false, u8_back, decide_eq_true, decide_eq_false, toNat_succ, Int.natCast_add, Nat.le_refl, Int.le_refl, beq_true, beq_false, true_or, or_true, false_or, or_false]
theorem index_one (c : UInt8) : Lib.indexByte [c] c = 0 := by simp [Lib.indexByte]
theorem s202 (s : List UInt8) (c : UInt8) : callT AA 202 [.str s, .str [c]] [] = some (.int .i64 (Lib.indexByte s c), []) := by
  refine enter fn202 np202 rfl ?_
  have gg:=trivial;repeat' first|simp (maxSteps:=2000000) (disch:=first | omega | (repeat' (first | exact RowOf.strs | exact RowOf.bytes | exact RowOf.nil | exact RowOf.replicate rfl | refine RowOf.append ?_ ?_ | refine RowOf.cons rfl ?_))) only [gg,b202,s227,go_sem,Nat.reduceAdd,Nat.reduceSub,Nat.reduceMul,Nat.reduceLT,Nat.reduceLeDiff,Nat.reduceEqDiff,Nat.reduceBEq,Int.reduceLT,Int.reduceLE,Int.reduceEq,Int.reduceToNat,↓reduceIte,reduceCtorEq,decide_true,decide_false,Bool.not_true,Bool.not_false,Bool.and_true,Bool.and_false,Bool.true_and,Bool.false_and,Bool.or_true,Bool.or_false,Bool.true_or,Bool.false_or,List.isEmpty_nil,List.isEmpty_cons,Bool.false_eq_true,true_and,and_true,Nat.zero_le,Nat.not_lt_zero,beq_self_eq_true,List.length_nil,wrap_i64,wrap_u8,wrap_i32,wrap_u32,wrap_u64,Option.some.injEq,forall_eq',Int.natCast_zero,Int.natCast_one,cast_lit,Int.toNat_natCast,eq_self,if_true,if_false,u8_back,decide_eq_true,decide_eq_false,toNat_succ,Int.natCast_add,Nat.le_refl,Int.le_refl,beq_true,beq_false,true_or,or_true,false_or,or_false]|(refine br ?_ ?_<;>intro gg<;>try omega)|(apply And.intro;focus omega)|omega
  all_goals (first | subst hg | subst gg | skip)
  all_goals (try simp [index_one])
theorem s237 (s : List UInt8) (c : UInt8) : callT AA 237 [.str s, .str [c]] [] = some (.int .i64 (Lib.indexByte s c), []) := by
  refine enter fn237 np237 rfl ?_
  simp (maxSteps:=2000000) (disch:=first | omega | (repeat' (first | exact RowOf.strs | exact RowOf.bytes | exact RowOf.nil | exact RowOf.replicate rfl | refine RowOf.append ?_ ?_ | refine RowOf.cons rfl ?_))) only [b237, s202, go_sem, Nat.reduceAdd, Nat.reduceSub, Nat.reduceMul, Nat.reduceLT, Nat.reduceLeDiff, Nat.reduceEqDiff, Nat.reduceBEq, Int.reduceLT, Int.reduceLE, Int.reduceEq, Int.reduceToNat, ↓reduceIte, reduceCtorEq, decide_true, decide_false, Bool.not_true, Bool.not_false, Bool.and_true, Bool.and_false, Bool.true_and, Bool.false_and, Bool.or_true, Bool.or_false, Bool.true_or, Bool.false_or, List.isEmpty_nil, List.isEmpty_cons, Bool.false_eq_true, true_and, and_true, Nat.zero_le, Nat.not_lt_zero, beq_self_eq_true, List.length_nil, wrap_i64, wrap_u8, wrap_i32, wrap_u32, wrap_u64, Option.some.injEq, forall_eq', Int.natCast_zero, Int.natCast_one, cast_lit, Int.toNat_natCast, eq_self, if_true, if_false, u8_back, decide_eq_true, decide_eq_false, toNat_succ, Int.natCast_add, Nat.le_refl, Int.le_refl, beq_true, beq_false, true_or, or_true, false_or, or_false]
theorem s246 (s : List UInt8) (c : UInt8)  : callT AA 246 [.str s, .str [c]] [] = some (.int .i64 (Lib.countByte s c), []) := by
  refine enter fn246 np246 rfl ?_
  have gg:=trivial;repeat' first|simp (maxSteps:=2000000) (disch:=first | omega | (repeat' (first | exact RowOf.strs | exact RowOf.bytes | exact RowOf.nil | exact RowOf.replicate rfl | refine RowOf.append ?_ ?_ | refine RowOf.cons rfl ?_))) only [gg,b246,s237,go_sem,Nat.reduceAdd,Nat.reduceSub,Nat.reduceMul,Nat.reduceLT,Nat.reduceLeDiff,Nat.reduceEqDiff,Nat.reduceBEq,Int.reduceLT,Int.reduceLE,Int.reduceEq,Int.reduceToNat,↓reduceIte,reduceCtorEq,decide_true,decide_false,Bool.not_true,Bool.not_false,Bool.and_true,Bool.and_false,Bool.true_and,Bool.false_and,Bool.or_true,Bool.or_false,Bool.true_or,Bool.false_or,List.isEmpty_nil,List.isEmpty_cons,Bool.false_eq_true,true_and,and_true,Nat.zero_le,Nat.not_lt_zero,beq_self_eq_true,List.length_nil,wrap_i64,wrap_u8,wrap_i32,wrap_u32,wrap_u64,Option.some.injEq,forall_eq',Int.natCast_zero,Int.natCast_one,cast_lit,Int.toNat_natCast,eq_self,if_true,if_false,u8_back,decide_eq_true,decide_eq_false,toNat_succ,Int.natCast_add,Nat.le_refl,Int.le_refl,beq_true,beq_false,true_or,or_true,false_or,or_false]|(refine br ?_ ?_<;>intro gg<;>try omega)|(apply And.intro;focus omega)|omega
theorem s192 (s : List UInt8) (c : Int) : callT AA 192 [.str s, .int .u8 c] [] = some (.int .i64 (Lib.indexByte s c.toNat.toUInt8), []) := by
  refine enter fn192 np192 rfl ?_
  simp (maxSteps:=2000000) (disch:=first | omega | (repeat' (first | exact RowOf.strs | exact RowOf.bytes | exact RowOf.nil | exact RowOf.replicate rfl | refine RowOf.append ?_ ?_ | refine RowOf.cons rfl ?_))) only [b192, s227, go_sem, Nat.reduceAdd, Nat.reduceSub, Nat.reduceMul, Nat.reduceLT, Nat.reduceLeDiff, Nat.reduceEqDiff, Nat.reduceBEq, Int.reduceLT, Int.reduceLE, Int.reduceEq, Int.reduceToNat, ↓reduceIte, reduceCtorEq, decide_true, decide_false, Bool.not_true, Bool.not_false, Bool.and_true, Bool.and_false, Bool.true_and, Bool.false_and, Bool.or_true, Bool.or_false, Bool.true_or, Bool.false_or, List.isEmpty_nil, List.isEmpty_cons, Bool.false_eq_true, true_and, and_true, Nat.zero_le, Nat.not_lt_zero, beq_self_eq_true, List.length_nil, wrap_i64, wrap_u8, wrap_i32, wrap_u32, wrap_u64, Option.some.injEq, forall_eq', Int.natCast_zero, Int.natCast_one, cast_lit, Int.toNat_natCast, eq_self, if_true, if_false, u8_back, decide_eq_true, decide_eq_false, toNat_succ, Int.natCast_add, Nat.le_refl, Int.le_refl, beq_true, beq_false, true_or, or_true, false_or, or_false]
theorem s225 (s : List UInt8) (c : UInt8) : callT AA 225 [.str s, .str [c]] [] = some (.bool (decide (0 ≤ Lib.indexByte s c)), []) := by
  refine enter fn225 np225 rfl ?_
  simp (maxSteps:=2000000) (disch:=first | omega | (repeat' (first | exact RowOf.strs | exact RowOf.bytes | exact RowOf.nil | exact RowOf.replicate rfl | refine RowOf.append ?_ ?_ | refine RowOf.cons rfl ?_))) only [b225, s237, go_sem, Nat.reduceAdd, Nat.reduceSub, Nat.reduceMul, Nat.reduceLT, Nat.reduceLeDiff, Nat.reduceEqDiff, Nat.reduceBEq, Int.reduceLT, Int.reduceLE, Int.reduceEq, Int.reduceToNat, ↓reduceIte, reduceCtorEq, decide_true, decide_false, Bool.not_true, Bool.not_false, Bool.and_true, Bool.and_false, Bool.true_and, Bool.false_and, Bool.or_true, Bool.or_false, Bool.true_or, Bool.false_or, List.isEmpty_nil, List.isEmpty_cons, Bool.false_eq_true, true_and, and_true, Nat.zero_le, Nat.not_lt_zero, beq_self_eq_true, List.length_nil, wrap_i64, wrap_u8, wrap_i32, wrap_u32, wrap_u64, Option.some.injEq, forall_eq', Int.natCast_zero, Int.natCast_one, cast_lit, Int.toNat_natCast, eq_self, if_true, if_false, u8_back, decide_eq_true, decide_eq_false, toNat_succ, Int.natCast_add, Nat.le_refl, Int.le_refl, beq_true, beq_false, true_or, or_true, false_or, or_false]
theorem set_mid {α : Type} {a r : List α} {x y : α} {n : Nat} (h : n = a.length) : (a ++ x :: r).set n y = a ++ y :: r := by subst h; simp
theorem h223 (c : UInt8) (parts : List (List UInt8)) : ∀ (k : Nat) (s : List UInt8) (done : List (List UInt8)) (n i : Int) (q : Nat), Lib.countByte s c = k → s.length ≤ 1000000 → done.length + k ≤ 1000000 → parts = done ++ splitOn c s → n = done.length + k → i = done.length → q = done.length + k + 1 →
    HD AA 0 [0, 1, 2, 3, 8, 9, 10] l223_0 ⟨[.str s, .str [c], .int .i64 0, .int .i64 n, .junk, .junk, .junk, .junk, .lit (.slice none 0 0), .own 0 1 0 q false, .int .i64 i, .junk, .junk, .junk, .junk, .junk, .junk, .junk, .junk, .junk, .junk, .junk, .junk, .junk, .junk, .junk, .junk, .junk, .junk, .junk, .junk, .junk, .junk, .junk, .junk, .junk, .junk, .junk, .junk, .junk, .junk, .junk, .junk, .junk, .junk, .junk, .junk, .junk, .junk, .junk, .junk, .junk, .junk, .junk, .junk, .junk, .junk, .junk, .junk, .junk, .junk, .junk, .junk, .junk, .junk, .junk], [(0, .row (done.map .str ++ .str [] :: List.replicate k (.str [])) 1)], 1⟩ [.blk 0, .code r223_0] (Fin [(8, none)] 0 (.own 0 1 0 parts.length false) [(0, .row (parts.map .str) 1)]) := by
  intro k s done n i q h1 h2 h3 h4 h5 h6 h7
  have i1 := Lib.indexByte_ge s c
  have i2 := @indexByte_lt s c
  have hm : (done.map AVal.str).length = done.length := by simp
  have hi6 : i.toNat = done.length := by omega
  by_cases hi : Lib.indexByte s c < 0
  · obtain ⟨e1, e2⟩ := split_none hi
    have : k = 0 := by omega
    subst this
    rw [e1] at h4
    subst h4
    refine hd_of (by unfold l223_0; rfl) ?_
    have gg:=trivial;repeat' first|simp (maxSteps:=2000000) (disch:=first | omega | (repeat' (first | exact RowOf.strs | exact RowOf.bytes | exact RowOf.nil | exact RowOf.replicate rfl | refine RowOf.append ?_ ?_ | refine RowOf.cons rfl ?_))) only [gg,s237,r223_0,set_mid,List.map_append,hi6,List.replicate_zero,go_sem,Nat.reduceAdd,Nat.reduceSub,Nat.reduceMul,Nat.reduceLT,Nat.reduceLeDiff,Nat.reduceEqDiff,Nat.reduceBEq,Int.reduceLT,Int.reduceLE,Int.reduceEq,Int.reduceToNat,↓reduceIte,reduceCtorEq,decide_true,decide_false,Bool.not_true,Bool.not_false,Bool.and_true,Bool.and_false,Bool.true_and,Bool.false_and,Bool.or_true,Bool.or_false,Bool.true_or,Bool.false_or,List.isEmpty_nil,List.isEmpty_cons,Bool.false_eq_true,true_and,and_true,Nat.zero_le,Nat.not_lt_zero,beq_self_eq_true,List.length_nil,wrap_i64,wrap_u8,wrap_i32,wrap_u32,wrap_u64,Option.some.injEq,forall_eq',Int.natCast_zero,Int.natCast_one,cast_lit,Int.toNat_natCast,eq_self,if_true,if_false,u8_back,decide_eq_true,decide_eq_false,toNat_succ,Int.natCast_add,Nat.le_refl,Int.le_refl,beq_true,beq_false,true_or,or_true,false_or,or_false]|(refine br ?_ ?_<;>intro gg<;>try omega)|(apply And.intro;focus omega)|omega
  · obtain ⟨e1, e2⟩ := split_some (s := s) (c := c) (by first | omega | (simp; omega) | (simp; done))
    refine hd_of (by unfold l223_0; rfl) ?_
    obtain ⟨k', rfl⟩ : ∃ k', k = k' + 1 := ⟨k - 1, by omega⟩
    have gg:=trivial;repeat' first|simp (maxSteps:=2000000) (disch:=first | omega | (repeat' (first | exact RowOf.strs | exact RowOf.bytes | exact RowOf.nil | exact RowOf.replicate rfl | refine RowOf.append ?_ ?_ | refine RowOf.cons rfl ?_))) only [gg,s237,set_mid,hi6,lp_head,List.replicate_succ,go_sem,Nat.reduceAdd,Nat.reduceSub,Nat.reduceMul,Nat.reduceLT,Nat.reduceLeDiff,Nat.reduceEqDiff,Nat.reduceBEq,Int.reduceLT,Int.reduceLE,Int.reduceEq,Int.reduceToNat,↓reduceIte,reduceCtorEq,decide_true,decide_false,Bool.not_true,Bool.not_false,Bool.and_true,Bool.and_false,Bool.true_and,Bool.false_and,Bool.or_true,Bool.or_false,Bool.true_or,Bool.false_or,List.isEmpty_nil,List.isEmpty_cons,Bool.false_eq_true,true_and,and_true,Nat.zero_le,Nat.not_lt_zero,beq_self_eq_true,List.length_nil,wrap_i64,wrap_u8,wrap_i32,wrap_u32,wrap_u64,Option.some.injEq,forall_eq',Int.natCast_zero,Int.natCast_one,cast_lit,Int.toNat_natCast,eq_self,if_true,if_false,u8_back,decide_eq_true,decide_eq_false,toNat_succ,Int.natCast_add,Nat.le_refl,Int.le_refl,beq_true,beq_false,true_or,or_true,false_or,or_false]|(refine br ?_ ?_<;>intro gg<;>try omega)|(apply And.intro;focus omega)|omega
    have ih := h223 c parts k' (s.drop ((Lib.indexByte s c).toNat + 1)) (done ++ [s.take (Lib.indexByte s c).toNat]) n (i + 1) q (by first | omega | (simp; omega) | (simp; done)) (by first | omega | (simp; omega) | (simp; done)) (by first | omega | (simp; omega) | (simp; done)) (by rw [h4, e1]; simp) (by first | omega | (simp; omega) | (simp; done)) (by first | omega | (simp; omega) | (simp; done)) (by first | omega | (simp; omega) | (simp; done))
    simp only [List.map_append, List.append_assoc, List.map_cons, List.map_nil, List.cons_append, List.nil_append] at ih
    exact ih
theorem s223 (s : List UInt8) (c : UInt8) (hs : s.length ≤ 1000000) : callT AA 223 [.str s, .str [c], .int .i64 0, .int .i64 (-1)] [] = some (.own 0 1 0 (splitOn c s).length false, [(0, .row ((splitOn c s).map .str) 1)]) := by
  have hc := count_le s c
  have hl := split_length c s
  refine enter fn223 np223 rfl ?_
  have gg:=trivial;repeat' first|simp (maxSteps:=2000000) (disch:=first | omega | (repeat' (first | exact RowOf.strs | exact RowOf.bytes | exact RowOf.nil | exact RowOf.replicate rfl | refine RowOf.append ?_ ?_ | refine RowOf.cons rfl ?_))) only [gg,b223,s237,s246,if_neg,List.headD_cons,lp_head,List.replicate_succ,go_sem,Nat.reduceAdd,Nat.reduceSub,Nat.reduceMul,Nat.reduceLT,Nat.reduceLeDiff,Nat.reduceEqDiff,Nat.reduceBEq,Int.reduceLT,Int.reduceLE,Int.reduceEq,Int.reduceToNat,↓reduceIte,reduceCtorEq,decide_true,decide_false,Bool.not_true,Bool.not_false,Bool.and_true,Bool.and_false,Bool.true_and,Bool.false_and,Bool.or_true,Bool.or_false,Bool.true_or,Bool.false_or,List.isEmpty_nil,List.isEmpty_cons,Bool.false_eq_true,true_and,and_true,Nat.zero_le,Nat.not_lt_zero,beq_self_eq_true,List.length_nil,wrap_i64,wrap_u8,wrap_i32,wrap_u32,wrap_u64,Option.some.injEq,forall_eq',Int.natCast_zero,Int.natCast_one,cast_lit,Int.toNat_natCast,eq_self,if_true,if_false,u8_back,decide_eq_true,decide_eq_false,toNat_succ,Int.natCast_add,Nat.le_refl,Int.le_refl,beq_true,beq_false,true_or,or_true,false_or,or_false]|(refine br ?_ ?_<;>intro gg<;>try omega)|(apply And.intro;focus omega)|omega
  exact h223 c _ _ s [] _ _ _ rfl hs (by first | omega | (simp; omega) | (simp; done)) rfl (by first | omega | (simp; omega) | (simp; done)) (by simp) (by first | omega | (simp; omega) | (simp; done))
theorem s187 (s : List UInt8) (c : UInt8) (hs : s.length ≤ 1000000) : callT AA 187 [.str s, .str [c]] [] = some (.own 0 1 0 (splitOn c s).length false, [(0, .row ((splitOn c s).map .str) 1)]) := by
  have h := s223 s c hs
  refine enter fn187 np187 rfl ?_
  have gg:=trivial;repeat' first|simp (maxSteps:=2000000) (disch:=first | omega | (repeat' (first | exact RowOf.strs | exact RowOf.bytes | exact RowOf.nil | exact RowOf.replicate rfl | refine RowOf.append ?_ ?_ | refine RowOf.cons rfl ?_))) only [gg,b187,h,go_sem,Nat.reduceAdd,Nat.reduceSub,Nat.reduceMul,Nat.reduceLT,Nat.reduceLeDiff,Nat.reduceEqDiff,Nat.reduceBEq,Int.reduceLT,Int.reduceLE,Int.reduceEq,Int.reduceToNat,↓reduceIte,reduceCtorEq,decide_true,decide_false,Bool.not_true,Bool.not_false,Bool.and_true,Bool.and_false,Bool.true_and,Bool.false_and,Bool.or_true,Bool.or_false,Bool.true_or,Bool.false_or,List.isEmpty_nil,List.isEmpty_cons,Bool.false_eq_true,true_and,and_true,Nat.zero_le,Nat.not_lt_zero,beq_self_eq_true,List.length_nil,wrap_i64,wrap_u8,wrap_i32,wrap_u32,wrap_u64,Option.some.injEq,forall_eq',Int.natCast_zero,Int.natCast_one,cast_lit,Int.toNat_natCast,eq_self,if_true,if_false,u8_back,decide_eq_true,decide_eq_false,toNat_succ,Int.natCast_add,Nat.le_refl,Int.le_refl,beq_true,beq_false,true_or,or_true,false_or,or_false]|(refine br ?_ ?_<;>intro gg<;>try omega)|(apply And.intro;focus omega)|omega
end Go.Abs
namespace Go.Proofs
open Go.Shelf
def Tryz.laysValid_ren : Go.Shelf.Ren := ⟨fun | 196 => 191 | 259 => 226 | n => n, fun | 9 => 9 | 4 => 4 | 3 => 3 | 5 => 5 | 12 => 12 | 119 => 252 | 0 => 0 | 46 => 78 | 139 => 255 | 138 => 254 | 53 => 80 | n => n, fun | 3 => 2 | 4 => 3 | n => n⟩
theorem Tryz.laysValid : Go.Proofs.Lays.n196 Tryz.prog Tryz.laysValid_ren := {
  mixed := by kernel_rfl
  f196 := Tryz.func191.trans (congrArg some (by kernel_rfl))
  f259 := Tryz.func226.trans (congrArg some (by kernel_rfl))
  t0 := Tryz.underlying0
  a0 := Tryz.isAgg0
  z0 := Tryz.sizeOf0
  v0 := Tryz.zeroValue0
  t3 := Tryz.underlying3
  a3 := Tryz.isAgg3
  z3 := Tryz.sizeOf3
  v3 := Tryz.zeroValue3
  t4 := Tryz.underlying4
  a4 := Tryz.isAgg4
  z4 := Tryz.sizeOf4
  v4 := Tryz.zeroValue4
  t5 := Tryz.underlying5
  a5 := Tryz.isAgg5
  z5 := Tryz.sizeOf5
  v5 := Tryz.zeroValue5
  t9 := Tryz.underlying9
  a9 := Tryz.isAgg9
  z9 := Tryz.sizeOf9
  v9 := Tryz.zeroValue9
  t12 := Tryz.underlying12
  a12 := Tryz.isAgg12
  z12 := Tryz.sizeOf12
  v12 := Tryz.zeroValue12
  t46 := Tryz.underlying78
  a46 := Tryz.isAgg78
  z46 := Tryz.sizeOf78
  v46 := Tryz.zeroValue78
  t53 := Tryz.underlying80
  a53 := Tryz.isAgg80
  z53 := Tryz.sizeOf80
  v53 := Tryz.zeroValue80
  t119 := Tryz.underlying252
  a119 := Tryz.isAgg252
  z119 := Tryz.sizeOf252
  t138 := Tryz.underlying254
  a138 := Tryz.isAgg254
  z138 := Tryz.sizeOf254
  v138 := Tryz.zeroValue254
  t139 := Tryz.underlying255
  a139 := Tryz.isAgg255
  z139 := Tryz.sizeOf255
  v139 := Tryz.zeroValue255
  g3 := by kernel_rfl
  g4 := by kernel_rfl }
def Tryz.laysItoa_ren : Go.Shelf.Ren := ⟨fun | 243 => 98 | 246 => 142 | 283 => 183 | 284 => 184 | 285 => 185 | 286 => 186 | 129 => 174 | 317 => 219 | 318 => 220 | 319 => 221 | 320 => 222 | 337 => 243 | 338 => 244 | n => n, fun | 3 => 3 | 9 => 9 | 2 => 2 | 4 => 4 | 171 => 217 | 0 => 0 | 53 => 80 | 37 => 26 | 5 => 5 | 173 => 219 | 212 => 247 | 51 => 205 | 20 => 20 | 213 => 248 | 46 => 78 | 232 => 282 | 233 => 283 | n => n, fun | 17 => 1 | 18 => 6 | 19 => 7 | n => n⟩
theorem Tryz.laysItoa : Go.Proofs.LaysM.n243 Tryz.prog Tryz.laysItoa_ren := {
  mixed := by kernel_rfl
  f129 := Tryz.func174.trans (congrArg some (by kernel_rfl))
  f243 := Tryz.func98.trans (congrArg some (by kernel_rfl))
  f246 := Tryz.func142.trans (congrArg some (by kernel_rfl))
  f283 := Tryz.func183.trans (congrArg some (by kernel_rfl))
  f284 := Tryz.func184.trans (congrArg some (by kernel_rfl))
  f285 := Tryz.func185.trans (congrArg some (by kernel_rfl))
  f286 := Tryz.func186.trans (congrArg some (by kernel_rfl))
  f317 := Tryz.func219.trans (congrArg some (by kernel_rfl))
  f318 := Tryz.func220.trans (congrArg some (by kernel_rfl))
  f319 := Tryz.func221.trans (congrArg some (by kernel_rfl))
  f320 := Tryz.func222.trans (congrArg some (by kernel_rfl))
  f337 := Tryz.func243.trans (congrArg some (by kernel_rfl))
  f338 := Tryz.func244.trans (congrArg some (by kernel_rfl))
  t0 := Tryz.underlying0
  a0 := Tryz.isAgg0
  z0 := Tryz.sizeOf0
  v0 := Tryz.zeroValue0
  t2 := Tryz.underlying2
  a2 := Tryz.isAgg2
  z2 := Tryz.sizeOf2
  v2 := Tryz.zeroValue2
  t3 := Tryz.underlying3
  a3 := Tryz.isAgg3
  z3 := Tryz.sizeOf3
  v3 := Tryz.zeroValue3
  t4 := Tryz.underlying4
  a4 := Tryz.isAgg4
  z4 := Tryz.sizeOf4
  v4 := Tryz.zeroValue4
  t5 := Tryz.underlying5
  a5 := Tryz.isAgg5
  z5 := Tryz.sizeOf5
  v5 := Tryz.zeroValue5
  t9 := Tryz.underlying9
  a9 := Tryz.isAgg9
  z9 := Tryz.sizeOf9
  v9 := Tryz.zeroValue9
  t20 := Tryz.underlying20
  a20 := Tryz.isAgg20
  z20 := Tryz.sizeOf20
  v20 := Tryz.zeroValue20
  t37 := Tryz.underlying26
  a37 := Tryz.isAgg26
  z37 := Tryz.sizeOf26
  v37 := Tryz.zeroValue26
  t46 := Tryz.underlying78
  a46 := Tryz.isAgg78
  z46 := Tryz.sizeOf78
  v46 := Tryz.zeroValue78
  t51 := Tryz.underlying205
  a51 := Tryz.isAgg205
  z51 := Tryz.sizeOf205
  v51 := Tryz.zeroValue205
  t53 := Tryz.underlying80
  a53 := Tryz.isAgg80
  z53 := Tryz.sizeOf80
  v53 := Tryz.zeroValue80
  t171 := Tryz.underlying217
  a171 := Tryz.isAgg217
  z171 := Tryz.sizeOf217
  v171 := Tryz.zeroValue217
  t173 := Tryz.underlying219
  a173 := Tryz.isAgg219
  z173 := Tryz.sizeOf219
  v173 := Tryz.zeroValue219
  t212 := Tryz.underlying247
  a212 := Tryz.isAgg247
  z212 := Tryz.sizeOf247
  v212 := Tryz.zeroValue247
  t213 := Tryz.underlying248
  a213 := Tryz.isAgg248
  z213 := Tryz.sizeOf248
  t232 := Tryz.underlying282
  a232 := Tryz.isAgg282
  z232 := Tryz.sizeOf282
  v232 := Tryz.zeroValue282
  t233 := Tryz.underlying283
  a233 := Tryz.isAgg283
  z233 := Tryz.sizeOf283
  v233 := Tryz.zeroValue283
  g17 := by kernel_rfl
  g18 := by kernel_rfl
  g19 := by kernel_rfl
  i0 := by kernel_rfl
  i2 := by kernel_rfl
  i3 := by kernel_rfl
  i4 := by kernel_rfl
  i5 := by kernel_rfl
  i9 := by kernel_rfl
  i20 := by kernel_rfl
  i37 := by kernel_rfl
  i46 := by kernel_rfl
  i51 := by kernel_rfl
  i53 := by kernel_rfl
  i171 := by kernel_rfl
  i173 := by kernel_rfl
  i212 := by kernel_rfl
  i232 := by kernel_rfl
  i233 := by kernel_rfl
  m17 := by kernel_rfl
  m18 := by kernel_rfl
  m19 := by kernel_rfl }
def Tryz.laysAtoi_ren : Go.Shelf.Ren := ⟨fun | 172 => 118 | 244 => 153 | 245 => 154 | 247 => 197 | 279 => 198 | 280 => 199 | 281 => 200 | 282 => 201 | 287 => 230 | 316 => 231 | 171 => 56 | 205 => 232 | 321 => 248 | 322 => 249 | 243 => 98 | 246 => 142 | 283 => 183 | 284 => 184 | 285 => 185 | 286 => 186 | 129 => 174 | 317 => 219 | 318 => 220 | 319 => 221 | 320 => 222 | 337 => 243 | 338 => 244 | n => n, fun | 9 => 9 | 3 => 3 | 75 => 28 | 76 => 54 | 4 => 4 | 5 => 5 | 167 => 224 | 37 => 26 | 0 => 0 | 85 => 225 | 2 => 2 | 168 => 227 | 53 => 80 | 175 => 242 | 46 => 78 | 210 => 261 | 127 => 277 | 145 => 280 | 143 => 278 | 21 => 21 | 171 => 217 | 173 => 219 | 212 => 247 | 51 => 205 | 20 => 20 | 213 => 248 | 232 => 282 | 233 => 283 | 80 => 269 | n => n, fun | 15 => 4 | 16 => 5 | 17 => 1 | 18 => 6 | 19 => 7 | n => n⟩
theorem Tryz.laysAtoi : Go.Proofs.LaysC.n172 Tryz.prog Tryz.laysAtoi_ren := {
  mixed := by kernel_rfl
  f129 := Tryz.func174.trans (congrArg some (by kernel_rfl))
  f171 := Tryz.func56.trans (congrArg some (by kernel_rfl))
  f172 := Tryz.func118.trans (congrArg some (by kernel_rfl))
  f205 := Tryz.func232.trans (congrArg some (by kernel_rfl))
  f243 := Tryz.func98.trans (congrArg some (by kernel_rfl))
  f244 := Tryz.func153.trans (congrArg some (by kernel_rfl))
  f245 := Tryz.func154.trans (congrArg some (by kernel_rfl))
  f246 := Tryz.func142.trans (congrArg some (by kernel_rfl))
  f247 := Tryz.func197.trans (congrArg some (by kernel_rfl))
  f279 := Tryz.func198.trans (congrArg some (by kernel_rfl))
  f280 := Tryz.func199.trans (congrArg some (by kernel_rfl))
  f281 := Tryz.func200.trans (congrArg some (by kernel_rfl))
  f282 := Tryz.func201.trans (congrArg some (by kernel_rfl))
  f283 := Tryz.func183.trans (congrArg some (by kernel_rfl))
  f284 := Tryz.func184.trans (congrArg some (by kernel_rfl))
  f285 := Tryz.func185.trans (congrArg some (by kernel_rfl))
  f286 := Tryz.func186.trans (congrArg some (by kernel_rfl))
  f287 := Tryz.func230.trans (congrArg some (by kernel_rfl))
  f316 := Tryz.func231.trans (congrArg some (by kernel_rfl))
  f317 := Tryz.func219.trans (congrArg some (by kernel_rfl))
  f318 := Tryz.func220.trans (congrArg some (by kernel_rfl))
  f319 := Tryz.func221.trans (congrArg some (by kernel_rfl))
  f320 := Tryz.func222.trans (congrArg some (by kernel_rfl))
  f321 := Tryz.func248.trans (congrArg some (by kernel_rfl))
  f322 := Tryz.func249.trans (congrArg some (by kernel_rfl))
  f337 := Tryz.func243.trans (congrArg some (by kernel_rfl))
  f338 := Tryz.func244.trans (congrArg some (by kernel_rfl))
  t0 := Tryz.underlying0
  a0 := Tryz.isAgg0
  z0 := Tryz.sizeOf0
  v0 := Tryz.zeroValue0
  t2 := Tryz.underlying2
  a2 := Tryz.isAgg2
  z2 := Tryz.sizeOf2
  v2 := Tryz.zeroValue2
  t3 := Tryz.underlying3
  a3 := Tryz.isAgg3
  z3 := Tryz.sizeOf3
  v3 := Tryz.zeroValue3
  t4 := Tryz.underlying4
  a4 := Tryz.isAgg4
  z4 := Tryz.sizeOf4
  v4 := Tryz.zeroValue4
  t5 := Tryz.underlying5
  a5 := Tryz.isAgg5
  z5 := Tryz.sizeOf5
  v5 := Tryz.zeroValue5
  t9 := Tryz.underlying9
  a9 := Tryz.isAgg9
  z9 := Tryz.sizeOf9
  v9 := Tryz.zeroValue9
  t20 := Tryz.underlying20
  a20 := Tryz.isAgg20
  z20 := Tryz.sizeOf20
  v20 := Tryz.zeroValue20
  t21 := Tryz.underlying21
  a21 := Tryz.isAgg21
  z21 := Tryz.sizeOf21
  v21 := Tryz.zeroValue21
  t37 := Tryz.underlying26
  a37 := Tryz.isAgg26
  z37 := Tryz.sizeOf26
  v37 := Tryz.zeroValue26
  t46 := Tryz.underlying78
  a46 := Tryz.isAgg78
  z46 := Tryz.sizeOf78
  v46 := Tryz.zeroValue78
  t51 := Tryz.underlying205
  a51 := Tryz.isAgg205
  z51 := Tryz.sizeOf205
  v51 := Tryz.zeroValue205
  t53 := Tryz.underlying80
  a53 := Tryz.isAgg80
  z53 := Tryz.sizeOf80
  v53 := Tryz.zeroValue80
  t75 := Tryz.underlying28
  a75 := Tryz.isAgg28
  z75 := Tryz.sizeOf28
  v75 := Tryz.zeroValue28
  t76 := Tryz.underlying54
  a76 := Tryz.isAgg54
  z76 := Tryz.sizeOf54
  v76 := Tryz.zeroValue54
  t85 := Tryz.underlying225
  a85 := Tryz.isAgg225
  z85 := Tryz.sizeOf225
  v85 := Tryz.zeroValue225
  t127 := Tryz.underlying277
  a127 := Tryz.isAgg277
  z127 := Tryz.sizeOf277
  v127 := Tryz.zeroValue277
  t143 := Tryz.underlying278
  a143 := Tryz.isAgg278
  z143 := Tryz.sizeOf278
  v143 := Tryz.zeroValue278
  t145 := Tryz.underlying280
  a145 := Tryz.isAgg280
  z145 := Tryz.sizeOf280
  v145 := Tryz.zeroValue280
  t167 := Tryz.underlying224
  a167 := Tryz.isAgg224
  z167 := Tryz.sizeOf224
  v167 := Tryz.zeroValue224
  t168 := Tryz.underlying227
  a168 := Tryz.isAgg227
  z168 := Tryz.sizeOf227
  v168 := Tryz.zeroValue227
  t171 := Tryz.underlying217
  a171 := Tryz.isAgg217
  z171 := Tryz.sizeOf217
  v171 := Tryz.zeroValue217
  t173 := Tryz.underlying219
  a173 := Tryz.isAgg219
  z173 := Tryz.sizeOf219
  v173 := Tryz.zeroValue219
  t175 := Tryz.underlying242
  a175 := Tryz.isAgg242
  z175 := Tryz.sizeOf242
  v175 := Tryz.zeroValue242
  t210 := Tryz.underlying261
  a210 := Tryz.isAgg261
  z210 := Tryz.sizeOf261
  v210 := Tryz.zeroValue261
  t212 := Tryz.underlying247
  a212 := Tryz.isAgg247
  z212 := Tryz.sizeOf247
  v212 := Tryz.zeroValue247
  t213 := Tryz.underlying248
  a213 := Tryz.isAgg248
  z213 := Tryz.sizeOf248
  t232 := Tryz.underlying282
  a232 := Tryz.isAgg282
  z232 := Tryz.sizeOf282
  v232 := Tryz.zeroValue282
  t233 := Tryz.underlying283
  a233 := Tryz.isAgg283
  z233 := Tryz.sizeOf283
  v233 := Tryz.zeroValue283
  g15 := by kernel_rfl
  g16 := by kernel_rfl
  g17 := by kernel_rfl
  g18 := by kernel_rfl
  g19 := by kernel_rfl
  t80 := Tryz.underlying269
  a80 := Tryz.isAgg269
  z80 := Tryz.sizeOf269
  v80 := Tryz.zeroValue269
  i0 := by kernel_rfl
  i2 := by kernel_rfl
  i3 := by kernel_rfl
  i4 := by kernel_rfl
  i5 := by kernel_rfl
  i9 := by kernel_rfl
  i20 := by kernel_rfl
  i21 := by kernel_rfl
  i37 := by kernel_rfl
  i46 := by kernel_rfl
  i51 := by kernel_rfl
  i53 := by kernel_rfl
  i75 := by kernel_rfl
  i76 := by kernel_rfl
  i80 := by kernel_rfl
  i85 := by kernel_rfl
  i127 := by kernel_rfl
  i143 := by kernel_rfl
  i145 := by kernel_rfl
  i167 := by kernel_rfl
  i168 := by kernel_rfl
  i171 := by kernel_rfl
  i173 := by kernel_rfl
  i175 := by kernel_rfl
  i210 := by kernel_rfl
  i212 := by kernel_rfl
  i232 := by kernel_rfl
  i233 := by kernel_rfl
  m15 := by kernel_rfl
  m16 := by kernel_rfl
  m17 := by kernel_rfl
  m18 := by kernel_rfl
  m19 := by kernel_rfl
  c0 := by kernel_rfl
  c2 := by kernel_rfl
  c3 := by kernel_rfl
  c4 := by kernel_rfl
  c5 := by kernel_rfl
  c9 := by kernel_rfl
  c20 := by kernel_rfl
  c21 := by kernel_rfl
  c37 := by kernel_rfl
  c46 := by kernel_rfl
  c51 := by kernel_rfl
  c53 := by kernel_rfl
  c75 := by kernel_rfl
  c76 := by kernel_rfl
  c80 := by kernel_rfl
  c85 := by kernel_rfl
  c127 := by kernel_rfl
  c143 := by kernel_rfl
  c145 := by kernel_rfl
  c167 := by kernel_rfl
  c168 := by kernel_rfl
  c171 := by kernel_rfl
  c173 := by kernel_rfl
  c175 := by kernel_rfl
  c210 := by kernel_rfl
  c212 := by kernel_rfl
  c213 := by kernel_rfl
  c232 := by kernel_rfl
  c233 := by kernel_rfl }
end Go.Proofs
namespace Go.Abs
open Go.Proofs Go.RowKit
set_option maxRecDepth 100000
/-- what holds of the tables and variables that the library reads -/
structure GG (S : Nat → Prop) (w : World) : Prop where
  pow : Lib.TabIs Tryz.prog w "internal/strconv.uint64pow10" .u64 Lib.pow10Tab
  utf : Lib.Utf8Tabs 2 3 w
  synt : ∃ ev, w.cell? ⟨4, 0, none⟩ = some ev ∧ (ev = .nilIface ∨ ∃ te pe, ev = .iface te pe)
  rang : ∃ ev, w.cell? ⟨5, 0, none⟩ = some ev ∧ (ev = .nilIface ∨ ∃ te pe, ev = .iface te pe)
  low : ∀ b, b < 8 → S b
theorem gg_stable : Stable GG := by
  intro S S' w w' h hS hw
  have hb : ∀ b, b < 8 → w'.heap[b]? = w.heap[b]? := fun b hb => hw b (h.low b hb)
  have hc : ∀ b o, b < 8 → w'.cell? ⟨b, o, none⟩ = w.cell? ⟨b, o, none⟩ := fun b o h => cell_congr (hb b h) o none
  refine ⟨?_, ⟨fun c hc' => ?_, fun i hi => ?_⟩, ?_, ?_, fun b hb' => hS b (h.low b hb')⟩
  · have h1 := h.pow
    unfold Lib.TabIs World.var? at h1 ⊢
    have hg : Tryz.prog.globalNamed "internal/strconv.uint64pow10" = some 1 := by kernel_rfl
    rw [hg] at h1 ⊢
    simp only [Option.bind_some] at h1 ⊢
    rw [hb 1 (by omega)]
    exact h1
  · rw [hc 2 _ (by omega)]; exact h.utf.1 c hc'
  · rw [hc 3 _ (by omega), hc 3 _ (by omega)]; exact h.utf.2 i hi
  · obtain ⟨ev, h1, h2⟩ := h.synt
    exact ⟨ev, by rw [hc 4 _ (by omega)]; exact h1, h2⟩
  · obtain ⟨ev, h1, h2⟩ := h.rang
    exact ⟨ev, by rw [hc 5 _ (by omega)]; exact h1, h2⟩
section
variable {ι : Emb} {S T : Nat → Prop} {w w' : World} {r : AVal} {v : Value} {next : Free}
/-- an answer that owns nothing, behind which the old memory is as it was -/
theorem back_of (hi : Inv ι S T [] w (Free.above 0)) (hb : Below w.heap.size w w') (hr : ∀ ι' S' T' w'', Rep ι' S' T' w'' r v) : Back ι S T [] w r [] v w' := by
  refine ⟨ι, S, Free.above 0, hr _ _ _ _, ⟨by simp, by simp, by simp, hi.fresh, fun b hb' => Nat.lt_of_lt_of_le (hi.s_lt b hb') hb.size, fun b hb' => Nat.lt_of_lt_of_le (hi.t_lt b hb') hb.size⟩, ?_⟩
  exact ⟨fun _ _ h => h, fun _ h => h, fun b hb' _ => hb.block b hb', hb.size, fun b ⟨e, he, _⟩ => (by cases he), fun b h => .inl h, hb.os, hb.tape, hb.output⟩
theorem call_enter {g : Nat} {vals : Array Value} {R : Value → World → Prop} {fn : Func} (hf : Tryz.prog.funcs[g]? = some fn) (hb : fn.body.isSome = true) (hn : (fn.name == "runtime.NumGoroutine") = false)
    (h : Go.Calls Tryz.prog g vals w fun | .returned v, w'' => R v w'' | _, _ => False) : CallOK Tryz.prog g vals w R := by
  obtain ⟨c, hc⟩ := Option.isSome_iff_exists.1 hb
  have hrun : (callFunc g vals).run Tryz.prog w = .ok (.enter g vals) w := by
    have hn : ¬ fn.name = "runtime.NumGoroutine" := by simpa using hn
    simp [callFunc, hf, hn, hc]
  unfold CallOK
  rw [hrun]
  exact h
theorem grow_below (k : Nat) (os : Array Obj) : Below w.heap.size w (Sort.grow (w.drewN k) os) := by
  refine ⟨rfl, rfl, rfl, ?_, fun j hj => ?_⟩
  · show w.heap.size ≤ (w.heap ++ os).size
    simp
  · show (w.heap ++ os)[j]? = _
    rw [Array.getElem?_append_left hj]
theorem itoa_ok {n : Int} (hg : GG S w) (hi : Inv ι S T [] w (Free.above 0)) (h0 : -9223372036854775808 ≤ n) (h1 : n ≤ 9223372036854775807) : CallOK Tryz.prog 98 #[.int .i64 n] w (Back ι S T [] w (.str (Lib.itoa n)) []) := by
  refine call_enter Tryz.func98 (by kernel_rfl) (by kernel_rfl) ?_
  refine (Any.internal_strconv_Itoa Tryz.laysItoa n h0 h1 w hg.pow).mono ?_
  rintro e w' ⟨rfl, k, os, rfl⟩
  exact back_of hi (grow_below k os) fun _ _ _ _ => .str _
theorem valid_ok {s : List UInt8} (hg : GG S w) (hi : Inv ι S T [] w (Free.above 0)) (h0 : s.length ≤ 9223372036854775807) : CallOK Tryz.prog 191 #[.string ⟨s.toArray⟩] w (Back ι S T [] w (.bool (Lib.validD s)) []) := by
  refine call_enter Tryz.func191 (by kernel_rfl) (by kernel_rfl) ?_
  refine (Any.utf8_ValidString Tryz.laysValid ⟨s.toArray⟩ w (by simpa [ByteArray.size] using h0) hg.utf).mono ?_
  rintro e w' ⟨rfl, hb⟩
  exact back_of hi hb fun _ _ _ _ => .bool _
theorem atoi_ok {s : List UInt8} (hg : GG S w) (hi : Inv ι S T [] w (Free.above 0)) (h0 : s.length ≤ 281474976710656) :
    CallOK Tryz.prog 118 #[.string ⟨s.toArray⟩] w (Back ι S T [] w (.tuple [.int .i64 (atoiV s), if atoiOk s = true then .lit .nilIface else numErr]) []) := by
  refine call_enter Tryz.func118 (by kernel_rfl) (by kernel_rfl) ?_
  have hsz : (ByteArray.mk s.toArray).size = s.length := by simp [ByteArray.size]
  have htl : (ByteArray.mk s.toArray).data.toList = s := by simp
  have rep : ∀ (n : Int) (a : AVal) (v : Value) (ι' : Emb) (S' T' : Nat → Prop) (w'' : World), Rep ι' S' T' w'' a v → Rep ι' S' T' w'' (.tuple [.int .i64 n, a]) (.tuple #[.int .i64 n, v]) := by
    intro n a v ι' S' T' w'' h
    refine .tuple _ _ rfl fun i c u hc hu => ?_
    match i with
    | 0 => simp at hc hu; subst hc; subst hu; exact .int _ _
    | 1 => simp at hc hu; subst hc; subst hu; exact h
    | i + 2 => simp at hc
  cases ha : Lib.atoiAll s
  case ok v =>
    have e1 : atoiV s = v := by simp [atoiV, ha]
    have e2 : atoiOk s = true := by simp [atoiOk, ha]
    rw [e1, if_pos e2]
    refine (Any.strconv_Atoi_ok Tryz.laysAtoi ⟨s.toArray⟩ (by omega) v (by rw [htl]; exact ha) w).mono ?_
    rintro e w' ⟨rfl, hw⟩
    refine back_of hi ?_ fun _ _ _ _ => rep _ _ _ _ _ _ _ (.lit _)
    rcases hw with rfl | ⟨t, rfl⟩
    · exact Below.refl _ _
    · exact Lib.bytesWorld_below _ _ _
  case range =>
    have e1 : atoiV s = Lib.atoiSat s := by simp [atoiV, ha]
    have e2 : ¬ atoiOk s = true := by simp [atoiOk, ha]
    rw [e1, if_neg e2]
    obtain ⟨ev, g1, g2⟩ := hg.rang
    refine (Any.strconv_Atoi_range Tryz.laysAtoi ⟨s.toArray⟩ (by omega) (by rw [htl]; exact ha) ev w g1 g2).mono ?_
    rintro e w' ⟨N, rfl, _, _, hb⟩
    exact back_of hi hb fun _ _ _ _ => rep _ _ _ _ _ _ _ (.iface _ _ _ (.junk _))
  have e1 : atoiV s = 0 := by simp [atoiV, ha]
  have e2 : ¬ atoiOk s = true := by simp [atoiOk, ha]
  rw [e1, if_neg e2]
  obtain ⟨ev, g1, g2⟩ := hg.synt
  refine (Any.strconv_Atoi_syntax Tryz.laysAtoi ⟨s.toArray⟩ (by omega) (by rw [htl]; exact ha) ev w g1 g2).mono ?_
  rintro e w' ⟨N, rfl, _, _, hb⟩
  exact back_of hi hb fun _ _ _ _ => rep _ _ _ _ _ _ _ (.iface _ _ _ (.junk _))
theorem extern_ok {g : Nat} {vals : Array Value} {fn : Func} {x : Array Value → Sem Value} (hi : Inv ι S T [] w (Free.above 0)) (hf : Tryz.prog.funcs[g]? = some fn) (hname : (fn.name == "runtime.NumGoroutine") = false)
    (hb : fn.body.isNone = true) (hn : Extern.findNext fn = none) (he : Extern.find fn = some x) (hx : (x vals).run Tryz.prog w = .ok v w) (hr : ∀ ι' S' T' w'', Rep ι' S' T' w'' r v) : CallOK Tryz.prog g vals w (Back ι S T [] w r []) := by
  unfold CallOK
  rw [run_callFunc_extern hf hname hb hn he, hx]
  exact back_of hi (Below.refl _ _) hr
theorem count_ok {s : List UInt8} {c : Int} (hi : Inv ι S T [] w (Free.above 0)) : CallOK Tryz.prog 255 #[.string ⟨s.toArray⟩, .int .u8 c] w (Back ι S T [] w (.int .i64 (Lib.countByte s c.toNat.toUInt8)) []) := by
  refine extern_ok hi Tryz.func255 (by kernel_rfl) (by kernel_rfl) (by kernel_rfl) (x := Extern.BytealgCount.count) (by kernel_rfl) (Lib.run_countString _ _ _) fun _ _ _ _ => ?_
  have htl : (ByteArray.mk s.toArray).data.toList = s := by simp
  rw [htl]
  exact .int _ _
theorem index_ok {s : List UInt8} {c : Int} (hi : Inv ι S T [] w (Free.above 0)) : CallOK Tryz.prog 247 #[.string ⟨s.toArray⟩, .int .u8 c] w (Back ι S T [] w (.int .i64 (Lib.indexByte s c.toNat.toUInt8)) []) := by
  refine extern_ok hi Tryz.func247 (by kernel_rfl) (by kernel_rfl) (by kernel_rfl) (x := Extern.BytealgIndexByte.indexByte) (by kernel_rfl) (Lib.run_indexByteString _ _ _) fun _ _ _ _ => ?_
  have htl : (ByteArray.mk s.toArray).data.toList = s := by simp
  rw [htl]
  exact .int _ _
theorem cmp_ok {s t : List UInt8} (hi : Inv ι S T [] w (Free.above 0)) : CallOK Tryz.prog 211 #[.string ⟨s.toArray⟩, .string ⟨t.toArray⟩] w (Back ι S T [] w (.int .i64 (Lib.compareBytes s t)) []) := by
  refine extern_ok hi Tryz.func211 (by kernel_rfl) (by kernel_rfl) (by kernel_rfl) (x := Extern.BytealgCompare.compare) (by kernel_rfl) (Lib.run_compareString _ _ _) fun _ _ _ _ => ?_
  have h1 : (ByteArray.mk s.toArray).data.toList = s := by simp
  have h2 : (ByteArray.mk t.toArray).data.toList = t := by simp
  rw [h1, h2]
  exact .int _ _
theorem bytesOf_some : ∀ {es : List AVal} {l : List UInt8}, bytesOf es = some l → ∃ xs : List Int, es = xs.map (.int .u8 ·) ∧ l = xs.map fun n => UInt8.ofNat n.toNat
  | [], l, h => by
    simp [bytesOf] at h
    exact ⟨[], rfl, h⟩
  | e :: r, l, h => by
    unfold bytesOf at h
    split at h <;> try (simp at h; done)
    · rename_i heq
      cases heq
    · rename_i n r' heq
      cases heq
      obtain ⟨l', h1, rfl⟩ := map_some h
      obtain ⟨xs, h2, h3⟩ := bytesOf_some h1
      exact ⟨n :: xs, by simp [h2], by simp [h3]⟩
theorem indexB_ok {es : List AVal} {l : List UInt8} {c : Int} {cl tm : Bool} {v : Value} (hi : Inv ι S T [] w (Free.above 0)) (hb : bytesOf es = some l) (hv : Rep ι S T w (.view 1 es cl tm) v) : CallOK Tryz.prog 228 #[v, .int .u8 c] w (Back ι S T [] w (.int .i64 (Lib.indexByte l c.toNat.toUInt8)) []) := by
  obtain ⟨xs, rfl, rfl⟩ := bytesOf_some hb
  obtain ⟨b, o, q, sp, vs, rfl, hsp, h1, h2, h3, h4, h5, h6, h7⟩ := hv.view_inv
  have hrun : (Extern.BytealgIndexByte.indexByte #[.slice (some ⟨b, o, sp⟩) (xs.map (AVal.int .u8 ·)).length q, .int .u8 c]).run Tryz.prog w = .ok (.int .i64 (Lib.indexByte (Lib.bytesOf xs) c.toNat.toUInt8)) w := by
    rcases hsp with rfl | rfl
    · exact Lib.run_indexByteSlice (P := Tryz.prog) (w := w) b o (xs.map (AVal.int .u8 ·)).length q xs (by simp) (fun i hil => by
        have hl : i < xs.length := by simpa using hil
        have e1 : (xs.map (AVal.int .u8 ·))[i]? = some (.int .u8 xs[i]) := by simp [hl]
        have e2 := h6 i _ 0 (.int .u8 xs[i]) e1 rfl
        have e3 := h7 i _ 0 (.int .u8 xs[i]) e1 rfl
        have e4 : xs.getD i 0 = xs[i] := by simp [List.getD, hl]
        rw [e4, ← e3.int_inv]
        simpa using e2) c
    · obtain rfl : xs = [] := List.eq_nil_of_length_eq_zero (by simpa using h1)
      exact Lib.run_indexByteString (P := Tryz.prog) .empty c w
  refine extern_ok hi Tryz.func228 (by kernel_rfl) (by kernel_rfl) (by kernel_rfl) (x := Extern.BytealgIndexByte.indexByte) (by kernel_rfl) hrun fun _ _ _ _ => ?_
  have : Lib.bytesOf xs = xs.map fun n => UInt8.ofNat n.toNat := rfl
  rw [this]
  exact .int _ _
theorem indexN_ok {c : Int} (hi : Inv ι S T [] w (Free.above 0)) : CallOK Tryz.prog 228 #[.slice none 0 0, .int .u8 c] w (Back ι S T [] w (.int .i64 (-1)) []) :=
  extern_ok hi Tryz.func228 (by kernel_rfl) (by kernel_rfl) (by kernel_rfl) (x := Extern.BytealgIndexByte.indexByte) (by kernel_rfl) (Lib.run_indexByteNil _ 0 0 c) fun _ _ _ _ => .int _ _
theorem one_arg {args : List AVal} {vals : Array Value} {a : AVal} (ha : args = [a]) (hl : args.length = vals.size) (hr : ∀ (i : Nat) (c : AVal) (v : Value), args[i]? = some c → vals[i]? = some v → Rep ι S T w c v) : ∃ v, vals = #[v] ∧ Rep ι S T w a v := by
  subst ha
  obtain ⟨l⟩ := vals
  match l, hl with
  | [v], _ => exact ⟨v, rfl, hr 0 a v rfl rfl⟩
theorem two_args {args : List AVal} {vals : Array Value} {a b : AVal} (ha : args = [a, b]) (hl : args.length = vals.size) (hr : ∀ (i : Nat) (c : AVal) (v : Value), args[i]? = some c → vals[i]? = some v → Rep ι S T w c v) : ∃ v u, vals = #[v, u] ∧ Rep ι S T w a v ∧ Rep ι S T w b u := by
  subst ha
  obtain ⟨l⟩ := vals
  match l, hl with
  | [v, u], _ => exact ⟨v, u, rfl, hr 0 a v rfl rfl, hr 1 b u rfl rfl⟩
theorem prim_ok {g : Nat} {p : List AVal → Option AVal} (hp : prims g = some p) {args : List AVal} (hr : p args = some r) (hg : GG S w) (hi : Inv ι S T [] w (Free.above 0)) {vals : Array Value} (hl : args.length = vals.size)
    (hv : ∀ (i : Nat) (c : AVal) (v : Value), args[i]? = some c → vals[i]? = some v → Rep ι S T w c v) : CallOK Tryz.prog g vals w (Back ι S T [] w r []) := by
  unfold prims at hp
  split at hp <;> simp only [Option.some.injEq, reduceCtorEq] at hp <;> subst hp
  · unfold itoaP at hr
    split at hr <;> try (simp at hr; done)
    split at hr <;> simp only [Option.some.injEq, reduceCtorEq] at hr
    subst hr
    rename_i n hn
    obtain ⟨v, rfl, h1⟩ := one_arg rfl hl hv
    rw [h1.int_inv]
    exact itoa_ok hg hi hn.1 hn.2
  · unfold atoiP at hr
    split at hr <;> try (simp at hr; done)
    split at hr <;> simp only [Option.some.injEq, reduceCtorEq] at hr
    subst hr
    rename_i s hn
    obtain ⟨v, rfl, h1⟩ := one_arg rfl hl hv
    rw [h1.str_inv]
    exact atoi_ok hg hi hn
  · unfold validP at hr
    split at hr <;> try (simp at hr; done)
    split at hr <;> simp only [Option.some.injEq, reduceCtorEq] at hr
    subst hr
    rename_i s hn
    obtain ⟨v, rfl, h1⟩ := one_arg rfl hl hv
    rw [h1.str_inv]
    exact valid_ok hg hi hn
  · unfold countP at hr
    split at hr <;> simp only [Option.some.injEq, reduceCtorEq] at hr
    subst hr
    obtain ⟨v, u, rfl, h1, h2⟩ := two_args rfl hl hv
    rw [h1.str_inv, h2.int_inv]
    exact count_ok hi
  · unfold indexP at hr
    split at hr <;> simp only [Option.some.injEq, reduceCtorEq] at hr
    subst hr
    obtain ⟨v, u, rfl, h1, h2⟩ := two_args rfl hl hv
    rw [h1.str_inv, h2.int_inv]
    exact index_ok hi
  · unfold indexBP at hr
    split at hr
    · obtain ⟨l, hb, rfl⟩ := map_some hr
      obtain ⟨v, u, rfl, h1, h2⟩ := two_args rfl hl hv
      rw [h2.int_inv]
      exact indexB_ok hi hb h1
    · simp only [Option.some.injEq] at hr
      subst hr
      obtain ⟨v, u, rfl, h1, h2⟩ := two_args rfl hl hv
      rw [h2.int_inv, h1.lit_inv]
      exact indexN_ok hi
    · simp at hr
  · unfold cmpP at hr
    split at hr <;> simp only [Option.some.injEq, reduceCtorEq] at hr
    subst hr
    obtain ⟨v, u, rfl, h1, h2⟩ := two_args rfl hl hv
    rw [h1.str_inv, h2.str_inv]
    exact cmp_ok hi
end
theorem names_ok : (Tryz.prog.funcs.all fun f => !(f.name == "runtime.NumGoroutine")) = true := by kernel_rfl
theorem aa_of : AA.Of gl0 Tryz.prog [58] GG := {
  mix := by kernel_rfl
  stable := gg_stable
  glob := fun S w _ g v h => by cases h
  fn := fun g afn h => by
    have h : (if g = 26 then none else (Tryz.prog.funcs[g]?).bind (trFn gl0 Tryz.prog [58])) = some afn := h
    split at h
    · cases h
    obtain ⟨fn, h1, h2⟩ := Option.bind_eq_some_iff.1 h
    refine ⟨fn, h1, ?_, h2⟩
    have hm := (Array.all_eq_true_iff_forall_mem.1 names_ok) fn (Array.mem_of_getElem? h1)
    simpa using hm
  prim := fun g p hp args r hr ι S T w vals hg hi hl hv => prim_ok hp hr hg hi hl hv
  primh := fun g p hp => by
    have hp : (none : Option (List AVal → Heap → Option AVal)) = some p := hp
    cases hp }
end Go.Abs
namespace Go.Abs
open Go.Proofs Go.RowKit
set_option maxRecDepth 100000
end Go.Abs
namespace Go.Proofs
open Go.RowKit Go.Shelf Go.Abs
attribute [local go_sem] Oper.semAt_some
set_option maxRecDepth 100000
set_option maxHeartbeats 4000000 in
theorem kept_calls (w : World) (B o c n : Nat) (ad : Option Addr) (cb : Nat) (bl : List UInt8)
    (h1 : (Conv.bytesToString (.slice (some ⟨B, o, none⟩) n c)).run Tryz.prog w = .ok (.string ⟨bl.toArray⟩) w)
    (h2 : (Conv.bytesToString (.slice ad n cb)).run Tryz.prog w = .ok (.string ⟨bl.toArray⟩) w)
    (hc : n + 2 ≤ c) (hn : n ≤ 1000000000) (c1 : w.cell? ⟨B, o + n, none⟩ = some (.int .u8 165)) (c2 : w.cell? ⟨B, o + (n + 1), none⟩ = some (.int .u8 90)) :
    Go.Calls Tryz.prog 26 #[.slice (some ⟨B, o, none⟩) n c, .slice ad n cb] w fun e W' => e = .returned (.bool true) ∧ W' = w := by
  refine (callsIn_wide (n := 3)).1 ?_
  refine callsIn_of_wp Tryz.func26 rfl trivial ?_ rfl
  simp only [Tryz.ntmps26, List.size_toArray, List.length_cons, List.length_nil, Nat.reduceAdd, Nat.reduceSub, Array.replicate_succ, Array.replicate_zero, List.push_toArray, List.append_toArray, List.nil_append, List.cons_append]
  have k1 := run_convert_bytes_string (P := Tryz.prog) w 26 9 5 (some ⟨B, o, none⟩) n c (by kernel_rfl) (by kernel_rfl) (by kernel_rfl)
  have k2 := run_convert_bytes_string (P := Tryz.prog) w 26 9 5 ad n cb (by kernel_rfl) (by kernel_rfl) (by kernel_rfl)
  rw [h1] at k1
  rw [h2] at k2
  gi_wp2
  go_ret
  simp
end Go.Proofs
namespace Go.Abs
attribute [go_sem] decide_true decide_false Bool.not_true Bool.not_false Bool.and_true Bool.and_false Bool.true_and Bool.false_and Bool.or_true Bool.or_false Bool.true_or Bool.false_or List.isEmpty_nil List.isEmpty_cons Bool.false_eq_true true_and and_true Nat.zero_le Nat.not_lt_zero beq_self_eq_true List.length_nil wrap_i64 wrap_u8 wrap_i32 wrap_u32 wrap_u64 Option.some.injEq forall_eq' Int.natCast_zero Int.natCast_one cast_lit Int.toNat_natCast eq_self if_true if_false u8_back decide_eq_true decide_eq_false toNat_succ Int.natCast_add Nat.le_refl Int.le_refl beq_true beq_false true_or or_true false_or or_false Nat.reduceAdd Nat.reduceSub Nat.reduceMul Nat.reduceLT Nat.reduceLeDiff Nat.reduceEqDiff Nat.reduceBEq Int.reduceLT Int.reduceLE Int.reduceEq Int.reduceToNat reduceCtorEq
attribute [go_sem ↓] reduceIte
end Go.Abs
namespace Go.Abs
def b23 : AFn := ⟨1, 14, [(2, none)], (.seq (rg [oo 2 (.mov (.c (.lit (.slice none 0 0))))]) (.seq (rg [mv 3 0, oo 4 (.len 1 (.t 3)), oo 5 (.bin .add .other true (.t 4) (ci 2)), oo 6 (.mksl 1 1 [(.int .u8 0)] (ci 0) (.t 5)), mv 7 0, oo 8 (.app 1 1 (.t 6) (.t 7)), oo 9 (.bslice 1 2 [(.int .u8 0)] [(.c (.int .u8 165)), (.c (.int .u8 90))]), oo 10 (.app 1 1 (.t 8) (.t 9)), mv 11 0, oo 12 (.len 1 (.t 11)), oo 13 (.slc 1 (.t 10) none (some (.t 12)) none), mv 2 13]) .ret))⟩
theorem fn23 : AA.fn 23 = some b23 := by kernel_rfl
theorem np23 : AA.prim 23 = none := rfl
end Go.Abs
namespace Go.Abs
end Go.Abs
namespace Go.Abs
def b4 : AFn := ⟨1, 46, [(2, none)], (.seq (rg [oo 2 (.mov (.c (.bool false)))]) (.seq (.seq (rg [cl 8 14 [], oo 9 (.un .not (.t 8))]) (.cond (.t 9) (.seq (rg [oo 2 (.mov (.c (.bool false)))]) .ret) .skip)) (.seq (.seq (rg [mv 10 0, oo 11 (.len 1 (.t 10)), oo 12 (.bin .gtr .other true (.t 11) (ci 65536))]) (.cond (.t 12) (.seq (rg [oo 2 (.mov (.c (.bool true)))]) .ret) .skip)) (.seq (rg [mv 13 0, cl 14 23 [(.t 13)], mv 3 14]) (.seq (rg [mv 16 3, cl 17 24 [(.t 16)], mv 15 17, oo 18 (.ext (.t 15) 0), oo 19 (.ext (.t 15) 1), mv 4 18, mv 5 19]) (.seq (rg [mv 21 0, cl 22 25 [(.t 21)], mv 20 22, oo 23 (.ext (.t 20) 0), oo 24 (.ext (.t 20) 1), mv 6 23, mv 7 24]) (.seq (.seq (rg [mv 25 4, mv 26 6, cl 27 20 [(.t 25), (.t 26)], oo 28 (.un .not (.t 27)), mv 29 28, og 30 (.mov (.t 5)) 29 false, og 31 (.call (.c (.func (.func 19) [])) [(.t 30)]) 29 false, og 32 (.mov (.t 7)) 29 false, og 33 (.bin .neq .other false (.t 31) (.t 32)) 29 false, oo 34 (.pick (.t 29) (.c (.bool true)) (.t 33)), mv 35 34, og 36 (.mov (.t 3)) 35 false, og 37 (.mov (.t 0)) 35 false, og 38 (.call (.c (.func (.func 26) [])) [(.t 36), (.t 37)]) 35 false, og 39 (.un .not (.t 38)) 35 false, oo 40 (.pick (.t 35) (.c (.bool true)) (.t 39))]) (.cond (.t 40) (.seq (rg [oo 2 (.mov (.c (.bool false)))]) .ret) .skip)) (.seq (rg [mv 41 3, cl 42 27 [(.t 41)]]) (.seq (rg [mv 43 4, mv 44 6, cl 45 20 [(.t 43), (.t 44)], mv 2 45]) .ret)))))))))⟩
theorem fn4 : AA.fn 4 = some b4 := by kernel_rfl
def l25_0 : ACode := (.seq (.seq (rg [mv 11 6, mv 12 0, oo 13 (.len 1 (.t 12)), oo 14 (.bin .sub .other true (.t 13) (ci 1024)), oo 15 (.bin .lss .other false (.t 11) (.t 14)), mv 16 15, og 17 (.mov (.t 5)) 16 true, og 18 (.len 1 (.t 17)) 16 true, og 19 (.bin .leq .other true (.t 18) (ci 200)) 16 true, oo 20 (.pick (.t 16) (.t 19) (.c (.bool false)))]) (.cond (.t 20) .skip (.exit 0))) (.block 1 (.seq (rg [mv 22 0, mv 23 6, mv 24 0, oo 25 (.len 1 (.t 24)), oo 26 (.bin .sub .other true (.t 25) (ci 1024)), oo 27 (.slc 1 (.t 22) (some (.t 23)) (some (.t 26)) none), cl 28 63 [(.t 27)], mv 21 28, oo 29 (.ext (.t 21) 0), oo 30 (.ext (.t 21) 1), oo 7 (.alloc [(.str []), (.int .i64 0), (.int .i64 0), (.int .i64 0), (.int .i64 0), (.int .i64 0), (.str []), (.lit (.slice none 0 0))]), ⟨none, (.st 8 (.t 7) (.t 29)), none⟩, mv 8 30]) (.seq (.seq (rg [mv 31 8, oo 32 (.bin .eql .other true (.t 31) (ci 0))]) (.cond (.t 32) (.seq (rg [mv 33 4, oo 2 (.mov (.c (.lit (.slice none 0 0)))), mv 3 33]) .ret) .skip)) (.seq (rg [mv 34 5, oo 35 (.ld 8 true (.t 7)), oo 36 (.bslice 8 1 [(.str []), (.int .i64 0), (.int .i64 0), (.int .i64 0), (.int .i64 0), (.int .i64 0), (.str []), (.lit (.slice none 0 0))] [(.t 35)]), oo 37 (.app 96 8 (.t 34) (.t 36)), mv 5 37]) (rg [mv 38 6, mv 39 8, oo 40 (.bin .add .other false (.t 38) (.t 39)), mv 6 40]))))))
def r25_0 : ACode := (.seq (rg [mv 42 5, cl 43 18 [(.t 42)], mv 41 43, oo 44 (.ext (.t 41) 0), oo 45 (.ext (.t 41) 1), mv 9 44, mv 10 45]) (.seq (.seq (rg [mv 46 10, oo 47 (.bin .neq .other true (.t 46) (ci 0)), mv 48 47, og 49 (.mov (.t 9)) 48 false, og 50 (.cvbs (.t 49)) 48 false, og 51 (.mov (.t 0)) 48 false, og 52 (.cvbs (.t 51)) 48 false, og 53 (.bin .neq .other false (.t 50) (.t 52)) 48 false, oo 54 (.pick (.t 48) (.c (.bool true)) (.t 53))]) (.cond (.t 54) (.seq (rg [mv 55 4, oo 2 (.mov (.c (.lit (.slice none 0 0)))), mv 3 55]) .ret) .skip)) (.seq (rg [mv 56 5, mv 2 56, oo 3 (.mov (ci 0))]) .ret)))
def b25 : AFn := ⟨1, 57, [(2, none), (3, none)], (.seq (rg [oo 2 (.mov (.c (.lit (.slice none 0 0)))), oo 3 (.mov (ci 0))]) (.seq (rg [oo 4 (.mov (ci 16))]) (.seq (rg [oo 5 (.mov (.c (.lit (.slice none 0 0))))]) (.seq (rg [oo 6 (.mov (ci 0))]) (.seq (.block 0 (.loop [0, 2, 3, 4, 5, 6] l25_0)) r25_0)))))⟩
theorem fn25 : AA.fn 25 = some b25 := by kernel_rfl
theorem np25 : AA.prim 25 = none := rfl
def l27_0 : ACode := (.seq (rg [oo 6 (.bin .lss .other false (.t 5) (.t 4))]) (.seq (.cond (.t 6) .skip (.exit 0)) (.seq (.block 1 (.seq (rg [mv 7 5, mv 2 7]) (rg [mv 8 0, mv 9 2, oo 10 (.ixa 1 (.t 8) (.t 9)), oo 11 (.ld 1 false (.t 10)), oo 12 (.bin .xor .other true (.t 11) (.c (.int .u8 255))), oo 13 (.ixa 1 (.t 8) (.t 9)), ⟨none, (.st 1 (.t 13) (.t 12)), none⟩]))) (rg [oo 14 (.bin .add .other true (.t 5) (ci 1)), mv 5 14]))))
def b27 : AFn := ⟨1, 15, [], (.seq (rg [mv 3 0, oo 4 (.len 1 (.t 3)), oo 5 (.mov (ci 0))]) (.block 0 (.loop [0, 4, 5] l27_0)))⟩
theorem fn27 : AA.fn 27 = some b27 := by kernel_rfl
theorem np27 : AA.prim 27 = none := rfl
def l63_0 : ACode := (.seq (.seq (rg [mv 110 12, mv 111 6, oo 112 (.len 1 (.t 111)), oo 113 (.bin .lss .other false (.t 110) (.t 112))]) (.cond (.t 113) .skip (.exit 3))) (.seq (.block 4 (.seq (rg [oo 13 (.mov (.c (.bool true)))]) (.seq (rg [mv 116 6, mv 117 12, oo 118 (.ixa 2 (.t 116) (.t 117)), oo 119 (.fa 1 (.t 118)), oo 120 (.ld 1 false (.t 119)), mv 14 120]) (.seq (rg [oo 15 (.mov (ci 0))]) (.seq (.seq (rg [mv 121 6, mv 122 12, oo 123 (.ixa 2 (.t 121) (.t 122)), oo 124 (.fa 0 (.t 123)), oo 125 (.ld 1 false (.t 124))]) (.block 5 (.seq (rg [oo 127 (.bin .eql .other true (.t 125) (.c (.str [103, 105, 100]))), mv 126 127]) (.cond (.t 126) (.seq (rg [mv 129 14, cl 130 107 [(.t 129)], mv 128 130, oo 131 (.ext (.t 128) 0), oo 132 (.ext (.t 128) 1), mv 15 131, mv 13 132]) (rg [mv 133 15, oo 134 (.fa 4 (.t 10)), ⟨none, (.st 1 (.t 134) (.t 133)), none⟩])) (.seq (rg [oo 136 (.bin .eql .other true (.t 125) (.c (.str [108, 105, 110, 107, 112, 97, 116, 104]))), mv 135 136]) (.cond (.t 135) (rg [mv 137 14, oo 138 (.fa 6 (.t 10)), ⟨none, (.st 1 (.t 138) (.t 137)), none⟩]) (.seq (rg [oo 140 (.bin .eql .other true (.t 125) (.c (.str [109, 116, 105, 109, 101]))), mv 139 140]) (.cond (.t 139) (.seq (rg [mv 142 14, cl 143 107 [(.t 142)], mv 141 143, oo 144 (.ext (.t 141) 0), oo 145 (.ext (.t 141) 1), mv 15 144, mv 13 145]) (rg [mv 146 15, oo 147 (.fa 5 (.t 10)), ⟨none, (.st 1 (.t 147) (.t 146)), none⟩])) (.seq (rg [oo 149 (.bin .eql .other true (.t 125) (.c (.str [112, 97, 116, 104]))), mv 148 149]) (.cond (.t 148) (rg [mv 150 14, oo 151 (.fa 0 (.t 10)), ⟨none, (.st 1 (.t 151) (.t 150)), none⟩]) (.seq (rg [oo 153 (.bin .eql .other true (.t 125) (.c (.str [117, 105, 100]))), mv 152 153]) (.cond (.t 152) (.seq (rg [mv 155 14, cl 156 107 [(.t 155)], mv 154 156, oo 157 (.ext (.t 154) 0), oo 158 (.ext (.t 154) 1), mv 15 157, mv 13 158]) (rg [mv 159 15, oo 160 (.fa 3 (.t 10)), ⟨none, (.st 1 (.t 160) (.t 159)), none⟩])) (rg [oo 13 (.mov (.c (.bool false)))]))))))))))))) (rg [mv 161 11, mv 162 161, og 163 (.mov (.t 13)) 162 true, oo 164 (.pick (.t 162) (.t 163) (.c (.bool false))), mv 11 164])))))) (rg [mv 114 12, oo 115 (.bin .add .other true (.t 114) (ci 1)), mv 12 115])))
def r63_0 : ACode := (.seq (.seq (rg [mv 165 11, oo 166 (.un .not (.t 165))]) (.cond (.t 166) (.seq (rg [oo 167 (.ld 8 true (.t 4)), ⟨none, (.st 8 (.t 2) (.t 167)), none⟩, oo 3 (.mov (ci 0))]) .ret) .skip)) (.seq (rg [oo 168 (.ld 8 true (.t 10)), mv 169 5, ⟨none, (.st 8 (.t 2) (.t 168)), none⟩, mv 3 169]) .ret))
def l63_1 : ACode := (.block 1 (.seq (.seq (rg [mv 17 0, oo 18 (.len 1 (.t 17)), mv 19 5, oo 20 (.bin .sub .other false (.t 18) (.t 19)), oo 21 (.bin .lss .other true (.t 20) (ci 512))]) (.cond (.t 21) (.seq (rg [oo 22 (.ld 8 true (.t 4)), ⟨none, (.st 8 (.t 2) (.t 22)), none⟩, oo 3 (.mov (ci 0))]) .ret) .skip)) (.seq (rg [mv 24 0, mv 25 5, mv 26 5, oo 27 (.bin .add .other true (.t 26) (ci 512)), oo 28 (.slc 1 (.t 24) (some (.t 25)) (some (.t 27)) none), cl 29 104 [(.t 28)], mv 23 29, oo 30 (.ext (.t 23) 0), oo 31 (.ext (.t 23) 1), oo 7 (.alloc [(.str []), (.int .i64 0), (.int .i64 0), (.int .i64 0), (.int .i64 0), (.int .i64 0), (.int .u8 0), (.str [])]), ⟨none, (.st 8 (.t 7) (.t 30)), none⟩, mv 8 31]) (.seq (rg [mv 32 5, oo 33 (.bin .add .other true (.t 32) (ci 512)), mv 5 33]) (.seq (.seq (rg [mv 34 8, oo 35 (.bin .neq .other true (.t 34) (ci 0)), mv 36 35, og 37 (.fa 4 (.t 7)) 36 false, og 38 (.ld 1 false (.t 37)) 36 false, og 39 (.call (.c (.func (.func 105) [])) [(.t 38)]) 36 false, og 40 (.mov (.t 0)) 36 false, og 41 (.len 1 (.t 40)) 36 false, og 42 (.mov (.t 5)) 36 false, og 43 (.bin .sub .other false (.t 41) (.t 42)) 36 false, og 44 (.bin .gtr .other false (.t 39) (.t 43)) 36 false, oo 45 (.pick (.t 36) (.c (.bool true)) (.t 44))]) (.cond (.t 45) (.seq (rg [oo 46 (.ld 8 true (.t 4)), ⟨none, (.st 8 (.t 2) (.t 46)), none⟩, oo 3 (.mov (ci 0))]) .ret) .skip)) (.seq (rg [mv 47 0, mv 48 5, mv 49 5, oo 50 (.fa 4 (.t 7)), oo 51 (.ld 1 false (.t 50)), oo 52 (.bin .add .other false (.t 49) (.t 51)), oo 53 (.slc 1 (.t 47) (some (.t 48)) (some (.t 52)) none), mv 9 53]) (.seq (rg [mv 54 5, oo 55 (.fa 4 (.t 7)), oo 56 (.ld 1 false (.t 55)), cl 57 105 [(.t 56)], oo 58 (.bin .add .other false (.t 54) (.t 57)), mv 5 58]) (.seq (.seq (rg [oo 59 (.fa 6 (.t 7)), oo 60 (.ld 1 false (.t 59)), oo 61 (.bin .eql .other true (.t 60) (.c (.int .u8 120))), mv 62 61, og 63 (.mov (.t 6)) 62 true, og 64 (.len 1 (.t 63)) 62 true, og 65 (.bin .eql .other true (.t 64) (ci 0)) 62 true, oo 66 (.pick (.t 62) (.t 65) (.c (.bool false)))]) (.cond (.t 66) (.seq (rg [mv 68 9, cl 69 106 [(.t 68)], mv 67 69, oo 70 (.ext (.t 67) 0), oo 71 (.ext (.t 67) 1), mv 6 70, mv 8 71]) (.seq (.seq (rg [mv 72 8, oo 73 (.bin .neq .other true (.t 72) (ci 0)), mv 74 73, og 75 (.mov (.t 6)) 74 false, og 76 (.len 1 (.t 75)) 74 false, og 77 (.bin .eql .other true (.t 76) (ci 0)) 74 false, oo 78 (.pick (.t 74) (.c (.bool true)) (.t 77))]) (.cond (.t 78) (.seq (rg [oo 79 (.ld 8 true (.t 4)), ⟨none, (.st 8 (.t 2) (.t 79)), none⟩, oo 3 (.mov (ci 0))]) .ret) .skip)) (.exit 1))) .skip)) (.seq (.reg true [(1, 2), (0, 3), (1, 3), (1, 4), (3, 4), (0, 5), (1, 5), (2, 5), (3, 5), (1, 6), (3, 6), (5, 6), (0, 7), (1, 7), (2, 7), (3, 7), (4, 7), (5, 7), (1, 8), (3, 8), (5, 8), (7, 8), (0, 9), (1, 9), (2, 9), (3, 9), (4, 9), (5, 9), (6, 9), (7, 9), (1, 10), (3, 10), (5, 10), (7, 10), (9, 10), (0, 11), (1, 11), (2, 11), (3, 11), (4, 11), (5, 11), (6, 11), (7, 11), (8, 11), (9, 11), (0, 12), (1, 12), (2, 12), (3, 12), (4, 12), (5, 12), (6, 12), (7, 12), (8, 12), (9, 12), (10, 12), (11, 12), (1, 13), (3, 13), (5, 13), (7, 13), (9, 13), (11, 13), (12, 13), (0, 14), (1, 14), (2, 14), (3, 14), (4, 14), (5, 14), (6, 14), (7, 14), (8, 14), (9, 14), (10, 14), (11, 14), (0, 16), (1, 16), (2, 16), (3, 16), (4, 16), (5, 16), (6, 16), (7, 16), (8, 16), (9, 16), (10, 16), (11, 16), (12, 16), (13, 16), (14, 16), (15, 16)] [oo 80 (.fa 0 (.t 7)), oo 81 (.ld 1 false (.t 80)), oo 82 (.fa 1 (.t 7)), oo 83 (.ld 1 false (.t 82)), oo 84 (.fa 2 (.t 7)), oo 85 (.ld 1 false (.t 84)), oo 86 (.fa 3 (.t 7)), oo 87 (.ld 1 false (.t 86)), oo 88 (.fa 5 (.t 7)), oo 89 (.ld 1 false (.t 88)), oo 90 (.fa 7 (.t 7)), oo 91 (.ld 1 false (.t 90)), oo 92 (.bslice 1 0 [(.int .u8 0)] []), mv 93 9, oo 94 (.app 1 1 (.t 92) (.t 93)), oo 95 (.build [(.str []), (.int .i64 0), (.int .i64 0), (.int .i64 0), (.int .i64 0), (.int .i64 0), (.str []), (.lit (.slice none 0 0))] [(0, (1, (.t 81))), (2, (1, (.t 83))), (3, (1, (.t 85))), (4, (1, (.t 87))), (5, (1, (.t 89))), (6, (1, (.t 91))), (7, (1, (.t 94)))]), oo 10 (.alloc [(.str []), (.int .i64 0), (.int .i64 0), (.int .i64 0), (.int .i64 0), (.int .i64 0), (.str []), (.lit (.slice none 0 0))]), ⟨none, (.st 8 (.t 10) (.t 95)), none⟩]) (.seq (.seq (rg [oo 96 (.fa 6 (.t 7)), oo 97 (.ld 1 false (.t 96))]) (.block 2 (.seq (rg [oo 99 (.bin .eql .other true (.t 97) (.c (.int .u8 48))), mv 98 99]) (.cond (.t 98) (rg [oo 100 (.fa 1 (.t 10)), ⟨none, (.st 1 (.t 100) (ci 2)), none⟩]) (.seq (rg [oo 102 (.bin .eql .other true (.t 97) (.c (.int .u8 49))), mv 101 102]) (.cond (.t 101) (rg [oo 103 (.fa 1 (.t 10)), ⟨none, (.st 1 (.t 103) (ci 4)), none⟩]) (.seq (rg [oo 105 (.bin .eql .other true (.t 97) (.c (.int .u8 50))), mv 104 105]) (.cond (.t 104) (rg [oo 106 (.fa 1 (.t 10)), ⟨none, (.st 1 (.t 106) (ci 3)), none⟩]) (.seq (rg [oo 108 (.bin .eql .other true (.t 97) (.c (.int .u8 53))), mv 107 108]) (.cond (.t 107) (rg [oo 109 (.fa 1 (.t 10)), ⟨none, (.st 1 (.t 109) (ci 1)), none⟩]) .skip)))))))))) (.seq (rg [oo 11 (.mov (.c (.bool true)))]) (.seq (.seq (rg [oo 12 (.mov (ci 0))]) (.block 3 (.loop [0, 2, 3, 4, 5, 6, 10, 11, 12] l63_0))) r63_0))))))))))))
def b63 : AFn := ⟨1, 170, [(2, (some (8, true))), (3, none)], (.seq (rg [oo 2 (.alloc [(.str []), (.int .i64 0), (.int .i64 0), (.int .i64 0), (.int .i64 0), (.int .i64 0), (.str []), (.lit (.slice none 0 0))]), oo 3 (.mov (ci 0))]) (.seq (rg [oo 16 (.build [(.str []), (.int .i64 0), (.int .i64 0), (.int .i64 0), (.int .i64 0), (.int .i64 0), (.str []), (.lit (.slice none 0 0))] []), oo 4 (.alloc [(.str []), (.int .i64 0), (.int .i64 0), (.int .i64 0), (.int .i64 0), (.int .i64 0), (.str []), (.lit (.slice none 0 0))]), ⟨none, (.st 8 (.t 4) (.t 16)), none⟩]) (.seq (rg [oo 5 (.mov (ci 0))]) (.seq (rg [oo 6 (.mov (.c (.lit (.slice none 0 0))))]) (.block 0 (.loop [0, 2, 3, 4, 5, 6] l63_1))))))⟩
theorem fn63 : AA.fn 63 = some b63 := by kernel_rfl
theorem np63 : AA.prim 63 = none := rfl
def b104 : AFn := ⟨1, 64, [(2, (some (8, true))), (3, none)], (.seq (rg [oo 2 (.alloc [(.str []), (.int .i64 0), (.int .i64 0), (.int .i64 0), (.int .i64 0), (.int .i64 0), (.int .u8 0), (.str [])]), oo 3 (.mov (ci 0))]) (.seq (.seq (rg [mv 8 0, oo 9 (.len 1 (.t 8)), oo 10 (.bin .neq .other true (.t 9) (ci 512))]) (.cond (.t 10) (.seq (rg [oo 11 (.build [(.str []), (.int .i64 0), (.int .i64 0), (.int .i64 0), (.int .i64 0), (.int .i64 0), (.int .u8 0), (.str [])] []), ⟨none, (.st 8 (.t 2) (.t 11)), none⟩, oo 3 (.mov (ci 14))]) .ret) .skip)) (.seq (.reg true [(2, 3), (2, 4), (2, 6), (5, 6), (2, 7), (5, 7), (2, 9), (5, 9), (8, 9), (2, 10), (5, 10), (8, 10), (2, 12), (5, 12), (8, 12), (11, 12), (2, 13), (5, 13), (8, 13), (11, 13), (2, 15), (5, 15), (8, 15), (11, 15), (14, 15), (2, 16), (5, 16), (8, 16), (11, 16), (14, 16), (2, 18), (5, 18), (8, 18), (11, 18), (14, 18), (17, 18), (2, 19), (5, 19), (8, 19), (11, 19), (14, 19), (17, 19), (0, 20), (1, 20), (2, 20), (3, 20), (4, 20), (5, 20), (6, 20), (7, 20), (8, 20), (9, 20), (10, 20), (11, 20), (12, 20), (13, 20), (14, 20), (15, 20), (16, 20), (17, 20), (2, 21), (5, 21), (8, 21), (11, 21), (14, 21), (17, 21), (20, 21), (2, 22), (5, 22), (8, 22), (11, 22), (14, 22), (17, 22), (20, 22), (18, 23), (19, 23), (20, 23), (0, 25), (1, 25), (2, 25), (3, 25), (4, 25), (5, 25), (6, 25), (7, 25), (8, 25), (9, 25), (10, 25), (11, 25), (12, 25), (13, 25), (14, 25), (15, 25), (16, 25), (17, 25), (18, 25), (19, 25), (20, 25), (21, 25), (22, 25), (23, 25), (24, 25)] [mv 12 0, oo 13 (.slc 1 (.t 12) none (some (ci 100)) none), cl 14 145 [(.t 13)], mv 15 0, oo 16 (.slc 1 (.t 15) (some (ci 100)) (some (ci 107)) none), cl 17 146 [(.t 16)], mv 18 0, oo 19 (.slc 1 (.t 18) (some (ci 108)) (some (ci 115)) none), cl 20 146 [(.t 19)], mv 21 0, oo 22 (.slc 1 (.t 21) (some (ci 116)) (some (ci 123)) none), cl 23 146 [(.t 22)], mv 24 0, oo 25 (.slc 1 (.t 24) (some (ci 124)) (some (ci 135)) none), cl 26 146 [(.t 25)], mv 27 0, oo 28 (.slc 1 (.t 27) (some (ci 136)) (some (ci 147)) none), cl 29 146 [(.t 28)], mv 30 0, oo 31 (.ixa 1 (.t 30) (ci 156)), oo 32 (.ld 1 false (.t 31)), mv 33 0, oo 34 (.slc 1 (.t 33) (some (ci 157)) (some (ci 257)) none), cl 35 145 [(.t 34)], oo 36 (.build [(.str []), (.int .i64 0), (.int .i64 0), (.int .i64 0), (.int .i64 0), (.int .i64 0), (.int .u8 0), (.str [])] [(0, (1, (.t 14))), (1, (1, (.t 17))), (2, (1, (.t 20))), (3, (1, (.t 23))), (4, (1, (.t 26))), (5, (1, (.t 29))), (6, (1, (.t 32))), (7, (1, (.t 35)))]), oo 4 (.alloc [(.str []), (.int .i64 0), (.int .i64 0), (.int .i64 0), (.int .i64 0), (.int .i64 0), (.int .u8 0), (.str [])]), ⟨none, (.st 8 (.t 4) (.t 36)), none⟩]) (.seq (rg [mv 37 0, oo 38 (.slc 1 (.t 37) (some (ci 345)) (some (ci 500)) none), cl 39 145 [(.t 38)], mv 5 39]) (.seq (.seq (rg [mv 40 5, oo 41 (.bin .neq .other true (.t 40) (.c (.str [])))]) (.cond (.t 41) (rg [mv 42 5, oo 43 (.bin .add .other true (.t 42) (.c (.str [47]))), oo 44 (.fa 0 (.t 4)), oo 45 (.ld 1 false (.t 44)), oo 46 (.bin .add .other false (.t 43) (.t 45)), oo 47 (.fa 0 (.t 4)), ⟨none, (.st 1 (.t 47) (.t 46)), none⟩]) .skip)) (.seq (rg [oo 49 (.ld 8 true (.t 4)), cl 50 95 [(.t 49)], mv 48 50, oo 51 (.ext (.t 48) 0), oo 52 (.ext (.t 48) 1), mv 6 51, mv 7 52]) (.seq (.seq (rg [mv 53 7, oo 54 (.bin .neq .other true (.t 53) (ci 0)), mv 55 54, og 56 (.mov (.t 6)) 55 false, og 57 (.cvbs (.t 56)) 55 false, og 58 (.mov (.t 0)) 55 false, og 59 (.cvbs (.t 58)) 55 false, og 60 (.bin .neq .other false (.t 57) (.t 59)) 55 false, oo 61 (.pick (.t 55) (.c (.bool true)) (.t 60))]) (.cond (.t 61) (.seq (rg [oo 62 (.build [(.str []), (.int .i64 0), (.int .i64 0), (.int .i64 0), (.int .i64 0), (.int .i64 0), (.int .u8 0), (.str [])] []), ⟨none, (.st 8 (.t 2) (.t 62)), none⟩, oo 3 (.mov (ci 14))]) .ret) .skip)) (.seq (rg [oo 63 (.ld 8 true (.t 4)), ⟨none, (.st 8 (.t 2) (.t 63)), none⟩, oo 3 (.mov (ci 0))]) .ret))))))))⟩
theorem fn104 : AA.fn 104 = some b104 := by kernel_rfl
theorem np104 : AA.prim 104 = none := rfl
def b105 : AFn := ⟨1, 7, [(2, none)], (.seq (rg [oo 2 (.mov (ci 0))]) (.seq (rg [mv 3 0, oo 4 (.bin .add .other true (.t 3) (ci 511)), oo 5 (.bin .quo .other true (.t 4) (ci 512)), oo 6 (.bin .mul .other true (.t 5) (ci 512)), mv 2 6]) .ret))⟩
theorem fn105 : AA.fn 105 = some b105 := by kernel_rfl
theorem np105 : AA.prim 105 = none := rfl
def l106_0 : ACode := (.seq (.seq (rg [mv 17 6, mv 18 0, oo 19 (.len 1 (.t 18)), oo 20 (.bin .lss .other false (.t 17) (.t 19)), mv 21 20, og 22 (.mov (.t 6)) 21 true, og 23 (.bin .lss .other true (.t 22) (ci 6)) 21 true, oo 24 (.pick (.t 21) (.t 23) (.c (.bool false))), mv 25 24, og 26 (.mov (.t 0)) 25 true, og 27 (.mov (.t 6)) 25 true, og 28 (.ixa 1 (.t 26) (.t 27)) 25 true, og 29 (.ld 1 false (.t 28)) 25 true, og 30 (.bin .geq .other true (.t 29) (.c (.int .u8 48))) 25 true, oo 31 (.pick (.t 25) (.t 30) (.c (.bool false))), mv 32 31, og 33 (.mov (.t 0)) 32 true, og 34 (.mov (.t 6)) 32 true, og 35 (.ixa 1 (.t 33) (.t 34)) 32 true, og 36 (.ld 1 false (.t 35)) 32 true, og 37 (.bin .leq .other true (.t 36) (.c (.int .u8 57))) 32 true, oo 38 (.pick (.t 32) (.t 37) (.c (.bool false)))]) (.cond (.t 38) .skip (.exit 2))) (.block 3 (.seq (rg [mv 39 7, oo 40 (.bin .mul .other true (ci 10) (.t 39)), mv 41 0, mv 42 6, oo 43 (.ixa 1 (.t 41) (.t 42)), oo 44 (.ld 1 false (.t 43)), oo 45 (.bin .sub .other true (.t 44) (.c (.int .u8 48))), oo 46 (.cvi .i64 (.t 45)), oo 47 (.bin .add .other false (.t 40) (.t 46)), mv 7 47]) (rg [mv 48 6, oo 49 (.bin .add .other true (.t 48) (ci 1)), mv 6 49]))))
def r106_0 : ACode := (.seq (.seq (rg [mv 50 7, mv 51 0, oo 52 (.len 1 (.t 51)), oo 53 (.bin .gtr .other false (.t 50) (.t 52)), mv 54 53, og 55 (.mov (.t 7)) 54 false, og 56 (.mov (.t 6)) 54 false, og 57 (.bin .leq .other false (.t 55) (.t 56)) 54 false, oo 58 (.pick (.t 54) (.c (.bool true)) (.t 57))]) (.cond (.t 58) (.seq (rg [mv 59 4, oo 2 (.mov (.c (.lit (.slice none 0 0)))), mv 3 59]) .ret) .skip)) (.seq (rg [mv 61 0, mv 62 7, oo 63 (.slc 1 (.t 61) none (some (.t 62)) none), oo 64 (.cvbs (.t 63)), mv 65 6, cl 66 147 [(.t 64), (.t 65)], mv 60 66, oo 67 (.ext (.t 60) 0), oo 68 (.ext (.t 60) 1), oo 8 (.alloc [(.str []), (.str [])]), ⟨none, (.st 2 (.t 8) (.t 67)), none⟩, mv 9 68]) (.seq (.seq (.reg true [(8, 9), (8, 10), (8, 11), (8, 12), (8, 13), (8, 14), (7, 15), (8, 15)] [mv 69 9, oo 70 (.un .not (.t 69)), mv 71 70, og 72 (.mov (.t 5)) 71 false, og 73 (.len 1 (.t 72)) 71 false, og 74 (.bin .gtr .other true (.t 73) (ci 0)) 71 false, og 75 (.mov (.t 74)) 71 false, og 76 (.fa 0 (.t 8)) 75 true, og 77 (.ld 1 false (.t 76)) 75 true, og 78 (.mov (.t 5)) 75 true, og 79 (.mov (.t 5)) 75 true, og 80 (.len 1 (.t 79)) 75 true, og 81 (.bin .sub .other true (.t 80) (ci 1)) 75 true, og 82 (.ixa 2 (.t 78) (.t 81)) 75 true, og 83 (.fa 0 (.t 82)) 75 true, og 84 (.ld 1 false (.t 83)) 75 true, og 85 (.bin .leq .other false (.t 77) (.t 84)) 75 true, og 86 (.pick (.t 75) (.t 85) (.c (.bool false))) 71 false, oo 87 (.pick (.t 71) (.c (.bool true)) (.t 86))]) (.cond (.t 87) (.seq (rg [mv 88 4, oo 2 (.mov (.c (.lit (.slice none 0 0)))), mv 3 88]) .ret) .skip)) (.seq (rg [mv 89 5, oo 90 (.ld 2 true (.t 8)), oo 91 (.bslice 2 1 [(.str []), (.str [])] [(.t 90)]), oo 92 (.app 32 2 (.t 89) (.t 91)), mv 5 92]) (rg [mv 93 0, mv 94 7, oo 95 (.slc 1 (.t 93) (some (.t 94)) none none), mv 0 95])))))
def l106_1 : ACode := (.seq (.seq (rg [mv 14 0, oo 15 (.len 1 (.t 14)), oo 16 (.bin .gtr .other true (.t 15) (ci 0))]) (.cond (.t 16) .skip (.exit 0))) (.block 1 (.seq (rg [oo 6 (.mov (ci 0))]) (.seq (rg [oo 7 (.mov (ci 0))]) (.seq (.block 2 (.loop [0, 2, 3, 4, 5, 6, 7] l106_0)) r106_0)))))
def r106_1 : ACode := (.seq (rg [mv 96 5, mv 2 96, oo 3 (.mov (ci 0))]) .ret)
def b106 : AFn := ⟨1, 97, [(2, none), (3, none)], (.seq (rg [oo 2 (.mov (.c (.lit (.slice none 0 0)))), oo 3 (.mov (ci 0))]) (.seq (rg [oo 4 (.mov (ci 15))]) (.seq (rg [oo 5 (.mov (.c (.lit (.slice none 0 0))))]) (.seq (.seq (rg [mv 10 0, oo 11 (.len 1 (.t 10)), oo 12 (.bin .gtr .other true (.t 11) (ci 65536))]) (.cond (.t 12) (.seq (rg [mv 13 4, oo 2 (.mov (.c (.lit (.slice none 0 0)))), mv 3 13]) .ret) .skip)) (.seq (.block 0 (.loop [0, 2, 3, 4, 5] l106_1)) r106_1)))))⟩
theorem fn106 : AA.fn 106 = some b106 := by kernel_rfl
theorem np106 : AA.prim 106 = none := rfl
def l107_0 : ACode := (.seq (.seq (rg [mv 17 6, mv 18 0, oo 19 (.len 0 (.t 18)), oo 20 (.bin .lss .other false (.t 17) (.t 19))]) (.cond (.t 20) .skip (.exit 0))) (.seq (.block 1 (.seq (.seq (rg [mv 23 0, mv 24 6, oo 25 (.ixs (.t 23) (.t 24)), oo 26 (.bin .lss .other true (.t 25) (.c (.int .u8 48))), mv 27 26, og 28 (.mov (.t 0)) 27 false, og 29 (.mov (.t 6)) 27 false, og 30 (.ixs (.t 28) (.t 29)) 27 false, og 31 (.bin .gtr .other true (.t 30) (.c (.int .u8 57))) 27 false, oo 32 (.pick (.t 27) (.c (.bool true)) (.t 31)), mv 33 32, og 34 (.mov (.t 6)) 33 false, og 35 (.bin .gtr .other true (.t 34) (ci 15)) 33 false, oo 36 (.pick (.t 33) (.c (.bool true)) (.t 35))]) (.cond (.t 36) (.seq (rg [oo 2 (.mov (ci 0)), oo 3 (.mov (.c (.bool false)))]) .ret) .skip)) (rg [mv 37 4, oo 38 (.bin .mul .other true (ci 10) (.t 37)), mv 39 0, mv 40 6, oo 41 (.ixs (.t 39) (.t 40)), oo 42 (.bin .sub .other true (.t 41) (.c (.int .u8 48))), oo 43 (.cvi .i64 (.t 42)), oo 44 (.bin .add .other false (.t 38) (.t 43)), mv 4 44]))) (rg [mv 21 6, oo 22 (.bin .add .other true (.t 21) (ci 1)), mv 6 22])))
def r107_0 : ACode := (.seq (rg [mv 45 5, mv 46 4, oo 47 (.bin .mul .other false (.t 45) (.t 46)), mv 48 0, oo 49 (.len 0 (.t 48)), oo 50 (.bin .gtr .other true (.t 49) (ci 0)), mv 2 47, mv 3 50]) .ret)
def b107 : AFn := ⟨1, 51, [(2, none), (3, none)], (.seq (rg [oo 2 (.mov (ci 0)), oo 3 (.mov (.c (.bool false)))]) (.seq (rg [oo 4 (.mov (ci 0))]) (.seq (rg [oo 5 (.mov (ci 1))]) (.seq (.seq (rg [mv 7 0, oo 8 (.len 0 (.t 7)), oo 9 (.bin .gtr .other true (.t 8) (ci 0)), mv 10 9, og 11 (.mov (.t 0)) 10 true, og 12 (.ixs (.t 11) (ci 0)) 10 true, og 13 (.bin .eql .other true (.t 12) (.c (.int .u8 45))) 10 true, oo 14 (.pick (.t 10) (.t 13) (.c (.bool false)))]) (.cond (.t 14) (.seq (rg [oo 5 (.mov (.c (.int .i64 (-1))))]) (rg [mv 15 0, oo 16 (.slct (.t 15) (some (ci 1)) none), mv 0 16])) .skip)) (.seq (.seq (rg [oo 6 (.mov (ci 0))]) (.block 0 (.loop [0, 2, 3, 4, 5, 6] l107_0))) r107_0)))))⟩
theorem fn107 : AA.fn 107 = some b107 := by kernel_rfl
theorem np107 : AA.prim 107 = none := rfl
def l145_0 : ACode := (.seq (.seq (rg [mv 4 3, mv 5 0, oo 6 (.len 1 (.t 5)), oo 7 (.bin .lss .other false (.t 4) (.t 6)), mv 8 7, og 9 (.mov (.t 0)) 8 true, og 10 (.mov (.t 3)) 8 true, og 11 (.ixa 1 (.t 9) (.t 10)) 8 true, og 12 (.ld 1 false (.t 11)) 8 true, og 13 (.bin .neq .other true (.t 12) (.c (.int .u8 0))) 8 true, oo 14 (.pick (.t 8) (.t 13) (.c (.bool false)))]) (.cond (.t 14) .skip (.exit 0))) (.block 1 (rg [mv 15 3, oo 16 (.bin .add .other true (.t 15) (ci 1)), mv 3 16])))
def r145_0 : ACode := (.seq (rg [mv 17 0, mv 18 3, oo 19 (.slc 1 (.t 17) none (some (.t 18)) none), oo 20 (.cvbs (.t 19)), mv 2 20]) .ret)
def b145 : AFn := ⟨1, 21, [(2, none)], (.seq (rg [oo 2 (.mov (.c (.str [])))]) (.seq (rg [oo 3 (.mov (ci 0))]) (.seq (.block 0 (.loop [0, 2, 3] l145_0)) r145_0)))⟩
theorem fn145 : AA.fn 145 = some b145 := by kernel_rfl
theorem np145 : AA.prim 145 = none := rfl
def l146_0 : ACode := (.seq (.seq (rg [mv 5 4, mv 6 0, oo 7 (.len 1 (.t 6)), oo 8 (.bin .lss .other false (.t 5) (.t 7))]) (.cond (.t 8) .skip (.exit 0))) (.seq (.block 1 (.seq (.seq (rg [mv 11 0, mv 12 4, oo 13 (.ixa 1 (.t 11) (.t 12)), oo 14 (.ld 1 false (.t 13)), oo 15 (.bin .lss .other true (.t 14) (.c (.int .u8 48))), mv 16 15, og 17 (.mov (.t 0)) 16 false, og 18 (.mov (.t 4)) 16 false, og 19 (.ixa 1 (.t 17) (.t 18)) 16 false, og 20 (.ld 1 false (.t 19)) 16 false, og 21 (.bin .gtr .other true (.t 20) (.c (.int .u8 55))) 16 false, oo 22 (.pick (.t 16) (.c (.bool true)) (.t 21))]) (.cond (.t 22) (.seq (rg [oo 2 (.mov (.c (.int .i64 (-1))))]) .ret) .skip)) (rg [mv 23 3, oo 24 (.bin .mul .other true (ci 8) (.t 23)), mv 25 0, mv 26 4, oo 27 (.ixa 1 (.t 25) (.t 26)), oo 28 (.ld 1 false (.t 27)), oo 29 (.bin .sub .other true (.t 28) (.c (.int .u8 48))), oo 30 (.cvi .i64 (.t 29)), oo 31 (.bin .add .other false (.t 24) (.t 30)), mv 3 31]))) (rg [mv 9 4, oo 10 (.bin .add .other true (.t 9) (ci 1)), mv 4 10])))
def r146_0 : ACode := (.seq (rg [mv 32 3, mv 2 32]) .ret)
def b146 : AFn := ⟨1, 33, [(2, none)], (.seq (rg [oo 2 (.mov (ci 0))]) (.seq (rg [oo 3 (.mov (ci 0))]) (.seq (.seq (rg [oo 4 (.mov (ci 0))]) (.block 0 (.loop [0, 2, 3, 4] l146_0))) r146_0)))⟩
theorem fn146 : AA.fn 146 = some b146 := by kernel_rfl
theorem np146 : AA.prim 146 = none := rfl
def l147_0 : ACode := (.seq (.seq (rg [mv 12 6, mv 13 0, oo 14 (.len 0 (.t 13)), oo 15 (.bin .sub .other true (.t 14) (ci 1)), oo 16 (.bin .lss .other false (.t 12) (.t 15))]) (.cond (.t 16) .skip (.exit 0))) (.seq (.block 1 (.seq (rg [mv 19 0, mv 20 6, oo 21 (.ixs (.t 19) (.t 20)), oo 22 (.bin .eql .other true (.t 21) (.c (.int .u8 61)))]) (.cond (.t 22) (.seq (.reg true [(0, 13), (1, 13), (2, 13), (3, 13), (4, 13), (5, 13), (6, 13), (7, 13), (8, 13), (9, 13), (10, 13), (11, 13), (12, 13)] [mv 23 0, mv 24 1, oo 25 (.bin .add .other true (.t 24) (ci 1)), mv 26 6, oo 27 (.slct (.t 23) (some (.t 25)) (some (.t 26))), mv 28 0, mv 29 6, oo 30 (.bin .add .other true (.t 29) (ci 1)), mv 31 0, oo 32 (.len 0 (.t 31)), oo 33 (.bin .sub .other true (.t 32) (ci 1)), oo 34 (.slct (.t 28) (some (.t 30)) (some (.t 33))), oo 35 (.build [(.str []), (.str [])] [(0, (1, (.t 27))), (1, (1, (.t 34)))]), oo 7 (.alloc [(.str []), (.str [])]), ⟨none, (.st 2 (.t 7) (.t 35)), none⟩]) (.seq (rg [oo 37 (.fa 0 (.t 7)), oo 38 (.ld 1 false (.t 37)), oo 39 (.fa 1 (.t 7)), oo 40 (.ld 1 false (.t 39)), cl 41 138 [(.t 38), (.t 40)], mv 36 41, oo 42 (.ext (.t 36) 0), oo 43 (.ext (.t 36) 1), mv 8 42, mv 9 43]) (.seq (rg [oo 44 (.ld 2 true (.t 7)), mv 45 9, oo 46 (.bin .eql .other true (.t 45) (ci 0)), mv 47 46, og 48 (.mov (.t 8)) 47 true, og 49 (.mov (.t 0)) 47 true, og 50 (.bin .eql .other false (.t 48) (.t 49)) 47 true, oo 51 (.pick (.t 47) (.t 50) (.c (.bool false))), ⟨none, (.st 2 (.t 4) (.t 44)), none⟩, mv 5 51]) .ret))) .skip))) (rg [mv 17 6, oo 18 (.bin .add .other true (.t 17) (ci 1)), mv 6 18])))
def r147_0 : ACode := (.seq (rg [oo 52 (.build [(.str []), (.str [])] []), ⟨none, (.st 2 (.t 4) (.t 52)), none⟩, oo 5 (.mov (.c (.bool false)))]) .ret)
def b147 : AFn := ⟨2, 53, [(4, (some (2, true))), (5, none)], (.seq (rg [oo 4 (.alloc [(.str []), (.str [])]), oo 5 (.mov (.c (.bool false)))]) (.seq (.seq (rg [mv 10 1, oo 11 (.bin .add .other true (.t 10) (ci 1)), mv 6 11]) (.block 0 (.loop [0, 1, 4, 5, 6] l147_0))) r147_0))⟩
theorem fn147 : AA.fn 147 = some b147 := by kernel_rfl
theorem np147 : AA.prim 147 = none := rfl
end Go.Abs
namespace Go.Abs
def l125_0 : ACode := (.seq (.seq (rg [mv 6 5, mv 7 0, oo 8 (.len 0 (.t 7)), oo 9 (.bin .leq .other false (.t 6) (.t 8))]) (.cond (.t 9) .skip (.exit 0))) (.seq (.block 1 (.seq (rg [mv 12 5, mv 13 0, oo 14 (.len 0 (.t 13)), oo 15 (.bin .eql .other false (.t 12) (.t 14)), mv 16 15, og 17 (.mov (.t 0)) 16 false, og 18 (.mov (.t 5)) 16 false, og 19 (.ixs (.t 17) (.t 18)) 16 false, og 20 (.bin .eql .other true (.t 19) (.c (.int .u8 47))) 16 false, oo 21 (.pick (.t 16) (.c (.bool true)) (.t 20))]) (.cond (.t 21) (.seq (rg [mv 22 3, mv 23 0, mv 24 4, mv 25 5, oo 26 (.slct (.t 23) (some (.t 24)) (some (.t 25))), oo 27 (.bslice 1 1 [(.str [])] [(.t 26)]), oo 28 (.app 16 1 (.t 22) (.t 27)), mv 3 28]) (rg [mv 29 5, oo 30 (.bin .add .other true (.t 29) (ci 1)), mv 4 30])) .skip))) (rg [mv 10 5, oo 11 (.bin .add .other true (.t 10) (ci 1)), mv 5 11])))
def r125_0 : ACode := (.seq (rg [mv 31 3, mv 2 31]) .ret)
def b125 : AFn := ⟨1, 32, [(2, none)], (.seq (rg [oo 2 (.mov (.c (.lit (.slice none 0 0))))]) (.seq (rg [oo 3 (.mov (.c (.lit (.slice none 0 0))))]) (.seq (rg [oo 4 (.mov (ci 0))]) (.seq (.seq (rg [oo 5 (.mov (ci 0))]) (.block 0 (.loop [0, 2, 3, 4, 5] l125_0))) r125_0))))⟩
theorem fn125 : AA.fn 125 = some b125 := by kernel_rfl
theorem np125 : AA.prim 125 = none := rfl
def l160_0 : ACode := (.seq (.seq (rg [mv 58 8, mv 59 5, oo 60 (.bin .lss .other false (.t 58) (.t 59))]) (.cond (.t 60) .skip (.exit 3))) (.seq (.block 4 (.seq (.seq (rg [mv 63 0, mv 64 3, mv 65 8, oo 66 (.bin .add .other false (.t 64) (.t 65)), oo 67 (.ixs (.t 63) (.t 66)), mv 68 6, oo 69 (.bin .lss .other false (.t 67) (.t 68)), mv 70 69, og 71 (.mov (.t 0)) 70 false, og 72 (.mov (.t 3)) 70 false, og 73 (.mov (.t 8)) 70 false, og 74 (.bin .add .other false (.t 72) (.t 73)) 70 false, og 75 (.ixs (.t 71) (.t 74)) 70 false, og 76 (.mov (.t 7)) 70 false, og 77 (.bin .gtr .other false (.t 75) (.t 76)) 70 false, oo 78 (.pick (.t 70) (.c (.bool true)) (.t 77))]) (.cond (.t 78) (.seq (rg [oo 2 (.mov (.c (.bool false)))]) .ret) .skip)) (.seq (rg [oo 6 (.mov (.c (.int .u8 128)))]) (rg [oo 7 (.mov (.c (.int .u8 191)))])))) (rg [mv 61 8, oo 62 (.bin .add .other true (.t 61) (ci 1)), mv 8 62])))
def r160_0 : ACode := (rg [mv 79 3, mv 80 5, oo 81 (.bin .add .other false (.t 79) (.t 80)), mv 3 81])
def l160_1 : ACode := (.seq (.seq (rg [mv 9 3, mv 10 0, oo 11 (.len 0 (.t 10)), oo 12 (.bin .lss .other false (.t 9) (.t 11))]) (.cond (.t 12) .skip (.exit 0))) (.block 1 (.seq (rg [mv 13 0, mv 14 3, oo 15 (.ixs (.t 13) (.t 14)), mv 4 15]) (.seq (rg [oo 5 (.mov (ci 0))]) (.seq (rg [oo 6 (.mov (.c (.int .u8 128)))]) (.seq (rg [oo 7 (.mov (.c (.int .u8 191)))]) (.seq (.block 2 (.seq (rg [mv 17 4, oo 18 (.bin .lss .other true (.t 17) (.c (.int .u8 128))), mv 16 18]) (.cond (.t 16) (rg [oo 5 (.mov (ci 1))]) (.seq (rg [mv 20 4, oo 21 (.bin .geq .other true (.t 20) (.c (.int .u8 194))), mv 22 21, og 23 (.mov (.t 4)) 22 true, og 24 (.bin .leq .other true (.t 23) (.c (.int .u8 223))) 22 true, oo 25 (.pick (.t 22) (.t 24) (.c (.bool false))), mv 19 25]) (.cond (.t 19) (rg [oo 5 (.mov (ci 2))]) (.seq (rg [mv 27 4, oo 28 (.bin .geq .other true (.t 27) (.c (.int .u8 224))), mv 29 28, og 30 (.mov (.t 4)) 29 true, og 31 (.bin .leq .other true (.t 30) (.c (.int .u8 239))) 29 true, oo 32 (.pick (.t 29) (.t 31) (.c (.bool false))), mv 26 32]) (.cond (.t 26) (.seq (rg [oo 5 (.mov (ci 3))]) (.seq (.seq (rg [mv 33 4, oo 34 (.bin .eql .other true (.t 33) (.c (.int .u8 224)))]) (.cond (.t 34) (rg [oo 6 (.mov (.c (.int .u8 160)))]) .skip)) (.seq (rg [mv 35 4, oo 36 (.bin .eql .other true (.t 35) (.c (.int .u8 237)))]) (.cond (.t 36) (rg [oo 7 (.mov (.c (.int .u8 159)))]) .skip)))) (.seq (rg [mv 38 4, oo 39 (.bin .geq .other true (.t 38) (.c (.int .u8 240))), mv 40 39, og 41 (.mov (.t 4)) 40 true, og 42 (.bin .leq .other true (.t 41) (.c (.int .u8 244))) 40 true, oo 43 (.pick (.t 40) (.t 42) (.c (.bool false))), mv 37 43]) (.cond (.t 37) (.seq (rg [oo 5 (.mov (ci 4))]) (.seq (.seq (rg [mv 44 4, oo 45 (.bin .eql .other true (.t 44) (.c (.int .u8 240)))]) (.cond (.t 45) (rg [oo 6 (.mov (.c (.int .u8 144)))]) .skip)) (.seq (rg [mv 46 4, oo 47 (.bin .eql .other true (.t 46) (.c (.int .u8 244)))]) (.cond (.t 47) (rg [oo 7 (.mov (.c (.int .u8 143)))]) .skip)))) .skip))))))))) (.seq (.seq (rg [mv 48 5, oo 49 (.bin .eql .other true (.t 48) (ci 0)), mv 50 49, og 51 (.mov (.t 3)) 50 false, og 52 (.mov (.t 5)) 50 false, og 53 (.bin .add .other false (.t 51) (.t 52)) 50 false, og 54 (.mov (.t 0)) 50 false, og 55 (.len 0 (.t 54)) 50 false, og 56 (.bin .gtr .other false (.t 53) (.t 55)) 50 false, oo 57 (.pick (.t 50) (.c (.bool true)) (.t 56))]) (.cond (.t 57) (.seq (rg [oo 2 (.mov (.c (.bool false)))]) .ret) .skip)) (.seq (.seq (rg [oo 8 (.mov (ci 1))]) (.block 3 (.loop [0, 2, 3, 5, 6, 7, 8] l160_0))) r160_0)))))))))
def r160_1 : ACode := (.seq (rg [oo 2 (.mov (.c (.bool true)))]) .ret)
def b160 : AFn := ⟨1, 82, [(2, none)], (.seq (rg [oo 2 (.mov (.c (.bool false)))]) (.seq (.seq (rg [oo 3 (.mov (ci 0))]) (.block 0 (.loop [0, 2, 3] l160_1))) r160_1))⟩
theorem fn160 : AA.fn 160 = some b160 := by kernel_rfl
theorem np160 : AA.prim 160 = none := rfl
def l124_0 : ACode := (.seq (.seq (rg [mv 15 5, mv 16 0, oo 17 (.len 0 (.t 16)), oo 18 (.bin .lss .other false (.t 15) (.t 17))]) (.cond (.t 18) .skip (.exit 0))) (.seq (.block 1 (.seq (rg [mv 21 0, mv 22 5, oo 23 (.ixs (.t 21) (.t 22)), oo 24 (.bin .eql .other true (.t 23) (.c (.int .u8 0)))]) (.cond (.t 24) (.seq (rg [oo 4 (.mov (.c (.bool false)))]) .ret) .skip))) (rg [mv 19 5, oo 20 (.bin .add .other true (.t 19) (ci 1)), mv 5 20])))
def r124_0 : ACode := (.seq (rg [mv 25 0, cl 26 160 [(.t 25)], mv 4 26]) .ret)
def b124 : AFn := ⟨2, 27, [(4, none)], (.seq (rg [oo 4 (.mov (.c (.bool false)))]) (.seq (.seq (rg [mv 6 0, oo 7 (.len 0 (.t 6)), oo 8 (.bin .lss .other true (.t 7) (ci 1)), mv 9 8, og 10 (.mov (.t 0)) 9 false, og 11 (.len 0 (.t 10)) 9 false, og 12 (.mov (.t 1)) 9 false, og 13 (.bin .gtr .other false (.t 11) (.t 12)) 9 false, oo 14 (.pick (.t 9) (.c (.bool true)) (.t 13))]) (.cond (.t 14) (.seq (rg [oo 4 (.mov (.c (.bool false)))]) .ret) .skip)) (.seq (.seq (rg [oo 5 (.mov (ci 0))]) (.block 0 (.loop [0, 4, 5] l124_0))) r124_0)))⟩
theorem fn124 : AA.fn 124 = some b124 := by kernel_rfl
theorem np124 : AA.prim 124 = none := rfl
def b159 : AFn := ⟨1, 19, [(2, none)], (.seq (rg [oo 2 (.mov (.c (.bool false)))]) (.seq (rg [mv 3 0, cl 4 124 [(.t 3), (ci 120)], mv 5 4, og 6 (.mov (.t 0)) 5 true, og 7 (.bin .neq .other true (.t 6) (.c (.str [46]))) 5 true, oo 8 (.pick (.t 5) (.t 7) (.c (.bool false))), mv 9 8, og 10 (.mov (.t 0)) 9 true, og 11 (.bin .neq .other true (.t 10) (.c (.str [46, 46]))) 9 true, oo 12 (.pick (.t 9) (.t 11) (.c (.bool false))), mv 13 12, og 14 (.mov (.t 0)) 13 true, og 15 (.call (.c (.func (.func 125) [])) [(.t 14)]) 13 true, og 16 (.len 1 (.t 15)) 13 true, og 17 (.bin .eql .other true (.t 16) (ci 1)) 13 true, oo 18 (.pick (.t 13) (.t 17) (.c (.bool false))), mv 2 18]) .ret))⟩
theorem fn159 : AA.fn 159 = some b159 := by kernel_rfl
theorem np159 : AA.prim 159 = none := rfl
def l122_0 : ACode := (.seq (.seq (rg [mv 10 4, mv 11 3, oo 12 (.len 1 (.t 11)), oo 13 (.bin .lss .other false (.t 10) (.t 12))]) (.cond (.t 13) .skip (.exit 0))) (.seq (.block 1 (.seq (rg [mv 16 3, mv 17 4, oo 18 (.ixa 1 (.t 16) (.t 17)), oo 19 (.ld 1 false (.t 18)), cl 20 159 [(.t 19)], oo 21 (.un .not (.t 20))]) (.cond (.t 21) (.seq (rg [oo 2 (.mov (.c (.lit (.slice none 0 0))))]) .ret) .skip))) (rg [mv 14 4, oo 15 (.bin .add .other true (.t 14) (ci 1)), mv 4 15])))
def r122_0 : ACode := (.seq (rg [mv 22 3, mv 2 22]) .ret)
def b122 : AFn := ⟨1, 23, [(2, none)], (.seq (rg [oo 2 (.mov (.c (.lit (.slice none 0 0))))]) (.seq (.seq (rg [mv 5 0, oo 6 (.len 0 (.t 5)), oo 7 (.bin .gtr .other true (.t 6) (ci 400))]) (.cond (.t 7) (.seq (rg [oo 2 (.mov (.c (.lit (.slice none 0 0))))]) .ret) .skip)) (.seq (rg [mv 8 0, cl 9 125 [(.t 8)], mv 3 9]) (.seq (.seq (rg [oo 4 (.mov (ci 0))]) (.block 0 (.loop [2, 3, 4] l122_0))) r122_0))))⟩
theorem fn122 : AA.fn 122 = some b122 := by kernel_rfl
theorem np122 : AA.prim 122 = none := rfl
def b75 : AFn := ⟨1, 7, [(2, none)], (.seq (rg [oo 2 (.mov (.c (.bool false)))]) (.seq (rg [mv 3 0, cl 4 122 [(.t 3)], oo 5 (.len 1 (.t 4)), oo 6 (.bin .gtr .other true (.t 5) (ci 0)), mv 2 6]) .ret))⟩
theorem fn75 : AA.fn 75 = some b75 := by kernel_rfl
theorem np75 : AA.prim 75 = none := rfl
def l123_0 : ACode := (.seq (.seq (rg [mv 7 5, mv 8 0, oo 9 (.len 1 (.t 8)), oo 10 (.bin .lss .other false (.t 7) (.t 9))]) (.cond (.t 10) .skip (.exit 0))) (.seq (.block 1 (.seq (.seq (rg [mv 13 0, mv 14 5, oo 15 (.ixa 1 (.t 13) (.t 14)), oo 16 (.ld 1 false (.t 15)), cl 17 159 [(.t 16)], oo 18 (.un .not (.t 17))]) (.cond (.t 18) (.seq (rg [oo 2 (.mov (.c (.str []))), oo 3 (.mov (ci 12))]) .ret) .skip)) (.seq (.seq (rg [mv 19 5, oo 20 (.bin .gtr .other true (.t 19) (ci 0))]) (.cond (.t 20) (rg [mv 21 4, oo 22 (.bslice 1 1 [(.int .u8 0)] [(.c (.int .u8 47))]), oo 23 (.app 1 1 (.t 21) (.t 22)), mv 4 23]) .skip)) (.seq (rg [mv 24 4, mv 25 0, mv 26 5, oo 27 (.ixa 1 (.t 25) (.t 26)), oo 28 (.ld 1 false (.t 27)), oo 29 (.app 1 1 (.t 24) (.t 28)), mv 4 29]) (.seq (rg [mv 30 4, oo 31 (.len 1 (.t 30)), oo 32 (.bin .gtr .other true (.t 31) (ci 400))]) (.cond (.t 32) (.seq (rg [oo 2 (.mov (.c (.str []))), oo 3 (.mov (ci 12))]) .ret) .skip)))))) (rg [mv 11 5, oo 12 (.bin .add .other true (.t 11) (ci 1)), mv 5 12])))
def r123_0 : ACode := (.seq (.seq (rg [mv 33 0, oo 34 (.len 1 (.t 33)), oo 35 (.bin .eql .other true (.t 34) (ci 0))]) (.cond (.t 35) (.seq (rg [oo 2 (.mov (.c (.str []))), oo 3 (.mov (ci 12))]) .ret) .skip)) (.seq (rg [mv 36 4, oo 37 (.cvbs (.t 36)), mv 2 37, oo 3 (.mov (ci 0))]) .ret))
def b123 : AFn := ⟨1, 38, [(2, none), (3, none)], (.seq (rg [oo 2 (.mov (.c (.str []))), oo 3 (.mov (ci 0))]) (.seq (rg [oo 6 (.bslice 1 0 [(.int .u8 0)] []), mv 4 6]) (.seq (.seq (rg [oo 5 (.mov (ci 0))]) (.block 0 (.loop [0, 2, 3, 4, 5] l123_0))) r123_0)))⟩
theorem fn123 : AA.fn 123 = some b123 := by kernel_rfl
theorem np123 : AA.prim 123 = none := rfl
def b76 : AFn := ⟨1, 22, [(2, none), (3, none)], (.seq (rg [oo 2 (.mov (.c (.str []))), oo 3 (.mov (.c (.bool false)))]) (.seq (rg [mv 7 0, cl 8 122 [(.t 7)], mv 4 8]) (.seq (.seq (rg [mv 9 4, oo 10 (.len 1 (.t 9)), oo 11 (.bin .lss .other true (.t 10) (ci 2))]) (.cond (.t 11) (.seq (rg [oo 2 (.mov (.c (.str []))), oo 3 (.mov (.c (.bool false)))]) .ret) .skip)) (.seq (rg [mv 13 4, mv 14 4, oo 15 (.len 1 (.t 14)), oo 16 (.bin .sub .other true (.t 15) (ci 1)), oo 17 (.slc 1 (.t 13) none (some (.t 16)) none), cl 18 123 [(.t 17)], mv 12 18, oo 19 (.ext (.t 12) 0), oo 20 (.ext (.t 12) 1), mv 5 19, mv 6 20]) (.seq (rg [mv 21 5, mv 2 21, oo 3 (.mov (.c (.bool true)))]) .ret)))))⟩
theorem fn76 : AA.fn 76 = some b76 := by kernel_rfl
theorem np76 : AA.prim 76 = none := rfl
def b77 : AFn := ⟨1, 94, [(2, none)], (.seq (rg [oo 1 (.box (.t 0)), oo 2 (.mov (.c (.bool false)))]) (.seq (.seq (rg [oo 3 (.fa 2 (.t 1)), oo 4 (.ld 1 false (.t 3)), oo 5 (.bin .lss .other true (.t 4) (ci 0)), mv 6 5, og 7 (.fa 2 (.t 1)) 6 false, og 8 (.ld 1 false (.t 7)) 6 false, og 9 (.bin .gtr .other true (.t 8) (ci 4095)) 6 false, oo 10 (.pick (.t 6) (.c (.bool true)) (.t 9)), mv 11 10, og 12 (.fa 3 (.t 1)) 11 false, og 13 (.ld 1 false (.t 12)) 11 false, og 14 (.bin .lss .other true (.t 13) (ci 0)) 11 false, oo 15 (.pick (.t 11) (.c (.bool true)) (.t 14)), mv 16 15, og 17 (.fa 3 (.t 1)) 16 false, og 18 (.ld 1 false (.t 17)) 16 false, og 19 (.bin .gtr .other true (.t 18) (ci 1099511627776)) 16 false, oo 20 (.pick (.t 16) (.c (.bool true)) (.t 19)), mv 21 20, og 22 (.fa 4 (.t 1)) 21 false, og 23 (.ld 1 false (.t 22)) 21 false, og 24 (.bin .lss .other true (.t 23) (ci 0)) 21 false, oo 25 (.pick (.t 21) (.c (.bool true)) (.t 24)), mv 26 25, og 27 (.fa 4 (.t 1)) 26 false, og 28 (.ld 1 false (.t 27)) 26 false, og 29 (.bin .gtr .other true (.t 28) (ci 1099511627776)) 26 false, oo 30 (.pick (.t 26) (.c (.bool true)) (.t 29)), mv 31 30, og 32 (.fa 5 (.t 1)) 31 false, og 33 (.ld 1 false (.t 32)) 31 false, og 34 (.bin .lss .other true (.t 33) (.c (.int .i64 (-1099511627776)))) 31 false, oo 35 (.pick (.t 31) (.c (.bool true)) (.t 34)), mv 36 35, og 37 (.fa 5 (.t 1)) 36 false, og 38 (.ld 1 false (.t 37)) 36 false, og 39 (.bin .gtr .other true (.t 38) (ci 1099511627776)) 36 false, oo 40 (.pick (.t 36) (.c (.bool true)) (.t 39))]) (.cond (.t 40) (.seq (rg [oo 2 (.mov (.c (.bool false)))]) .ret) .skip)) (.seq (.seq (rg [oo 41 (.fa 1 (.t 1)), oo 42 (.ld 1 false (.t 41)), oo 43 (.bin .eql .other true (.t 42) (ci 2))]) (.cond (.t 43) (.seq (rg [oo 44 (.fa 6 (.t 1)), oo 45 (.ld 1 false (.t 44)), oo 46 (.bin .eql .other true (.t 45) (.c (.str []))), mv 47 46, og 48 (.fa 7 (.t 1)) 47 true, og 49 (.ld 1 false (.t 48)) 47 true, og 50 (.len 1 (.t 49)) 47 true, og 51 (.bin .leq .other true (.t 50) (ci 65536)) 47 true, oo 52 (.pick (.t 47) (.t 51) (.c (.bool false))), mv 2 52]) .ret) .skip)) (.seq (.seq (rg [oo 53 (.fa 7 (.t 1)), oo 54 (.ld 1 false (.t 53)), oo 55 (.len 1 (.t 54)), oo 56 (.bin .gtr .other true (.t 55) (ci 0))]) (.cond (.t 56) (.seq (rg [oo 2 (.mov (.c (.bool false)))]) .ret) .skip)) (.seq (.seq (rg [oo 57 (.fa 1 (.t 1)), oo 58 (.ld 1 false (.t 57))]) (.block 0 (.seq (rg [oo 60 (.bin .eql .other true (.t 58) (ci 1)), mv 59 60]) (.cond (.t 59) (.seq (rg [oo 61 (.fa 6 (.t 1)), oo 62 (.ld 1 false (.t 61)), oo 63 (.bin .eql .other true (.t 62) (.c (.str []))), mv 2 63]) .ret) (.seq (rg [oo 65 (.bin .eql .other true (.t 58) (ci 3)), mv 64 65]) (.cond (.t 64) (.seq (rg [oo 66 (.fa 6 (.t 1)), oo 67 (.ld 1 false (.t 66)), cl 68 124 [(.t 67), (ci 400)], mv 2 68]) .ret) (.seq (rg [oo 70 (.bin .eql .other true (.t 58) (ci 4)), mv 69 70]) (.cond (.t 69) (.seq (rg [oo 71 (.fa 6 (.t 1)), oo 72 (.ld 1 false (.t 71)), cl 73 75 [(.t 72)], mv 74 73, og 75 (.fa 2 (.t 1)) 74 true, og 76 (.ld 1 false (.t 75)) 74 true, og 77 (.bin .eql .other true (.t 76) (ci 0)) 74 true, oo 78 (.pick (.t 74) (.t 77) (.c (.bool false))), mv 79 78, og 80 (.fa 3 (.t 1)) 79 true, og 81 (.ld 1 false (.t 80)) 79 true, og 82 (.bin .eql .other true (.t 81) (ci 0)) 79 true, oo 83 (.pick (.t 79) (.t 82) (.c (.bool false))), mv 84 83, og 85 (.fa 4 (.t 1)) 84 true, og 86 (.ld 1 false (.t 85)) 84 true, og 87 (.bin .eql .other true (.t 86) (ci 0)) 84 true, oo 88 (.pick (.t 84) (.t 87) (.c (.bool false))), mv 89 88, og 90 (.fa 5 (.t 1)) 89 true, og 91 (.ld 1 false (.t 90)) 89 true, og 92 (.bin .eql .other true (.t 91) (ci 0)) 89 true, oo 93 (.pick (.t 89) (.t 92) (.c (.bool false))), mv 2 93]) .ret) .skip)))))))) (.seq (rg [oo 2 (.mov (.c (.bool false)))]) .ret))))))⟩
theorem fn77 : AA.fn 77 = some b77 := by kernel_rfl
theorem np77 : AA.prim 77 = none := rfl
def l78_0 : ACode := (.seq (.seq (rg [mv 12 7, mv 13 5, oo 14 (.len 1 (.t 13)), oo 15 (.bin .lss .other false (.t 12) (.t 14)), mv 16 15, og 17 (.mov (.t 7)) 16 true, og 18 (.mov (.t 6)) 16 true, og 19 (.len 1 (.t 18)) 16 true, og 20 (.bin .lss .other false (.t 17) (.t 19)) 16 true, oo 21 (.pick (.t 16) (.t 20) (.c (.bool false)))]) (.cond (.t 21) .skip (.exit 0))) (.seq (.block 1 (.seq (.seq (.reg true [(3, 4), (3, 5), (3, 6), (0, 7), (1, 7), (2, 7), (3, 7)] [mv 24 5, mv 25 7, oo 26 (.ixa 1 (.t 24) (.t 25)), oo 27 (.ld 1 false (.t 26)), mv 28 6, mv 29 7, oo 30 (.ixa 1 (.t 28) (.t 29)), oo 31 (.ld 1 false (.t 30)), oo 32 (.bin .lss .other false (.t 27) (.t 31))]) (.cond (.t 32) (.seq (rg [oo 4 (.mov (.c (.int .i64 (-1))))]) .ret) .skip)) (.seq (.reg true [(3, 4), (3, 5), (3, 6), (0, 7), (1, 7), (2, 7), (3, 7)] [mv 33 5, mv 34 7, oo 35 (.ixa 1 (.t 33) (.t 34)), oo 36 (.ld 1 false (.t 35)), mv 37 6, mv 38 7, oo 39 (.ixa 1 (.t 37) (.t 38)), oo 40 (.ld 1 false (.t 39)), oo 41 (.bin .gtr .other false (.t 36) (.t 40))]) (.cond (.t 41) (.seq (rg [oo 4 (.mov (ci 1))]) .ret) .skip)))) (rg [mv 22 7, oo 23 (.bin .add .other true (.t 22) (ci 1)), mv 7 23])))
def r78_0 : ACode := (.seq (.seq (rg [mv 42 5, oo 43 (.len 1 (.t 42)), mv 44 6, oo 45 (.len 1 (.t 44)), oo 46 (.bin .lss .other false (.t 43) (.t 45))]) (.cond (.t 46) (.seq (rg [oo 4 (.mov (.c (.int .i64 (-1))))]) .ret) .skip)) (.seq (.seq (rg [mv 47 5, oo 48 (.len 1 (.t 47)), mv 49 6, oo 50 (.len 1 (.t 49)), oo 51 (.bin .gtr .other false (.t 48) (.t 50))]) (.cond (.t 51) (.seq (rg [oo 4 (.mov (ci 1))]) .ret) .skip)) (.seq (rg [oo 4 (.mov (ci 0))]) .ret)))
def b78 : AFn := ⟨2, 52, [(4, none)], (.seq (rg [oo 4 (.mov (ci 0))]) (.seq (rg [mv 8 0, cl 9 125 [(.t 8)], mv 5 9]) (.seq (rg [mv 10 1, cl 11 125 [(.t 10)], mv 6 11]) (.seq (.seq (rg [oo 7 (.mov (ci 0))]) (.block 0 (.loop [4, 5, 6, 7] l78_0))) r78_0))))⟩
theorem fn78 : AA.fn 78 = some b78 := by kernel_rfl
theorem np78 : AA.prim 78 = none := rfl
def l79_0 : ACode := (.seq (.seq (rg [mv 8 7, mv 9 1, oo 10 (.bin .lss .other false (.t 8) (.t 9))]) (.cond (.t 10) .skip (.exit 0))) (.seq (.block 1 (.seq (rg [mv 13 0, mv 14 7, oo 15 (.ixa 8 (.t 13) (.t 14)), oo 16 (.fa 0 (.t 15)), oo 17 (.ld 1 false (.t 16)), mv 18 2, oo 19 (.bin .eql .other false (.t 17) (.t 18))]) (.cond (.t 19) (.seq (rg [mv 20 0, mv 21 7, oo 22 (.ixa 8 (.t 20) (.t 21)), oo 23 (.fa 1 (.t 22)), oo 24 (.ld 1 false (.t 23)), mv 6 24]) .ret) .skip))) (rg [mv 11 7, oo 12 (.bin .add .other true (.t 11) (ci 1)), mv 7 12])))
def r79_0 : ACode := (.seq (rg [oo 6 (.mov (ci 0))]) .ret)
def b79 : AFn := ⟨3, 25, [(6, none)], (.seq (rg [oo 6 (.mov (ci 0))]) (.seq (.seq (rg [oo 7 (.mov (ci 0))]) (.block 0 (.loop [0, 1, 2, 6, 7] l79_0))) r79_0))⟩
theorem fn79 : AA.fn 79 = some b79 := by kernel_rfl
theorem np79 : AA.prim 79 = none := rfl
def l41_0 : ACode := (.seq (.seq (rg [mv 15 5, mv 16 0, oo 17 (.len 1 (.t 16)), oo 18 (.bin .lss .other false (.t 15) (.t 17))]) (.cond (.t 18) .skip (.exit 0))) (.seq (.block 1 (.seq (rg [mv 21 0, mv 22 5, oo 23 (.ixa 8 (.t 21) (.t 22)), oo 24 (.ld 8 true (.t 23)), oo 6 (.alloc [(.str []), (.int .i64 0), (.int .i64 0), (.int .i64 0), (.int .i64 0), (.int .i64 0), (.str []), (.lit (.slice none 0 0))]), ⟨none, (.st 8 (.t 6) (.t 24)), none⟩]) (.seq (.seq (rg [oo 25 (.fa 0 (.t 6)), oo 26 (.ld 1 false (.t 25)), cl 27 75 [(.t 26)], oo 28 (.un .not (.t 27))]) (.cond (.t 28) (.seq (rg [mv 29 5, mv 2 29, oo 3 (.mov (ci 12))]) .ret) .skip)) (.seq (rg [oo 31 (.fa 0 (.t 6)), oo 32 (.ld 1 false (.t 31)), cl 33 76 [(.t 32)], mv 30 33, oo 34 (.ext (.t 30) 0), oo 35 (.ext (.t 30) 1), mv 7 34, mv 8 35]) (.seq (rg [oo 36 (.ld 8 true (.t 6)), cl 37 77 [(.t 36)], oo 38 (.un .not (.t 37)), mv 9 38]) (.seq (.reg true [(10, 11), (5, 12), (6, 12), (7, 12), (8, 12), (9, 12), (10, 12)] [mv 39 9, mv 40 39, og 41 (.mov (.t 5)) 40 false, og 42 (.bin .gtr .other true (.t 41) (ci 0)) 40 false, og 43 (.mov (.t 42)) 40 false, og 44 (.mov (.t 0)) 43 true, og 45 (.mov (.t 5)) 43 true, og 46 (.bin .sub .other true (.t 45) (ci 1)) 43 true, og 47 (.ixa 8 (.t 44) (.t 46)) 43 true, og 48 (.fa 0 (.t 47)) 43 true, og 49 (.ld 1 false (.t 48)) 43 true, og 50 (.fa 0 (.t 6)) 43 true, og 51 (.ld 1 false (.t 50)) 43 true, og 52 (.call (.c (.func (.func 78) [])) [(.t 49), (.t 51)]) 43 true, og 53 (.bin .neq .other true (.t 52) (.c (.int .i64 (-1)))) 43 true, og 54 (.pick (.t 43) (.t 53) (.c (.bool false))) 40 false, oo 55 (.pick (.t 40) (.c (.bool true)) (.t 54)), mv 9 55]) (.seq (rg [mv 56 9, mv 57 56, og 58 (.mov (.t 8)) 57 false, og 59 (.mov (.t 58)) 57 false, og 60 (.mov (.t 0)) 59 true, og 61 (.mov (.t 5)) 59 true, og 62 (.mov (.t 7)) 59 true, og 63 (.call (.c (.func (.func 79) [])) [(.t 60), (.t 61), (.t 62)]) 59 true, og 64 (.bin .neq .other true (.t 63) (ci 1)) 59 true, og 65 (.pick (.t 59) (.t 64) (.c (.bool false))) 57 false, oo 66 (.pick (.t 57) (.c (.bool true)) (.t 65)), mv 9 66]) (.seq (rg [mv 67 9, mv 68 67, og 69 (.fa 1 (.t 6)) 68 false, og 70 (.ld 1 false (.t 69)) 68 false, og 71 (.bin .eql .other true (.t 70) (ci 4)) 68 false, og 72 (.mov (.t 71)) 68 false, og 73 (.mov (.t 0)) 72 true, og 74 (.mov (.t 5)) 72 true, og 75 (.fa 6 (.t 6)) 72 true, og 76 (.ld 1 false (.t 75)) 72 true, og 77 (.call (.c (.func (.func 79) [])) [(.t 73), (.t 74), (.t 76)]) 72 true, og 78 (.bin .neq .other true (.t 77) (ci 2)) 72 true, og 79 (.pick (.t 72) (.t 78) (.c (.bool false))) 68 false, oo 80 (.pick (.t 68) (.c (.bool true)) (.t 79)), mv 9 80]) (.seq (.seq (rg [mv 81 9]) (.cond (.t 81) (.seq (rg [mv 82 5, mv 2 82, oo 3 (.mov (ci 13))]) .ret) .skip)) (.seq (rg [mv 83 4, oo 84 (.fa 7 (.t 6)), oo 85 (.ld 1 false (.t 84)), oo 86 (.len 1 (.t 85)), oo 87 (.bin .add .other false (.t 83) (.t 86)), mv 4 87]) (.seq (rg [mv 88 4, oo 89 (.bin .gtr .other true (.t 88) (ci 1048576))]) (.cond (.t 89) (.seq (rg [mv 90 5, mv 2 90, oo 3 (.mov (ci 18))]) .ret) .skip)))))))))))) (rg [mv 19 5, oo 20 (.bin .add .other true (.t 19) (ci 1)), mv 5 20])))
def r41_0 : ACode := (.seq (rg [oo 2 (.mov (.c (.int .i64 (-1)))), oo 3 (.mov (ci 0))]) .ret)
def b41 : AFn := ⟨1, 91, [(2, none), (3, none)], (.seq (rg [oo 2 (.mov (ci 0)), oo 3 (.mov (ci 0))]) (.seq (.seq (rg [mv 10 0, oo 11 (.len 1 (.t 10)), oo 12 (.bin .gtr .other true (.t 11) (ci 200))]) (.cond (.t 12) (.seq (rg [mv 13 0, oo 14 (.len 1 (.t 13)), mv 2 14, oo 3 (.mov (ci 19))]) .ret) .skip)) (.seq (rg [oo 4 (.mov (ci 0))]) (.seq (.seq (rg [oo 5 (.mov (ci 0))]) (.block 0 (.loop [0, 2, 3, 4, 5] l41_0))) r41_0))))⟩
theorem fn41 : AA.fn 41 = some b41 := by kernel_rfl
theorem np41 : AA.prim 41 = none := rfl
def l99_0 : ACode := (.seq (.seq (rg [mv 4 3, mv 5 0, oo 6 (.len 0 (.t 5)), oo 7 (.bin .lss .other false (.t 4) (.t 6))]) (.cond (.t 7) .skip (.exit 0))) (.seq (.block 1 (.seq (rg [mv 10 0, mv 11 3, oo 12 (.ixs (.t 10) (.t 11)), oo 13 (.bin .lss .other true (.t 12) (.c (.int .u8 1))), mv 14 13, og 15 (.mov (.t 0)) 14 false, og 16 (.mov (.t 3)) 14 false, og 17 (.ixs (.t 15) (.t 16)) 14 false, og 18 (.bin .gtr .other true (.t 17) (.c (.int .u8 127))) 14 false, oo 19 (.pick (.t 14) (.c (.bool true)) (.t 18))]) (.cond (.t 19) (.seq (rg [oo 2 (.mov (.c (.bool false)))]) .ret) .skip))) (rg [mv 8 3, oo 9 (.bin .add .other true (.t 8) (ci 1)), mv 3 9])))
def r99_0 : ACode := (.seq (rg [oo 2 (.mov (.c (.bool true)))]) .ret)
def b99 : AFn := ⟨1, 20, [(2, none)], (.seq (rg [oo 2 (.mov (.c (.bool false)))]) (.seq (.seq (rg [oo 3 (.mov (ci 0))]) (.block 0 (.loop [0, 2, 3] l99_0))) r99_0))⟩
theorem fn99 : AA.fn 99 = some b99 := by kernel_rfl
theorem np99 : AA.prim 99 = none := rfl
def l57_0 : ACode := (.seq (.seq (rg [mv 18 5, mv 19 0, oo 20 (.len 0 (.t 19)), oo 21 (.bin .sub .other true (.t 20) (ci 1)), oo 22 (.bin .lss .other false (.t 18) (.t 21))]) (.cond (.t 22) .skip (.exit 0))) (.seq (.block 1 (.seq (rg [mv 25 0, mv 26 5, oo 27 (.ixs (.t 25) (.t 26)), oo 28 (.bin .eql .other true (.t 27) (.c (.int .u8 47))), mv 29 28, og 30 (.mov (.t 5)) 29 true, og 31 (.bin .leq .other true (.t 30) (ci 155)) 29 true, oo 32 (.pick (.t 29) (.t 31) (.c (.bool false))), mv 33 32, og 34 (.mov (.t 0)) 33 true, og 35 (.len 0 (.t 34)) 33 true, og 36 (.bin .sub .other true (.t 35) (ci 1)) 33 true, og 37 (.mov (.t 5)) 33 true, og 38 (.bin .sub .other false (.t 36) (.t 37)) 33 true, og 39 (.bin .leq .other true (.t 38) (ci 100)) 33 true, oo 40 (.pick (.t 33) (.t 39) (.c (.bool false)))]) (.cond (.t 40) (.seq (.reg true [] [mv 41 0, mv 42 5, oo 43 (.slct (.t 41) none (some (.t 42))), mv 44 0, mv 45 5, oo 46 (.bin .add .other true (.t 45) (ci 1)), oo 47 (.slct (.t 44) (some (.t 46)) none), mv 2 43, mv 3 47, oo 4 (.mov (.c (.bool true)))]) .ret) .skip))) (rg [mv 23 5, oo 24 (.bin .add .other true (.t 23) (ci 1)), mv 5 24])))
def r57_0 : ACode := (.seq (rg [oo 2 (.mov (.c (.str []))), oo 3 (.mov (.c (.str []))), oo 4 (.mov (.c (.bool false)))]) .ret)
def b57 : AFn := ⟨1, 48, [(2, none), (3, none), (4, none)], (.seq (rg [oo 2 (.mov (.c (.str []))), oo 3 (.mov (.c (.str []))), oo 4 (.mov (.c (.bool false)))]) (.seq (.seq (rg [mv 6 0, oo 7 (.len 0 (.t 6)), oo 8 (.bin .lss .other true (.t 7) (ci 1)), mv 9 8, og 10 (.mov (.t 0)) 9 false, og 11 (.call (.c (.func (.func 99) [])) [(.t 10)]) 9 false, og 12 (.un .not (.t 11)) 9 false, oo 13 (.pick (.t 9) (.c (.bool true)) (.t 12))]) (.cond (.t 13) (.seq (rg [oo 2 (.mov (.c (.str []))), oo 3 (.mov (.c (.str []))), oo 4 (.mov (.c (.bool false)))]) .ret) .skip)) (.seq (.seq (rg [mv 14 0, oo 15 (.len 0 (.t 14)), oo 16 (.bin .leq .other true (.t 15) (ci 100))]) (.cond (.t 16) (.seq (rg [mv 17 0, oo 2 (.mov (.c (.str []))), mv 3 17, oo 4 (.mov (.c (.bool true)))]) .ret) .skip)) (.seq (.seq (rg [oo 5 (.mov (ci 1))]) (.block 0 (.loop [0, 2, 3, 4, 5] l57_0))) r57_0))))⟩
theorem fn57 : AA.fn 57 = some b57 := by kernel_rfl
theorem np57 : AA.prim 57 = none := rfl
def b58 : AFn := ⟨1, 9, [(2, none)], (.seq (rg [oo 2 (.mov (.c (.bool false)))]) (.seq (rg [mv 3 0, oo 4 (.bin .geq .other true (.t 3) (ci 0)), mv 5 4, og 6 (.mov (.t 0)) 5 true, og 7 (.bin .leq .other true (.t 6) (ci 2097151)) 5 true, oo 8 (.pick (.t 5) (.t 7) (.c (.bool false))), mv 2 8]) .ret))⟩
theorem fn58 : AA.fn 58 = some b58 := by kernel_rfl
theorem np58 : AA.prim 58 = none := rfl
def b59 : AFn := ⟨1, 15, [(2, none)], (.seq (rg [oo 2 (.mov (.c (.bool false)))]) (.seq (rg [mv 3 0, oo 4 (.len 0 (.t 3)), oo 5 (.bin .geq .other true (.t 4) (ci 1)), mv 6 5, og 7 (.mov (.t 0)) 6 true, og 8 (.len 0 (.t 7)) 6 true, og 9 (.bin .leq .other true (.t 8) (ci 100)) 6 true, oo 10 (.pick (.t 6) (.t 9) (.c (.bool false))), mv 11 10, og 12 (.mov (.t 0)) 11 true, og 13 (.call (.c (.func (.func 99) [])) [(.t 12)]) 11 true, oo 14 (.pick (.t 11) (.t 13) (.c (.bool false))), mv 2 14]) .ret))⟩
theorem fn59 : AA.fn 59 = some b59 := by kernel_rfl
theorem np59 : AA.prim 59 = none := rfl
def b60 : AFn := ⟨1, 9, [(2, none)], (.seq (rg [oo 2 (.mov (.c (.bool false)))]) (.seq (rg [mv 3 0, oo 4 (.bin .geq .other true (.t 3) (ci 0)), mv 5 4, og 6 (.mov (.t 0)) 5 true, og 7 (.bin .leq .other true (.t 6) (ci 8589934591)) 5 true, oo 8 (.pick (.t 5) (.t 7) (.c (.bool false))), mv 2 8]) .ret))⟩
theorem fn60 : AA.fn 60 = some b60 := by kernel_rfl
theorem np60 : AA.prim 60 = none := rfl
end Go.Abs
