import Derived.Test.YtambgnjkakdoeaaGreatDoorArchives6
import Derived.Below
import Derived.BigCall
import Derived.BigFrameIn
import Derived.BigGuard
import Derived.ChangeArms
import Derived.ChangeSlices
import Derived.Deep.Draws
import Derived.Ground.NamesProg
import Derived.Laws.Strings3
import Derived.Lib.Bytealg
import Derived.Lib.BytesEntry
import Derived.Lib.CutLaws
import Derived.Lib.IndexBytes
import Derived.Lib.Slices
import Derived.Lib.Strings
import Derived.Lib.Walk
import Derived.LoopIn
import Derived.LoopNIn
import Derived.Maps.AppendAt
import Derived.OwnWalkIn
import Derived.ProofKit
import Derived.RangeFuncBox
import Derived.RangeFuncCalls
import Derived.RangeFuncLeaves
import Derived.RangeFuncRecord
import Derived.Shelf.Abstract
import Derived.Shelf.Lays
import Derived.Shelf.RegionOpenPlain
import Derived.Shelf.Strconv.AtoiAll
import Derived.Shelf.Strconv.Itoa4
import Derived.Shelf.Strings.Search2
import Derived.Shelf.Unicode.ValidAny
import Derived.TacticsInMore
import Derived.Test.YtambgnjkakdoeaaGreatDoorProg
import Derived.WalkKit
import Derived.WalkSmall
/- PART OF A PROOF (texts joined by a program): L1 F1 Shelf P1 R0 N1 N2 N3 N4 N20 B11 B12 B13 B14. -/
set_option linter.unusedVariables false
set_option linter.unusedSimpArgs false
set_option linter.unusedSectionVars false
namespace Am
open Go.Lib
def splitOn (c : UInt8) : List UInt8 → List (List UInt8)
  | [] => [[]]
  | x :: r => if x = c then [] :: splitOn c r else match splitOn c r with
    | [] => [[x]]
    | p :: ps => (x :: p) :: ps
theorem splitOn_ne (c : UInt8) (s : List UInt8) : splitOn c s ≠ [] := by
  cases s with
  | nil => simp [splitOn]
  | cons x r =>
    unfold splitOn
    split
    · simp
    · split <;> simp
theorem indexByte_lt {s : List UInt8} {c : UInt8} : indexByte s c < s.length := by
  induction s with
  | nil => simp [indexByte]
  | cons b l ih =>
    unfold indexByte
    simp only [List.length_cons]
    split
    · omega
    · split <;> omega
theorem split_none : ∀ {s : List UInt8} {c : UInt8}, indexByte s c < 0 → splitOn c s = [s] ∧ countByte s c = 0
  | [], c, _ => by simp [splitOn, countByte]
  | b :: l, c, h => by
    have hge := indexByte_ge l c
    unfold indexByte at h
    split at h
    · omega
    · rename_i hbc
      have hb : b ≠ c := by simpa using hbc
      have hl : indexByte l c < 0 := by
        split at h
        · rename_i h1
          have : indexByte l c = -1 := by simpa using h1
          omega
        · omega
      obtain ⟨h1, h2⟩ := split_none hl
      refine ⟨by simp [splitOn, hb, h1], ?_⟩
      unfold countByte at *
      rw [List.count_cons_of_ne hb]
      exact h2
theorem split_some : ∀ {s : List UInt8} {c : UInt8}, 0 ≤ indexByte s c → splitOn c s = s.take (indexByte s c).toNat :: splitOn c (s.drop ((indexByte s c).toNat + 1)) ∧ countByte s c = countByte (s.drop ((indexByte s c).toNat + 1)) c + 1
  | [], c, h => by simp [indexByte] at h
  | b :: l, c, h => by
    have hge := indexByte_ge l c
    by_cases hbc : b = c
    · subst hbc
      have e : indexByte (b :: l) b = 0 := by simp [indexByte]
      rw [e]
      simp [splitOn, countByte]
    · have hl : indexByte l c ≠ -1 := by
        intro h1
        simp [indexByte, hbc, h1] at h
      have e : indexByte (b :: l) c = indexByte l c + 1 := by simp [indexByte, hbc, hl]
      rw [e]
      have e2 : (indexByte l c + 1).toNat = (indexByte l c).toNat + 1 := by omega
      obtain ⟨h1, h2⟩ := split_some (s := l) (c := c) (by omega)
      rw [e2]
      refine ⟨by simp [splitOn, hbc, h1], ?_⟩
      unfold countByte at *
      rw [List.count_cons_of_ne hbc, List.drop_succ_cons]
      exact h2
theorem splitOn_cons (c x : UInt8) (r : List UInt8) : splitOn c (x :: r) = if x = c then [] :: splitOn c r else match splitOn c r with
    | [] => [[x]]
    | p :: ps => (x :: p) :: ps := rfl
theorem split_length (c : UInt8) : ∀ (s : List UInt8), (splitOn c s).length = countByte s c + 1
  | [] => by simp [splitOn, countByte]
  | b :: l => by
    have ih := split_length c l
    rw [splitOn_cons]
    unfold countByte at *
    split
    · rename_i h
      subst h
      simp [ih]
    · rename_i h
      rw [List.count_cons_of_ne h]
      split
      · rename_i he
        exact (splitOn_ne c l he).elim
      · rename_i p ps he
        rw [he] at ih
        simpa using ih
theorem count_le (s : List UInt8) (c : UInt8) : countByte s c ≤ s.length := List.count_le_length
end Am
namespace Go.Abs
open Am
set_option maxRecDepth 10000
theorem s227 (s : List UInt8) (c : Int) : callT AA 227 [.str s, .int .u8 c] [] = some (.int .i64 (Lib.indexByte s c.toNat.toUInt8), []) := by
  refine enter fn227 np227 rfl ?_
  simp (maxSteps:=2000000) (disch:=first | omega | (repeat' (first | exact RowOf.strs | exact RowOf.bytes | exact RowOf.nil | exact RowOf.replicate rfl | refine RowOf.append ?_ ?_ | refine RowOf.cons rfl ?_))) only [b227, go_sem, Nat.reduceAdd, Nat.reduceSub, Nat.reduceMul, Nat.reduceLT, Nat.reduceLeDiff, Nat.reduceEqDiff, Nat.reduceBEq, Int.reduceLT, Int.reduceLE, Int.reduceEq, Int.reduceToNat, ↓reduceIte, reduceCtorEq, decide_true, decide_false, Bool.not_true, Bool.not_false, Bool.and_true, Bool.and_false, Bool.true_and, Bool.false_and, Bool.or_true, Bool.or_false, Bool.true_or, Bool.false_or, List.isEmpty_nil, List.isEmpty_cons, Bool.false_eq_true, true_and, and_true, Nat.zero_le, Nat.not_lt_zero, beq_self_eq_true, List.length_nil, wrap_i64, wrap_u8, wrap_i32, wrap_u32, wrap_u64, Option.some.injEq, forall_eq', Int.natCast_zero, Int.natCast_one, cast_lit, Int.toNat_natCast, eq_self, if_true, if_false, u8_back, decide_eq_true, decide_eq_false, toNat_succ, Int.natCast_add, Nat.le_refl, Int.le_refl, beq_true, beq_false, true_or, or_true, false_or, or_false]
theorem index_one (c : UInt8) : Lib.indexByte [c] c = 0 := by simp [Lib.indexByte]
theorem s202 (s : List UInt8) (c : UInt8) : callT AA 202 [.str s, .str [c]] [] = some (.int .i64 (Lib.indexByte s c), []) := by
  refine enter fn202 np202 rfl ?_
  have gg:=trivial;repeat' first|simp (maxSteps:=2000000) (disch:=first | omega | (repeat' (first | exact RowOf.strs | exact RowOf.bytes | exact RowOf.nil | exact RowOf.replicate rfl | refine RowOf.append ?_ ?_ | refine RowOf.cons rfl ?_))) only [gg,b202,s227,go_sem,Nat.reduceAdd,Nat.reduceSub,Nat.reduceMul,Nat.reduceLT,Nat.reduceLeDiff,Nat.reduceEqDiff,Nat.reduceBEq,Int.reduceLT,Int.reduceLE,Int.reduceEq,Int.reduceToNat,↓reduceIte,reduceCtorEq,decide_true,decide_false,Bool.not_true,Bool.not_false,Bool.and_true,Bool.and_false,Bool.true_and,Bool.false_and,Bool.or_true,Bool.or_false,Bool.true_or,Bool.false_or,List.isEmpty_nil,List.isEmpty_cons,Bool.false_eq_true,true_and,and_true,Nat.zero_le,Nat.not_lt_zero,beq_self_eq_true,List.length_nil,wrap_i64,wrap_u8,wrap_i32,wrap_u32,wrap_u64,Option.some.injEq,forall_eq',Int.natCast_zero,Int.natCast_one,cast_lit,Int.toNat_natCast,eq_self,if_true,if_false,u8_back,decide_eq_true,decide_eq_false,toNat_succ,Int.natCast_add,Nat.le_refl,Int.le_refl,beq_true,beq_false,true_or,or_true,false_or,or_false]|(refine br ?_ ?_<;>intro gg<;>try omega)|(apply And.intro;focus omega)|omega
  all_goals (first | subst hg | subst gg | skip)
  all_goals (try simp [index_one])
theorem s237 (s : List UInt8) (c : UInt8) : callT AA 237 [.str s, .str [c]] [] = some (.int .i64 (Lib.indexByte s c), []) := by
  refine enter fn237 np237 rfl ?_
  simp (maxSteps:=2000000) (disch:=first | omega | (repeat' (first | exact RowOf.strs | exact RowOf.bytes | exact RowOf.nil | exact RowOf.replicate rfl | refine RowOf.append ?_ ?_ | refine RowOf.cons rfl ?_))) only [b237, s202, go_sem, Nat.reduceAdd, Nat.reduceSub, Nat.reduceMul, Nat.reduceLT, Nat.reduceLeDiff, Nat.reduceEqDiff, Nat.reduceBEq, Int.reduceLT, Int.reduceLE, Int.reduceEq, Int.reduceToNat, ↓reduceIte, reduceCtorEq, decide_true, decide_false, Bool.not_true, Bool.not_false, Bool.and_true, Bool.and_false, Bool.true_and, Bool.false_and, Bool.or_true, Bool.or_false, Bool.true_or, Bool.false_or, List.isEmpty_nil, List.isEmpty_cons, Bool.false_eq_true, true_and, and_true, Nat.zero_le, Nat.not_lt_zero, beq_self_eq_true, List.length_nil, wrap_i64, wrap_u8, wrap_i32, wrap_u32, wrap_u64, Option.some.injEq, forall_eq', Int.natCast_zero, Int.natCast_one, cast_lit, Int.toNat_natCast, eq_self, if_true, if_false, u8_back, decide_eq_true, decide_eq_false, toNat_succ, Int.natCast_add, Nat.le_refl, Int.le_refl, beq_true, beq_false, true_or, or_true, false_or, or_false]
theorem s246 (s : List UInt8) (c : UInt8)  : callT AA 246 [.str s, .str [c]] [] = some (.int .i64 (Lib.countByte s c), []) := by
  refine enter fn246 np246 rfl ?_
  have gg:=trivial;repeat' first|simp (maxSteps:=2000000) (disch:=first | omega | (repeat' (first | exact RowOf.strs | exact RowOf.bytes | exact RowOf.nil | exact RowOf.replicate rfl | refine RowOf.append ?_ ?_ | refine RowOf.cons rfl ?_))) only [gg,b246,s237,go_sem,Nat.reduceAdd,Nat.reduceSub,Nat.reduceMul,Nat.reduceLT,Nat.reduceLeDiff,Nat.reduceEqDiff,Nat.reduceBEq,Int.reduceLT,Int.reduceLE,Int.reduceEq,Int.reduceToNat,↓reduceIte,reduceCtorEq,decide_true,decide_false,Bool.not_true,Bool.not_false,Bool.and_true,Bool.and_false,Bool.true_and,Bool.false_and,Bool.or_true,Bool.or_false,Bool.true_or,Bool.false_or,List.isEmpty_nil,List.isEmpty_cons,Bool.false_eq_true,true_and,and_true,Nat.zero_le,Nat.not_lt_zero,beq_self_eq_true,List.length_nil,wrap_i64,wrap_u8,wrap_i32,wrap_u32,wrap_u64,Option.some.injEq,forall_eq',Int.natCast_zero,Int.natCast_one,cast_lit,Int.toNat_natCast,eq_self,if_true,if_false,u8_back,decide_eq_true,decide_eq_false,toNat_succ,Int.natCast_add,Nat.le_refl,Int.le_refl,beq_true,beq_false,true_or,or_true,false_or,or_false]|(refine br ?_ ?_<;>intro gg<;>try omega)|(apply And.intro;focus omega)|omega
theorem s192 (s : List UInt8) (c : Int) : callT AA 192 [.str s, .int .u8 c] [] = some (.int .i64 (Lib.indexByte s c.toNat.toUInt8), []) := by
  refine enter fn192 np192 rfl ?_
  simp (maxSteps:=2000000) (disch:=first | omega | (repeat' (first | exact RowOf.strs | exact RowOf.bytes | exact RowOf.nil | exact RowOf.replicate rfl | refine RowOf.append ?_ ?_ | refine RowOf.cons rfl ?_))) only [b192, s227, go_sem, Nat.reduceAdd, Nat.reduceSub, Nat.reduceMul, Nat.reduceLT, Nat.reduceLeDiff, Nat.reduceEqDiff, Nat.reduceBEq, Int.reduceLT, Int.reduceLE, Int.reduceEq, Int.reduceToNat, ↓reduceIte, reduceCtorEq, decide_true, decide_false, Bool.not_true, Bool.not_false, Bool.and_true, Bool.and_false, Bool.true_and, Bool.false_and, Bool.or_true, Bool.or_false, Bool.true_or, Bool.false_or, List.isEmpty_nil, List.isEmpty_cons, Bool.false_eq_true, true_and, and_true, Nat.zero_le, Nat.not_lt_zero, beq_self_eq_true, List.length_nil, wrap_i64, wrap_u8, wrap_i32, wrap_u32, wrap_u64, Option.some.injEq, forall_eq', Int.natCast_zero, Int.natCast_one, cast_lit, Int.toNat_natCast, eq_self, if_true, if_false, u8_back, decide_eq_true, decide_eq_false, toNat_succ, Int.natCast_add, Nat.le_refl, Int.le_refl, beq_true, beq_false, true_or, or_true, false_or, or_false]
theorem s225 (s : List UInt8) (c : UInt8) : callT AA 225 [.str s, .str [c]] [] = some (.bool (decide (0 ≤ Lib.indexByte s c)), []) := by
  refine enter fn225 np225 rfl ?_
  simp (maxSteps:=2000000) (disch:=first | omega | (repeat' (first | exact RowOf.strs | exact RowOf.bytes | exact RowOf.nil | exact RowOf.replicate rfl | refine RowOf.append ?_ ?_ | refine RowOf.cons rfl ?_))) only [b225, s237, go_sem, Nat.reduceAdd, Nat.reduceSub, Nat.reduceMul, Nat.reduceLT, Nat.reduceLeDiff, Nat.reduceEqDiff, Nat.reduceBEq, Int.reduceLT, Int.reduceLE, Int.reduceEq, Int.reduceToNat, ↓reduceIte, reduceCtorEq, decide_true, decide_false, Bool.not_true, Bool.not_false, Bool.and_true, Bool.and_false, Bool.true_and, Bool.false_and, Bool.or_true, Bool.or_false, Bool.true_or, Bool.false_or, List.isEmpty_nil, List.isEmpty_cons, Bool.false_eq_true, true_and, and_true, Nat.zero_le, Nat.not_lt_zero, beq_self_eq_true, List.length_nil, wrap_i64, wrap_u8, wrap_i32, wrap_u32, wrap_u64, Option.some.injEq, forall_eq', Int.natCast_zero, Int.natCast_one, cast_lit, Int.toNat_natCast, eq_self, if_true, if_false, u8_back, decide_eq_true, decide_eq_false, toNat_succ, Int.natCast_add, Nat.le_refl, Int.le_refl, beq_true, beq_false, true_or, or_true, false_or, or_false]
theorem set_mid {α : Type} {a r : List α} {x y : α} {n : Nat} (h : n = a.length) : (a ++ x :: r).set n y = a ++ y :: r := by subst h; simp
theorem h223 (c : UInt8) (parts : List (List UInt8)) : ∀ (k : Nat) (s : List UInt8) (done : List (List UInt8)) (n i : Int) (q : Nat), Lib.countByte s c = k → s.length ≤ 1000000 → done.length + k ≤ 1000000 → parts = done ++ splitOn c s → n = done.length + k → i = done.length → q = done.length + k + 1 →
    HD AA 0 [0, 1, 2, 3, 8, 9, 10] l223_0 ⟨[.str s, .str [c], .int .i64 0, .int .i64 n, .junk, .junk, .junk, .junk, .lit (.slice none 0 0), .own 0 1 0 q false, .int .i64 i, .junk, .junk, .junk, .junk, .junk, .junk, .junk, .junk, .junk, .junk, .junk, .junk, .junk, .junk, .junk, .junk, .junk, .junk, .junk, .junk, .junk, .junk, .junk, .junk, .junk, .junk, .junk, .junk, .junk, .junk, .junk, .junk, .junk, .junk, .junk, .junk, .junk, .junk, .junk, .junk, .junk, .junk, .junk, .junk, .junk, .junk, .junk, .junk, .junk, .junk, .junk, .junk, .junk, .junk, .junk], [(0, .row (done.map .str ++ .str [] :: List.replicate k (.str [])) 1)], 1⟩ [.blk 0, .code r223_0] (Fin [(8, none)] 0 (.own 0 1 0 parts.length false) [(0, .row (parts.map .str) 1)]) := by
  intro k s done n i q h1 h2 h3 h4 h5 h6 h7
  have i1 := Lib.indexByte_ge s c
  have i2 := @indexByte_lt s c
  have hm : (done.map AVal.str).length = done.length := by simp
  have hi6 : i.toNat = done.length := by omega
  by_cases hi : Lib.indexByte s c < 0
  · obtain ⟨e1, e2⟩ := split_none hi
    have : k = 0 := by omega
    subst this
    rw [e1] at h4
    subst h4
    refine hd_of (by unfold l223_0; rfl) ?_
    have gg:=trivial;repeat' first|simp (maxSteps:=2000000) (disch:=first | omega | (repeat' (first | exact RowOf.strs | exact RowOf.bytes | exact RowOf.nil | exact RowOf.replicate rfl | refine RowOf.append ?_ ?_ | refine RowOf.cons rfl ?_))) only [gg,s237,r223_0,set_mid,List.map_append,hi6,List.replicate_zero,go_sem,Nat.reduceAdd,Nat.reduceSub,Nat.reduceMul,Nat.reduceLT,Nat.reduceLeDiff,Nat.reduceEqDiff,Nat.reduceBEq,Int.reduceLT,Int.reduceLE,Int.reduceEq,Int.reduceToNat,↓reduceIte,reduceCtorEq,decide_true,decide_false,Bool.not_true,Bool.not_false,Bool.and_true,Bool.and_false,Bool.true_and,Bool.false_and,Bool.or_true,Bool.or_false,Bool.true_or,Bool.false_or,List.isEmpty_nil,List.isEmpty_cons,Bool.false_eq_true,true_and,and_true,Nat.zero_le,Nat.not_lt_zero,beq_self_eq_true,List.length_nil,wrap_i64,wrap_u8,wrap_i32,wrap_u32,wrap_u64,Option.some.injEq,forall_eq',Int.natCast_zero,Int.natCast_one,cast_lit,Int.toNat_natCast,eq_self,if_true,if_false,u8_back,decide_eq_true,decide_eq_false,toNat_succ,Int.natCast_add,Nat.le_refl,Int.le_refl,beq_true,beq_false,true_or,or_true,false_or,or_false]|(refine br ?_ ?_<;>intro gg<;>try omega)|(apply And.intro;focus omega)|omega
  · obtain ⟨e1, e2⟩ := split_some (s := s) (c := c) (by first | omega | (simp; omega) | (simp; done))
    refine hd_of (by unfold l223_0; rfl) ?_
    obtain ⟨k', rfl⟩ : ∃ k', k = k' + 1 := ⟨k - 1, by omega⟩
    have gg:=trivial;repeat' first|simp (maxSteps:=2000000) (disch:=first | omega | (repeat' (first | exact RowOf.strs | exact RowOf.bytes | exact RowOf.nil | exact RowOf.replicate rfl | refine RowOf.append ?_ ?_ | refine RowOf.cons rfl ?_))) only [gg,s237,set_mid,hi6,lp_head,List.replicate_succ,go_sem,Nat.reduceAdd,Nat.reduceSub,Nat.reduceMul,Nat.reduceLT,Nat.reduceLeDiff,Nat.reduceEqDiff,Nat.reduceBEq,Int.reduceLT,Int.reduceLE,Int.reduceEq,Int.reduceToNat,↓reduceIte,reduceCtorEq,decide_true,decide_false,Bool.not_true,Bool.not_false,Bool.and_true,Bool.and_false,Bool.true_and,Bool.false_and,Bool.or_true,Bool.or_false,Bool.true_or,Bool.false_or,List.isEmpty_nil,List.isEmpty_cons,Bool.false_eq_true,true_and,and_true,Nat.zero_le,Nat.not_lt_zero,beq_self_eq_true,List.length_nil,wrap_i64,wrap_u8,wrap_i32,wrap_u32,wrap_u64,Option.some.injEq,forall_eq',Int.natCast_zero,Int.natCast_one,cast_lit,Int.toNat_natCast,eq_self,if_true,if_false,u8_back,decide_eq_true,decide_eq_false,toNat_succ,Int.natCast_add,Nat.le_refl,Int.le_refl,beq_true,beq_false,true_or,or_true,false_or,or_false]|(refine br ?_ ?_<;>intro gg<;>try omega)|(apply And.intro;focus omega)|omega
    have ih := h223 c parts k' (s.drop ((Lib.indexByte s c).toNat + 1)) (done ++ [s.take (Lib.indexByte s c).toNat]) n (i + 1) q (by first | omega | (simp; omega) | (simp; done)) (by first | omega | (simp; omega) | (simp; done)) (by first | omega | (simp; omega) | (simp; done)) (by rw [h4, e1]; simp) (by first | omega | (simp; omega) | (simp; done)) (by first | omega | (simp; omega) | (simp; done)) (by first | omega | (simp; omega) | (simp; done))
    simp only [List.map_append, List.append_assoc, List.map_cons, List.map_nil, List.cons_append, List.nil_append] at ih
    exact ih
theorem s223 (s : List UInt8) (c : UInt8) (hs : s.length ≤ 1000000) : callT AA 223 [.str s, .str [c], .int .i64 0, .int .i64 (-1)] [] = some (.own 0 1 0 (splitOn c s).length false, [(0, .row ((splitOn c s).map .str) 1)]) := by
  have hc := count_le s c
  have hl := split_length c s
  refine enter fn223 np223 rfl ?_
  have gg:=trivial;repeat' first|simp (maxSteps:=2000000) (disch:=first | omega | (repeat' (first | exact RowOf.strs | exact RowOf.bytes | exact RowOf.nil | exact RowOf.replicate rfl | refine RowOf.append ?_ ?_ | refine RowOf.cons rfl ?_))) only [gg,b223,s237,s246,if_neg,List.headD_cons,lp_head,List.replicate_succ,go_sem,Nat.reduceAdd,Nat.reduceSub,Nat.reduceMul,Nat.reduceLT,Nat.reduceLeDiff,Nat.reduceEqDiff,Nat.reduceBEq,Int.reduceLT,Int.reduceLE,Int.reduceEq,Int.reduceToNat,↓reduceIte,reduceCtorEq,decide_true,decide_false,Bool.not_true,Bool.not_false,Bool.and_true,Bool.and_false,Bool.true_and,Bool.false_and,Bool.or_true,Bool.or_false,Bool.true_or,Bool.false_or,List.isEmpty_nil,List.isEmpty_cons,Bool.false_eq_true,true_and,and_true,Nat.zero_le,Nat.not_lt_zero,beq_self_eq_true,List.length_nil,wrap_i64,wrap_u8,wrap_i32,wrap_u32,wrap_u64,Option.some.injEq,forall_eq',Int.natCast_zero,Int.natCast_one,cast_lit,Int.toNat_natCast,eq_self,if_true,if_false,u8_back,decide_eq_true,decide_eq_false,toNat_succ,Int.natCast_add,Nat.le_refl,Int.le_refl,beq_true,beq_false,true_or,or_true,false_or,or_false]|(refine br ?_ ?_<;>intro gg<;>try omega)|(apply And.intro;focus omega)|omega
  exact h223 c _ _ s [] _ _ _ rfl hs (by first | omega | (simp; omega) | (simp; done)) rfl (by first | omega | (simp; omega) | (simp; done)) (by simp) (by first | omega | (simp; omega) | (simp; done))
theorem s187 (s : List UInt8) (c : UInt8) (hs : s.length ≤ 1000000) : callT AA 187 [.str s, .str [c]] [] = some (.own 0 1 0 (splitOn c s).length false, [(0, .row ((splitOn c s).map .str) 1)]) := by
  have h := s223 s c hs
  refine enter fn187 np187 rfl ?_
  have gg:=trivial;repeat' first|simp (maxSteps:=2000000) (disch:=first | omega | (repeat' (first | exact RowOf.strs | exact RowOf.bytes | exact RowOf.nil | exact RowOf.replicate rfl | refine RowOf.append ?_ ?_ | refine RowOf.cons rfl ?_))) only [gg,b187,h,go_sem,Nat.reduceAdd,Nat.reduceSub,Nat.reduceMul,Nat.reduceLT,Nat.reduceLeDiff,Nat.reduceEqDiff,Nat.reduceBEq,Int.reduceLT,Int.reduceLE,Int.reduceEq,Int.reduceToNat,↓reduceIte,reduceCtorEq,decide_true,decide_false,Bool.not_true,Bool.not_false,Bool.and_true,Bool.and_false,Bool.true_and,Bool.false_and,Bool.or_true,Bool.or_false,Bool.true_or,Bool.false_or,List.isEmpty_nil,List.isEmpty_cons,Bool.false_eq_true,true_and,and_true,Nat.zero_le,Nat.not_lt_zero,beq_self_eq_true,List.length_nil,wrap_i64,wrap_u8,wrap_i32,wrap_u32,wrap_u64,Option.some.injEq,forall_eq',Int.natCast_zero,Int.natCast_one,cast_lit,Int.toNat_natCast,eq_self,if_true,if_false,u8_back,decide_eq_true,decide_eq_false,toNat_succ,Int.natCast_add,Nat.le_refl,Int.le_refl,beq_true,beq_false,true_or,or_true,false_or,or_false]|(refine br ?_ ?_<;>intro gg<;>try omega)|(apply And.intro;focus omega)|omega
end Go.Abs
namespace Go.Proofs
open Go.Shelf
def Tryz.laysValid_ren : Go.Shelf.Ren := ⟨fun | 196 => 191 | 259 => 226 | n => n, fun | 9 => 9 | 4 => 4 | 3 => 3 | 5 => 5 | 12 => 12 | 119 => 252 | 0 => 0 | 46 => 78 | 139 => 255 | 138 => 254 | 53 => 80 | n => n, fun | 3 => 2 | 4 => 3 | n => n⟩
theorem Tryz.laysValid : Go.Proofs.Lays.n196 Tryz.prog Tryz.laysValid_ren := {
  mixed := by kernel_rfl
  f196 := Tryz.func191.trans (congrArg some (by kernel_rfl))
  f259 := Tryz.func226.trans (congrArg some (by kernel_rfl))
  t0 := Tryz.underlying0
  a0 := Tryz.isAgg0
  z0 := Tryz.sizeOf0
  v0 := Tryz.zeroValue0
  t3 := Tryz.underlying3
  a3 := Tryz.isAgg3
  z3 := Tryz.sizeOf3
  v3 := Tryz.zeroValue3
  t4 := Tryz.underlying4
  a4 := Tryz.isAgg4
  z4 := Tryz.sizeOf4
  v4 := Tryz.zeroValue4
  t5 := Tryz.underlying5
  a5 := Tryz.isAgg5
  z5 := Tryz.sizeOf5
  v5 := Tryz.zeroValue5
  t9 := Tryz.underlying9
  a9 := Tryz.isAgg9
  z9 := Tryz.sizeOf9
  v9 := Tryz.zeroValue9
  t12 := Tryz.underlying12
  a12 := Tryz.isAgg12
  z12 := Tryz.sizeOf12
  v12 := Tryz.zeroValue12
  t46 := Tryz.underlying78
  a46 := Tryz.isAgg78
  z46 := Tryz.sizeOf78
  v46 := Tryz.zeroValue78
  t53 := Tryz.underlying80
  a53 := Tryz.isAgg80
  z53 := Tryz.sizeOf80
  v53 := Tryz.zeroValue80
  t119 := Tryz.underlying252
  a119 := Tryz.isAgg252
  z119 := Tryz.sizeOf252
  t138 := Tryz.underlying254
  a138 := Tryz.isAgg254
  z138 := Tryz.sizeOf254
  v138 := Tryz.zeroValue254
  t139 := Tryz.underlying255
  a139 := Tryz.isAgg255
  z139 := Tryz.sizeOf255
  v139 := Tryz.zeroValue255
  g3 := by kernel_rfl
  g4 := by kernel_rfl }
def Tryz.laysItoa_ren : Go.Shelf.Ren := ⟨fun | 243 => 98 | 246 => 142 | 283 => 183 | 284 => 184 | 285 => 185 | 286 => 186 | 129 => 174 | 317 => 219 | 318 => 220 | 319 => 221 | 320 => 222 | 337 => 243 | 338 => 244 | n => n, fun | 3 => 3 | 9 => 9 | 2 => 2 | 4 => 4 | 171 => 217 | 0 => 0 | 53 => 80 | 37 => 26 | 5 => 5 | 173 => 219 | 212 => 247 | 51 => 205 | 20 => 20 | 213 => 248 | 46 => 78 | 232 => 282 | 233 => 283 | n => n, fun | 17 => 1 | 18 => 6 | 19 => 7 | n => n⟩
theorem Tryz.laysItoa : Go.Proofs.LaysM.n243 Tryz.prog Tryz.laysItoa_ren := {
  mixed := by kernel_rfl
  f129 := Tryz.func174.trans (congrArg some (by kernel_rfl))
  f243 := Tryz.func98.trans (congrArg some (by kernel_rfl))
  f246 := Tryz.func142.trans (congrArg some (by kernel_rfl))
  f283 := Tryz.func183.trans (congrArg some (by kernel_rfl))
  f284 := Tryz.func184.trans (congrArg some (by kernel_rfl))
  f285 := Tryz.func185.trans (congrArg some (by kernel_rfl))
  f286 := Tryz.func186.trans (congrArg some (by kernel_rfl))
  f317 := Tryz.func219.trans (congrArg some (by kernel_rfl))
  f318 := Tryz.func220.trans (congrArg some (by kernel_rfl))
  f319 := Tryz.func221.trans (congrArg some (by kernel_rfl))
  f320 := Tryz.func222.trans (congrArg some (by kernel_rfl))
  f337 := Tryz.func243.trans (congrArg some (by kernel_rfl))
  f338 := Tryz.func244.trans (congrArg some (by kernel_rfl))
  t0 := Tryz.underlying0
  a0 := Tryz.isAgg0
  z0 := Tryz.sizeOf0
  v0 := Tryz.zeroValue0
  t2 := Tryz.underlying2
  a2 := Tryz.isAgg2
  z2 := Tryz.sizeOf2
  v2 := Tryz.zeroValue2
  t3 := Tryz.underlying3
  a3 := Tryz.isAgg3
  z3 := Tryz.sizeOf3
  v3 := Tryz.zeroValue3
  t4 := Tryz.underlying4
  a4 := Tryz.isAgg4
  z4 := Tryz.sizeOf4
  v4 := Tryz.zeroValue4
  t5 := Tryz.underlying5
  a5 := Tryz.isAgg5
  z5 := Tryz.sizeOf5
  v5 := Tryz.zeroValue5
  t9 := Tryz.underlying9
  a9 := Tryz.isAgg9
  z9 := Tryz.sizeOf9
  v9 := Tryz.zeroValue9
  t20 := Tryz.underlying20
  a20 := Tryz.isAgg20
  z20 := Tryz.sizeOf20
  v20 := Tryz.zeroValue20
  t37 := Tryz.underlying26
  a37 := Tryz.isAgg26
  z37 := Tryz.sizeOf26
  v37 := Tryz.zeroValue26
  t46 := Tryz.underlying78
  a46 := Tryz.isAgg78
  z46 := Tryz.sizeOf78
  v46 := Tryz.zeroValue78
  t51 := Tryz.underlying205
  a51 := Tryz.isAgg205
  z51 := Tryz.sizeOf205
  v51 := Tryz.zeroValue205
  t53 := Tryz.underlying80
  a53 := Tryz.isAgg80
  z53 := Tryz.sizeOf80
  v53 := Tryz.zeroValue80
  t171 := Tryz.underlying217
  a171 := Tryz.isAgg217
  z171 := Tryz.sizeOf217
  v171 := Tryz.zeroValue217
  t173 := Tryz.underlying219
  a173 := Tryz.isAgg219
  z173 := Tryz.sizeOf219
  v173 := Tryz.zeroValue219
  t212 := Tryz.underlying247
  a212 := Tryz.isAgg247
  z212 := Tryz.sizeOf247
  v212 := Tryz.zeroValue247
  t213 := Tryz.underlying248
  a213 := Tryz.isAgg248
  z213 := Tryz.sizeOf248
  t232 := Tryz.underlying282
  a232 := Tryz.isAgg282
  z232 := Tryz.sizeOf282
  v232 := Tryz.zeroValue282
  t233 := Tryz.underlying283
  a233 := Tryz.isAgg283
  z233 := Tryz.sizeOf283
  v233 := Tryz.zeroValue283
  g17 := by kernel_rfl
  g18 := by kernel_rfl
  g19 := by kernel_rfl
  i0 := by kernel_rfl
  i2 := by kernel_rfl
  i3 := by kernel_rfl
  i4 := by kernel_rfl
  i5 := by kernel_rfl
  i9 := by kernel_rfl
  i20 := by kernel_rfl
  i37 := by kernel_rfl
  i46 := by kernel_rfl
  i51 := by kernel_rfl
  i53 := by kernel_rfl
  i171 := by kernel_rfl
  i173 := by kernel_rfl
  i212 := by kernel_rfl
  i232 := by kernel_rfl
  i233 := by kernel_rfl
  m17 := by kernel_rfl
  m18 := by kernel_rfl
  m19 := by kernel_rfl }
def Tryz.laysAtoi_ren : Go.Shelf.Ren := ⟨fun | 172 => 118 | 244 => 153 | 245 => 154 | 247 => 197 | 279 => 198 | 280 => 199 | 281 => 200 | 282 => 201 | 287 => 230 | 316 => 231 | 171 => 56 | 205 => 232 | 321 => 248 | 322 => 249 | 243 => 98 | 246 => 142 | 283 => 183 | 284 => 184 | 285 => 185 | 286 => 186 | 129 => 174 | 317 => 219 | 318 => 220 | 319 => 221 | 320 => 222 | 337 => 243 | 338 => 244 | n => n, fun | 9 => 9 | 3 => 3 | 75 => 28 | 76 => 54 | 4 => 4 | 5 => 5 | 167 => 224 | 37 => 26 | 0 => 0 | 85 => 225 | 2 => 2 | 168 => 227 | 53 => 80 | 175 => 242 | 46 => 78 | 210 => 261 | 127 => 277 | 145 => 280 | 143 => 278 | 21 => 21 | 171 => 217 | 173 => 219 | 212 => 247 | 51 => 205 | 20 => 20 | 213 => 248 | 232 => 282 | 233 => 283 | 80 => 269 | n => n, fun | 15 => 4 | 16 => 5 | 17 => 1 | 18 => 6 | 19 => 7 | n => n⟩
theorem Tryz.laysAtoi : Go.Proofs.LaysC.n172 Tryz.prog Tryz.laysAtoi_ren := {
  mixed := by kernel_rfl
  f129 := Tryz.func174.trans (congrArg some (by kernel_rfl))
  f171 := Tryz.func56.trans (congrArg some (by kernel_rfl))
  f172 := Tryz.func118.trans (congrArg some (by kernel_rfl))
  f205 := Tryz.func232.trans (congrArg some (by kernel_rfl))
  f243 := Tryz.func98.trans (congrArg some (by kernel_rfl))
  f244 := Tryz.func153.trans (congrArg some (by kernel_rfl))
  f245 := Tryz.func154.trans (congrArg some (by kernel_rfl))
  f246 := Tryz.func142.trans (congrArg some (by kernel_rfl))
  f247 := Tryz.func197.trans (congrArg some (by kernel_rfl))
  f279 := Tryz.func198.trans (congrArg some (by kernel_rfl))
  f280 := Tryz.func199.trans (congrArg some (by kernel_rfl))
  f281 := Tryz.func200.trans (congrArg some (by kernel_rfl))
  f282 := Tryz.func201.trans (congrArg some (by kernel_rfl))
  f283 := Tryz.func183.trans (congrArg some (by kernel_rfl))
  f284 := Tryz.func184.trans (congrArg some (by kernel_rfl))
  f285 := Tryz.func185.trans (congrArg some (by kernel_rfl))
  f286 := Tryz.func186.trans (congrArg some (by kernel_rfl))
  f287 := Tryz.func230.trans (congrArg some (by kernel_rfl))
  f316 := Tryz.func231.trans (congrArg some (by kernel_rfl))
  f317 := Tryz.func219.trans (congrArg some (by kernel_rfl))
  f318 := Tryz.func220.trans (congrArg some (by kernel_rfl))
  f319 := Tryz.func221.trans (congrArg some (by kernel_rfl))
  f320 := Tryz.func222.trans (congrArg some (by kernel_rfl))
  f321 := Tryz.func248.trans (congrArg some (by kernel_rfl))
  f322 := Tryz.func249.trans (congrArg some (by kernel_rfl))
  f337 := Tryz.func243.trans (congrArg some (by kernel_rfl))
  f338 := Tryz.func244.trans (congrArg some (by kernel_rfl))
  t0 := Tryz.underlying0
  a0 := Tryz.isAgg0
  z0 := Tryz.sizeOf0
  v0 := Tryz.zeroValue0
  t2 := Tryz.underlying2
  a2 := Tryz.isAgg2
  z2 := Tryz.sizeOf2
  v2 := Tryz.zeroValue2
  t3 := Tryz.underlying3
  a3 := Tryz.isAgg3
  z3 := Tryz.sizeOf3
  v3 := Tryz.zeroValue3
  t4 := Tryz.underlying4
  a4 := Tryz.isAgg4
  z4 := Tryz.sizeOf4
  v4 := Tryz.zeroValue4
  t5 := Tryz.underlying5
  a5 := Tryz.isAgg5
  z5 := Tryz.sizeOf5
  v5 := Tryz.zeroValue5
  t9 := Tryz.underlying9
  a9 := Tryz.isAgg9
  z9 := Tryz.sizeOf9
  v9 := Tryz.zeroValue9
  t20 := Tryz.underlying20
  a20 := Tryz.isAgg20
  z20 := Tryz.sizeOf20
  v20 := Tryz.zeroValue20
  t21 := Tryz.underlying21
  a21 := Tryz.isAgg21
  z21 := Tryz.sizeOf21
  v21 := Tryz.zeroValue21
  t37 := Tryz.underlying26
  a37 := Tryz.isAgg26
  z37 := Tryz.sizeOf26
  v37 := Tryz.zeroValue26
  t46 := Tryz.underlying78
  a46 := Tryz.isAgg78
  z46 := Tryz.sizeOf78
  v46 := Tryz.zeroValue78
  t51 := Tryz.underlying205
  a51 := Tryz.isAgg205
  z51 := Tryz.sizeOf205
  v51 := Tryz.zeroValue205
  t53 := Tryz.underlying80
  a53 := Tryz.isAgg80
  z53 := Tryz.sizeOf80
  v53 := Tryz.zeroValue80
  t75 := Tryz.underlying28
  a75 := Tryz.isAgg28
  z75 := Tryz.sizeOf28
  v75 := Tryz.zeroValue28
  t76 := Tryz.underlying54
  a76 := Tryz.isAgg54
  z76 := Tryz.sizeOf54
  v76 := Tryz.zeroValue54
  t85 := Tryz.underlying225
  a85 := Tryz.isAgg225
  z85 := Tryz.sizeOf225
  v85 := Tryz.zeroValue225
  t127 := Tryz.underlying277
  a127 := Tryz.isAgg277
  z127 := Tryz.sizeOf277
  v127 := Tryz.zeroValue277
  t143 := Tryz.underlying278
  a143 := Tryz.isAgg278
  z143 := Tryz.sizeOf278
  v143 := Tryz.zeroValue278
  t145 := Tryz.underlying280
  a145 := Tryz.isAgg280
  z145 := Tryz.sizeOf280
  v145 := Tryz.zeroValue280
  t167 := Tryz.underlying224
  a167 := Tryz.isAgg224
  z167 := Tryz.sizeOf224
  v167 := Tryz.zeroValue224
  t168 := Tryz.underlying227
  a168 := Tryz.isAgg227
  z168 := Tryz.sizeOf227
  v168 := Tryz.zeroValue227
  t171 := Tryz.underlying217
  a171 := Tryz.isAgg217
  z171 := Tryz.sizeOf217
  v171 := Tryz.zeroValue217
  t173 := Tryz.underlying219
  a173 := Tryz.isAgg219
  z173 := Tryz.sizeOf219
  v173 := Tryz.zeroValue219
  t175 := Tryz.underlying242
  a175 := Tryz.isAgg242
  z175 := Tryz.sizeOf242
  v175 := Tryz.zeroValue242
  t210 := Tryz.underlying261
  a210 := Tryz.isAgg261
  z210 := Tryz.sizeOf261
  v210 := Tryz.zeroValue261
  t212 := Tryz.underlying247
  a212 := Tryz.isAgg247
  z212 := Tryz.sizeOf247
  v212 := Tryz.zeroValue247
  t213 := Tryz.underlying248
  a213 := Tryz.isAgg248
  z213 := Tryz.sizeOf248
  t232 := Tryz.underlying282
  a232 := Tryz.isAgg282
  z232 := Tryz.sizeOf282
  v232 := Tryz.zeroValue282
  t233 := Tryz.underlying283
  a233 := Tryz.isAgg283
  z233 := Tryz.sizeOf283
  v233 := Tryz.zeroValue283
  g15 := by kernel_rfl
  g16 := by kernel_rfl
  g17 := by kernel_rfl
  g18 := by kernel_rfl
  g19 := by kernel_rfl
  t80 := Tryz.underlying269
  a80 := Tryz.isAgg269
  z80 := Tryz.sizeOf269
  v80 := Tryz.zeroValue269
  i0 := by kernel_rfl
  i2 := by kernel_rfl
  i3 := by kernel_rfl
  i4 := by kernel_rfl
  i5 := by kernel_rfl
  i9 := by kernel_rfl
  i20 := by kernel_rfl
  i21 := by kernel_rfl
  i37 := by kernel_rfl
  i46 := by kernel_rfl
  i51 := by kernel_rfl
  i53 := by kernel_rfl
  i75 := by kernel_rfl
  i76 := by kernel_rfl
  i80 := by kernel_rfl
  i85 := by kernel_rfl
  i127 := by kernel_rfl
  i143 := by kernel_rfl
  i145 := by kernel_rfl
  i167 := by kernel_rfl
  i168 := by kernel_rfl
  i171 := by kernel_rfl
  i173 := by kernel_rfl
  i175 := by kernel_rfl
  i210 := by kernel_rfl
  i212 := by kernel_rfl
  i232 := by kernel_rfl
  i233 := by kernel_rfl
  m15 := by kernel_rfl
  m16 := by kernel_rfl
  m17 := by kernel_rfl
  m18 := by kernel_rfl
  m19 := by kernel_rfl
  c0 := by kernel_rfl
  c2 := by kernel_rfl
  c3 := by kernel_rfl
  c4 := by kernel_rfl
  c5 := by kernel_rfl
  c9 := by kernel_rfl
  c20 := by kernel_rfl
  c21 := by kernel_rfl
  c37 := by kernel_rfl
  c46 := by kernel_rfl
  c51 := by kernel_rfl
  c53 := by kernel_rfl
  c75 := by kernel_rfl
  c76 := by kernel_rfl
  c80 := by kernel_rfl
  c85 := by kernel_rfl
  c127 := by kernel_rfl
  c143 := by kernel_rfl
  c145 := by kernel_rfl
  c167 := by kernel_rfl
  c168 := by kernel_rfl
  c171 := by kernel_rfl
  c173 := by kernel_rfl
  c175 := by kernel_rfl
  c210 := by kernel_rfl
  c212 := by kernel_rfl
  c213 := by kernel_rfl
  c232 := by kernel_rfl
  c233 := by kernel_rfl }
end Go.Proofs
namespace Go.Abs
open Go.Proofs Go.RowKit
set_option maxRecDepth 100000
structure GG (S : Nat → Prop) (w : World) : Prop where
  pow : Lib.TabIs Tryz.prog w "internal/strconv.uint64pow10" .u64 Lib.pow10Tab
  utf : Lib.Utf8Tabs 2 3 w
  synt : ∃ ev, w.cell? ⟨4, 0, none⟩ = some ev ∧ (ev = .nilIface ∨ ∃ te pe, ev = .iface te pe)
  rang : ∃ ev, w.cell? ⟨5, 0, none⟩ = some ev ∧ (ev = .nilIface ∨ ∃ te pe, ev = .iface te pe)
  low : ∀ b, b < 8 → S b
theorem gg_stable : Stable GG := by
  intro S S' w w' h hS hw
  have hb : ∀ b, b < 8 → w'.heap[b]? = w.heap[b]? := fun b hb => hw b (h.low b hb)
  have hc : ∀ b o, b < 8 → w'.cell? ⟨b, o, none⟩ = w.cell? ⟨b, o, none⟩ := fun b o h => cell_congr (hb b h) o none
  refine ⟨?_, ⟨fun c hc' => ?_, fun i hi => ?_⟩, ?_, ?_, fun b hb' => hS b (h.low b hb')⟩
  · have h1 := h.pow
    unfold Lib.TabIs World.var? at h1 ⊢
    have hg : Tryz.prog.globalNamed "internal/strconv.uint64pow10" = some 1 := by kernel_rfl
    rw [hg] at h1 ⊢
    simp only [Option.bind_some] at h1 ⊢
    rw [hb 1 (by omega)]
    exact h1
  · rw [hc 2 _ (by omega)]; exact h.utf.1 c hc'
  · rw [hc 3 _ (by omega), hc 3 _ (by omega)]; exact h.utf.2 i hi
  · obtain ⟨ev, h1, h2⟩ := h.synt
    exact ⟨ev, by rw [hc 4 _ (by omega)]; exact h1, h2⟩
  · obtain ⟨ev, h1, h2⟩ := h.rang
    exact ⟨ev, by rw [hc 5 _ (by omega)]; exact h1, h2⟩
section
variable {ι : Emb} {S T : Nat → Prop} {w w' : World} {r : AVal} {v : Value} {next : Free}
theorem back_of (hi : Inv ι S T [] w (Free.above 0)) (hb : Below w.heap.size w w') (hr : ∀ ι' S' T' w'', Rep ι' S' T' w'' r v) : Back ι S T [] w r [] v w' := by
  refine ⟨ι, S, Free.above 0, hr _ _ _ _, ⟨by simp, by simp, by simp, hi.fresh, fun b hb' => Nat.lt_of_lt_of_le (hi.s_lt b hb') hb.size, fun b hb' => Nat.lt_of_lt_of_le (hi.t_lt b hb') hb.size⟩, ?_⟩
  exact ⟨fun _ _ h => h, fun _ h => h, fun b hb' _ => hb.block b hb', hb.size, fun b ⟨e, he, _⟩ => (by cases he), fun b h => .inl h, hb.os, hb.tape, hb.output⟩
theorem call_enter {g : Nat} {vals : Array Value} {R : Value → World → Prop} {fn : Func} (hf : Tryz.prog.funcs[g]? = some fn) (hb : fn.body.isSome = true) (hn : (fn.name == "runtime.NumGoroutine") = false)
    (h : Go.Calls Tryz.prog g vals w fun | .returned v, w'' => R v w'' | _, _ => False) : CallOK Tryz.prog g vals w R := by
  obtain ⟨c, hc⟩ := Option.isSome_iff_exists.1 hb
  have hrun : (callFunc g vals).run Tryz.prog w = .ok (.enter g vals) w := by
    have hn : ¬ fn.name = "runtime.NumGoroutine" := by simpa using hn
    simp [callFunc, hf, hn, hc]
  unfold CallOK
  rw [hrun]
  exact h
theorem grow_below (k : Nat) (os : Array Obj) : Below w.heap.size w (Sort.grow (w.drewN k) os) := by
  refine ⟨rfl, rfl, rfl, ?_, fun j hj => ?_⟩
  · show w.heap.size ≤ (w.heap ++ os).size
    simp
  · show (w.heap ++ os)[j]? = _
    rw [Array.getElem?_append_left hj]
theorem itoa_ok {n : Int} (hg : GG S w) (hi : Inv ι S T [] w (Free.above 0)) (h0 : -9223372036854775808 ≤ n) (h1 : n ≤ 9223372036854775807) : CallOK Tryz.prog 98 #[.int .i64 n] w (Back ι S T [] w (.str (Lib.itoa n)) []) := by
  refine call_enter Tryz.func98 (by kernel_rfl) (by kernel_rfl) ?_
  refine (Any.internal_strconv_Itoa Tryz.laysItoa n h0 h1 w hg.pow).mono ?_
  rintro e w' ⟨rfl, k, os, rfl⟩
  exact back_of hi (grow_below k os) fun _ _ _ _ => .str _
theorem valid_ok {s : List UInt8} (hg : GG S w) (hi : Inv ι S T [] w (Free.above 0)) (h0 : s.length ≤ 9223372036854775807) : CallOK Tryz.prog 191 #[.string ⟨s.toArray⟩] w (Back ι S T [] w (.bool (Lib.validD s)) []) := by
  refine call_enter Tryz.func191 (by kernel_rfl) (by kernel_rfl) ?_
  refine (Any.utf8_ValidString Tryz.laysValid ⟨s.toArray⟩ w (by simpa [ByteArray.size] using h0) hg.utf).mono ?_
  rintro e w' ⟨rfl, hb⟩
  exact back_of hi hb fun _ _ _ _ => .bool _
theorem atoi_ok {s : List UInt8} (hg : GG S w) (hi : Inv ι S T [] w (Free.above 0)) (h0 : s.length ≤ 281474976710656) :
    CallOK Tryz.prog 118 #[.string ⟨s.toArray⟩] w (Back ι S T [] w (.tuple [.int .i64 (atoiV s), if atoiOk s = true then .lit .nilIface else numErr]) []) := by
  refine call_enter Tryz.func118 (by kernel_rfl) (by kernel_rfl) ?_
  have hsz : (ByteArray.mk s.toArray).size = s.length := by simp [ByteArray.size]
  have htl : (ByteArray.mk s.toArray).data.toList = s := by simp
  have rep : ∀ (n : Int) (a : AVal) (v : Value) (ι' : Emb) (S' T' : Nat → Prop) (w'' : World), Rep ι' S' T' w'' a v → Rep ι' S' T' w'' (.tuple [.int .i64 n, a]) (.tuple #[.int .i64 n, v]) := by
    intro n a v ι' S' T' w'' h
    refine .tuple _ _ rfl fun i c u hc hu => ?_
    match i with
    | 0 => simp at hc hu; subst hc; subst hu; exact .int _ _
    | 1 => simp at hc hu; subst hc; subst hu; exact h
    | i + 2 => simp at hc
  cases ha : Lib.atoiAll s
  case ok v =>
    have e1 : atoiV s = v := by simp [atoiV, ha]
    have e2 : atoiOk s = true := by simp [atoiOk, ha]
    rw [e1, if_pos e2]
    refine (Any.strconv_Atoi_ok Tryz.laysAtoi ⟨s.toArray⟩ (by omega) v (by rw [htl]; exact ha) w).mono ?_
    rintro e w' ⟨rfl, hw⟩
    refine back_of hi ?_ fun _ _ _ _ => rep _ _ _ _ _ _ _ (.lit _)
    rcases hw with rfl | ⟨t, rfl⟩
    · exact Below.refl _ _
    · exact Lib.bytesWorld_below _ _ _
  case range =>
    have e1 : atoiV s = Lib.atoiSat s := by simp [atoiV, ha]
    have e2 : ¬ atoiOk s = true := by simp [atoiOk, ha]
    rw [e1, if_neg e2]
    obtain ⟨ev, g1, g2⟩ := hg.rang
    refine (Any.strconv_Atoi_range Tryz.laysAtoi ⟨s.toArray⟩ (by omega) (by rw [htl]; exact ha) ev w g1 g2).mono ?_
    rintro e w' ⟨N, rfl, _, _, hb⟩
    exact back_of hi hb fun _ _ _ _ => rep _ _ _ _ _ _ _ (.iface _ _ _ (.junk _))
  have e1 : atoiV s = 0 := by simp [atoiV, ha]
  have e2 : ¬ atoiOk s = true := by simp [atoiOk, ha]
  rw [e1, if_neg e2]
  obtain ⟨ev, g1, g2⟩ := hg.synt
  refine (Any.strconv_Atoi_syntax Tryz.laysAtoi ⟨s.toArray⟩ (by omega) (by rw [htl]; exact ha) ev w g1 g2).mono ?_
  rintro e w' ⟨N, rfl, _, _, hb⟩
  exact back_of hi hb fun _ _ _ _ => rep _ _ _ _ _ _ _ (.iface _ _ _ (.junk _))
theorem extern_ok {g : Nat} {vals : Array Value} {fn : Func} {x : Array Value → Sem Value} (hi : Inv ι S T [] w (Free.above 0)) (hf : Tryz.prog.funcs[g]? = some fn) (hname : (fn.name == "runtime.NumGoroutine") = false)
    (hb : fn.body.isNone = true) (hn : Extern.findNext fn = none) (he : Extern.find fn = some x) (hx : (x vals).run Tryz.prog w = .ok v w) (hr : ∀ ι' S' T' w'', Rep ι' S' T' w'' r v) : CallOK Tryz.prog g vals w (Back ι S T [] w r []) := by
  unfold CallOK
  rw [run_callFunc_extern hf hname hb hn he, hx]
  exact back_of hi (Below.refl _ _) hr
theorem count_ok {s : List UInt8} {c : Int} (hi : Inv ι S T [] w (Free.above 0)) : CallOK Tryz.prog 255 #[.string ⟨s.toArray⟩, .int .u8 c] w (Back ι S T [] w (.int .i64 (Lib.countByte s c.toNat.toUInt8)) []) := by
  refine extern_ok hi Tryz.func255 (by kernel_rfl) (by kernel_rfl) (by kernel_rfl) (x := Extern.BytealgCount.count) (by kernel_rfl) (Lib.run_countString _ _ _) fun _ _ _ _ => ?_
  have htl : (ByteArray.mk s.toArray).data.toList = s := by simp
  rw [htl]
  exact .int _ _
theorem index_ok {s : List UInt8} {c : Int} (hi : Inv ι S T [] w (Free.above 0)) : CallOK Tryz.prog 247 #[.string ⟨s.toArray⟩, .int .u8 c] w (Back ι S T [] w (.int .i64 (Lib.indexByte s c.toNat.toUInt8)) []) := by
  refine extern_ok hi Tryz.func247 (by kernel_rfl) (by kernel_rfl) (by kernel_rfl) (x := Extern.BytealgIndexByte.indexByte) (by kernel_rfl) (Lib.run_indexByteString _ _ _) fun _ _ _ _ => ?_
  have htl : (ByteArray.mk s.toArray).data.toList = s := by simp
  rw [htl]
  exact .int _ _
theorem cmp_ok {s t : List UInt8} (hi : Inv ι S T [] w (Free.above 0)) : CallOK Tryz.prog 211 #[.string ⟨s.toArray⟩, .string ⟨t.toArray⟩] w (Back ι S T [] w (.int .i64 (Lib.compareBytes s t)) []) := by
  refine extern_ok hi Tryz.func211 (by kernel_rfl) (by kernel_rfl) (by kernel_rfl) (x := Extern.BytealgCompare.compare) (by kernel_rfl) (Lib.run_compareString _ _ _) fun _ _ _ _ => ?_
  have h1 : (ByteArray.mk s.toArray).data.toList = s := by simp
  have h2 : (ByteArray.mk t.toArray).data.toList = t := by simp
  rw [h1, h2]
  exact .int _ _
theorem bytesOf_some : ∀ {es : List AVal} {l : List UInt8}, bytesOf es = some l → ∃ xs : List Int, es = xs.map (.int .u8 ·) ∧ l = xs.map fun n => UInt8.ofNat n.toNat
  | [], l, h => by
    simp [bytesOf] at h
    exact ⟨[], rfl, h⟩
  | e :: r, l, h => by
    unfold bytesOf at h
    split at h <;> try (simp at h; done)
    · rename_i heq
      cases heq
    · rename_i n r' heq
      cases heq
      obtain ⟨l', h1, rfl⟩ := map_some h
      obtain ⟨xs, h2, h3⟩ := bytesOf_some h1
      exact ⟨n :: xs, by simp [h2], by simp [h3]⟩
theorem indexB_ok {es : List AVal} {l : List UInt8} {c : Int} {cl tm : Bool} {v : Value} (hi : Inv ι S T [] w (Free.above 0)) (hb : bytesOf es = some l) (hv : Rep ι S T w (.view 1 es cl tm) v) : CallOK Tryz.prog 228 #[v, .int .u8 c] w (Back ι S T [] w (.int .i64 (Lib.indexByte l c.toNat.toUInt8)) []) := by
  obtain ⟨xs, rfl, rfl⟩ := bytesOf_some hb
  obtain ⟨b, o, q, sp, vs, rfl, hsp, h1, h2, h3, h4, h5, h6, h7⟩ := hv.view_inv
  have hrun : (Extern.BytealgIndexByte.indexByte #[.slice (some ⟨b, o, sp⟩) (xs.map (AVal.int .u8 ·)).length q, .int .u8 c]).run Tryz.prog w = .ok (.int .i64 (Lib.indexByte (Lib.bytesOf xs) c.toNat.toUInt8)) w := by
    rcases hsp with rfl | rfl
    · exact Lib.run_indexByteSlice (P := Tryz.prog) (w := w) b o (xs.map (AVal.int .u8 ·)).length q xs (by simp) (fun i hil => by
        have hl : i < xs.length := by simpa using hil
        have e1 : (xs.map (AVal.int .u8 ·))[i]? = some (.int .u8 xs[i]) := by simp [hl]
        have e2 := h6 i _ 0 (.int .u8 xs[i]) e1 rfl
        have e3 := h7 i _ 0 (.int .u8 xs[i]) e1 rfl
        have e4 : xs.getD i 0 = xs[i] := by simp [List.getD, hl]
        rw [e4, ← e3.int_inv]
        simpa using e2) c
    · obtain rfl : xs = [] := List.eq_nil_of_length_eq_zero (by simpa using h1)
      exact Lib.run_indexByteString (P := Tryz.prog) .empty c w
  refine extern_ok hi Tryz.func228 (by kernel_rfl) (by kernel_rfl) (by kernel_rfl) (x := Extern.BytealgIndexByte.indexByte) (by kernel_rfl) hrun fun _ _ _ _ => ?_
  have : Lib.bytesOf xs = xs.map fun n => UInt8.ofNat n.toNat := rfl
  rw [this]
  exact .int _ _
theorem indexN_ok {c : Int} (hi : Inv ι S T [] w (Free.above 0)) : CallOK Tryz.prog 228 #[.slice none 0 0, .int .u8 c] w (Back ι S T [] w (.int .i64 (-1)) []) :=
  extern_ok hi Tryz.func228 (by kernel_rfl) (by kernel_rfl) (by kernel_rfl) (x := Extern.BytealgIndexByte.indexByte) (by kernel_rfl) (Lib.run_indexByteNil _ 0 0 c) fun _ _ _ _ => .int _ _
theorem strsOf_some : ∀ {es : List AVal} {l : List (List UInt8)}, strsOf es = some l → es = l.map .str
  | [], _, h => by cases h; rfl
  | .str x :: es, l, h => by
    obtain ⟨r, h1, rfl⟩ := Option.map_eq_some_iff.1 (show (strsOf es).map (x :: ·) = some l from h)
    rw [strsOf_some h1]
    rfl
theorem join_ok {es : List AVal} {xs : List (List UInt8)} {sep : List UInt8} {cl tm : Bool} {v : Value} (hi : Inv ι S T [] w (Free.above 0)) (hb : strsOf es = some xs) (h1 : (Lib.join xs sep).length ≤ 140737488355328) (h2 : xs.length ≤ 140737488355328) (hv : Rep ι S T w (.view 1 es cl tm) v) :
    CallOK Tryz.prog 205 #[v, .string ⟨sep.toArray⟩] w (Back ι S T [] w (.str (Lib.join xs sep)) []) := by
  have he := strsOf_some hb
  subst he
  obtain ⟨b, o, q, sp, vs, rfl, hsp, g1, _, g3, g4, _, g6, g7⟩ := hv.view_inv
  rw [List.length_map] at g1
  refine call_enter Tryz.func205 (by kernel_rfl) (by kernel_rfl) ?_
  rw [List.length_map]
  have nil : xs = [] → ∀ a, Go.Calls Tryz.prog 205 #[.slice a 0 q, .string ⟨sep.toArray⟩] w fun | .returned v, w'' => Back ι S T [] w (.str (Lib.join xs sep)) [] v w'' | _, _ => False := by
    rintro rfl a
    refine (Any.strings_Join_none Tryz.lays156 Tryz.Builder_Extra_156 a q ⟨sep.toArray⟩ w).mono ?_
    rintro e w' ⟨rfl, rfl⟩
    exact back_of hi (Below.refl _ _) fun _ _ _ _ => .str []
  by_cases hx : xs = []
  · subst hx
    exact nil rfl _
  · have hpos : 0 < xs.length := List.length_pos_iff.2 hx
    obtain rfl : sp = none := hsp.elim id fun h => by omega
    have hblk : b < w.heap.size := by
      obtain ⟨x, r, rfl⟩ := List.exists_cons_of_ne_nil hx
      have := g3 0 (.str x) rfl
      cases tm with
      | false => exact hi.s_lt b this
      | true => exact this.elim (hi.t_lt b) (hi.s_lt b)
    have hl : (xs.map fun l : List UInt8 => (⟨l.toArray⟩ : ByteArray)).length = xs.length := List.length_map _
    have hm : (xs.map fun l : List UInt8 => (⟨l.toArray⟩ : ByteArray)).map (·.data.toList) = xs := by
      rw [List.map_map]
      conv => rhs; rw [← List.map_id xs]
      rfl
    have hc := Any.strings_Join Tryz.lays156 Tryz.Builder_Extra_156 b o q (xs.map fun l : List UInt8 => (⟨l.toArray⟩ : ByteArray)) ⟨sep.toArray⟩ w (fun j x hj => by
      rw [List.getElem?_map] at hj
      obtain ⟨l, hl1, rfl⟩ := Option.map_eq_some_iff.1 hj
      have e1 : (xs.map AVal.str)[j]? = some (.str l) := by rw [List.getElem?_map, hl1]; rfl
      have e2 := g6 j _ 0 (.str l) e1 rfl
      have e3 := g7 j _ 0 (.str l) e1 rfl
      rw [e3.str_inv] at e2
      simpa using e2) hblk (by rw [hl]; exact h2) (by rw [hl]; exact g1) (by rw [hm]; exact h1)
    rw [hl, hm] at hc
    refine hc.mono ?_
    rintro e w' ⟨rfl, hbl⟩
    exact back_of hi hbl fun _ _ _ _ => .str _
theorem one_arg {args : List AVal} {vals : Array Value} {a : AVal} (ha : args = [a]) (hl : args.length = vals.size) (hr : ∀ (i : Nat) (c : AVal) (v : Value), args[i]? = some c → vals[i]? = some v → Rep ι S T w c v) : ∃ v, vals = #[v] ∧ Rep ι S T w a v := by
  subst ha
  obtain ⟨l⟩ := vals
  match l, hl with
  | [v], _ => exact ⟨v, rfl, hr 0 a v rfl rfl⟩
theorem two_args {args : List AVal} {vals : Array Value} {a b : AVal} (ha : args = [a, b]) (hl : args.length = vals.size) (hr : ∀ (i : Nat) (c : AVal) (v : Value), args[i]? = some c → vals[i]? = some v → Rep ι S T w c v) : ∃ v u, vals = #[v, u] ∧ Rep ι S T w a v ∧ Rep ι S T w b u := by
  subst ha
  obtain ⟨l⟩ := vals
  match l, hl with
  | [v, u], _ => exact ⟨v, u, rfl, hr 0 a v rfl rfl, hr 1 b u rfl rfl⟩
theorem prim_ok {g : Nat} {p : List AVal → Option AVal} (hp : prims g = some p) {args : List AVal} (hr : p args = some r) (hg : GG S w) (hi : Inv ι S T [] w (Free.above 0)) {vals : Array Value} (hl : args.length = vals.size)
    (hv : ∀ (i : Nat) (c : AVal) (v : Value), args[i]? = some c → vals[i]? = some v → Rep ι S T w c v) : CallOK Tryz.prog g vals w (Back ι S T [] w r []) := by
  unfold prims at hp
  split at hp <;> simp only [Option.some.injEq, reduceCtorEq] at hp <;> subst hp
  · unfold itoaP at hr
    split at hr <;> try (simp at hr; done)
    split at hr <;> simp only [Option.some.injEq, reduceCtorEq] at hr
    subst hr
    rename_i n hn
    obtain ⟨v, rfl, h1⟩ := one_arg rfl hl hv
    rw [h1.int_inv]
    exact itoa_ok hg hi hn.1 hn.2
  · unfold atoiP at hr
    split at hr <;> try (simp at hr; done)
    split at hr <;> simp only [Option.some.injEq, reduceCtorEq] at hr
    subst hr
    rename_i s hn
    obtain ⟨v, rfl, h1⟩ := one_arg rfl hl hv
    rw [h1.str_inv]
    exact atoi_ok hg hi hn
  · unfold validP at hr
    split at hr <;> try (simp at hr; done)
    split at hr <;> simp only [Option.some.injEq, reduceCtorEq] at hr
    subst hr
    rename_i s hn
    obtain ⟨v, rfl, h1⟩ := one_arg rfl hl hv
    rw [h1.str_inv]
    exact valid_ok hg hi hn
  · unfold countP at hr
    split at hr <;> simp only [Option.some.injEq, reduceCtorEq] at hr
    subst hr
    obtain ⟨v, u, rfl, h1, h2⟩ := two_args rfl hl hv
    rw [h1.str_inv, h2.int_inv]
    exact count_ok hi
  · unfold indexP at hr
    split at hr <;> simp only [Option.some.injEq, reduceCtorEq] at hr
    subst hr
    obtain ⟨v, u, rfl, h1, h2⟩ := two_args rfl hl hv
    rw [h1.str_inv, h2.int_inv]
    exact index_ok hi
  · unfold indexBP at hr
    split at hr
    · obtain ⟨l, hb, rfl⟩ := map_some hr
      obtain ⟨v, u, rfl, h1, h2⟩ := two_args rfl hl hv
      rw [h2.int_inv]
      exact indexB_ok hi hb h1
    · simp only [Option.some.injEq] at hr
      subst hr
      obtain ⟨v, u, rfl, h1, h2⟩ := two_args rfl hl hv
      rw [h2.int_inv, h1.lit_inv]
      exact indexN_ok hi
    · simp at hr
  · unfold cmpP at hr
    split at hr <;> simp only [Option.some.injEq, reduceCtorEq] at hr
    subst hr
    obtain ⟨v, u, rfl, h1, h2⟩ := two_args rfl hl hv
    rw [h1.str_inv, h2.str_inv]
    exact cmp_ok hi
  · unfold joinP at hr
    split at hr
    · split at hr <;> try (simp at hr; done)
      rename_i xs hb
      split at hr <;> simp only [Option.some.injEq, reduceCtorEq] at hr
      subst hr
      rename_i hc
      obtain ⟨v, u, rfl, h1, h2⟩ := two_args rfl hl hv
      rw [h2.str_inv]
      exact join_ok hi hb hc.1 hc.2 h1
    · simp only [Option.some.injEq] at hr
      subst hr
      obtain ⟨v, u, rfl, h1, h2⟩ := two_args rfl hl hv
      rw [h1.lit_inv, h2.str_inv]
      refine call_enter Tryz.func205 (by kernel_rfl) (by kernel_rfl) ?_
      refine (Any.strings_Join_none Tryz.lays156 Tryz.Builder_Extra_156 none 0 _ w).mono ?_
      rintro e w' ⟨rfl, rfl⟩
      exact back_of hi (Below.refl _ _) fun _ _ _ _ => .str []
    · simp at hr
end
theorem names_ok : (Tryz.prog.funcs.all fun f => !(f.name == "runtime.NumGoroutine")) = true := by kernel_rfl
theorem aa_of : AA.Of gl0 Tryz.prog [58] GG := {
  mix := by kernel_rfl
  stable := gg_stable
  glob := fun S w _ g v h => by cases h
  fn := fun g afn h => by
    have h : (if g = 26 ∨ g = 85 then none else (Tryz.prog.funcs[g]?).bind (trFn gl0 Tryz.prog [58])) = some afn := h
    split at h
    · cases h
    obtain ⟨fn, h1, h2⟩ := Option.bind_eq_some_iff.1 h
    refine ⟨fn, h1, ?_, h2⟩
    have hm := (Array.all_eq_true_iff_forall_mem.1 names_ok) fn (Array.mem_of_getElem? h1)
    simpa using hm
  prim := fun g p hp args r hr ι S T w vals hg hi hl hv => prim_ok hp hr hg hi hl hv
  primh := fun g p hp => by
    have hp : (none : Option (List AVal → Heap → Option (AVal × Heap))) = some p := hp
    cases hp }
end Go.Abs
namespace Go.Abs
open Go.Proofs Go.RowKit
set_option maxRecDepth 100000
end Go.Abs
namespace Go.Proofs
open Go.RowKit Go.Shelf Go.Abs
attribute [local go_sem] Oper.semAt_some
set_option maxRecDepth 100000
abbrev sv (l : List UInt8) : Value := .string ⟨l.toArray⟩
set_option maxHeartbeats 1000000 in
theorem nm_204 (F : Fence) (n : Nat) (h : F.fn 204) (hro : F.round = none) (s : List UInt8) (w : World) :
    CallsIn F n Tryz.prog 204 #[sv s, sv [47], .int .i64 0] w fun e w' => e = .returned (.func (.func 235) #[] #[.pointer (some ⟨w.heap.size + 1, 0, none⟩), .pointer (some ⟨w.heap.size, 0, none⟩), .pointer (some ⟨w.heap.size + 2, 0, none⟩)]) ∧
      w' = ((w.alloc (.cells #[sv s] 9)).alloc (.cells #[sv [47]] 9)).alloc (.cells #[.int .i64 0] 3) := by
  refine callsIn_of_wp Tryz.func204 rfl h ?_ hro
  simp only [Tryz.ntmps204, List.size_toArray, List.length_cons, List.length_nil, Nat.reduceAdd, Nat.reduceSub, Array.replicate_succ, Array.replicate_zero, List.push_toArray, List.append_toArray, List.nil_append, List.cons_append]
  gi_wp2
  go_ret
  simp
set_option maxHeartbeats 1000000 in
theorem nm_162 (F : Fence) (n : Nat) (h2 : F.fn 162) (h : F.fn 204) (hro : F.round = none) (hn : 1 ≤ n) (s : List UInt8) (w : World) :
    CallsIn F n Tryz.prog 162 #[sv s, sv [47]] w fun e w' => e = .returned (.func (.func 235) #[] #[.pointer (some ⟨w.heap.size + 1, 0, none⟩), .pointer (some ⟨w.heap.size, 0, none⟩), .pointer (some ⟨w.heap.size + 2, 0, none⟩)]) ∧
      w' = ((w.alloc (.cells #[sv s] 9)).alloc (.cells #[sv [47]] 9)).alloc (.cells #[.int .i64 0] 3) := by
  refine callsIn_of_wp Tryz.func162 rfl h2 ?_ hro
  simp only [Tryz.ntmps162, List.size_toArray, List.length_cons, List.length_nil, Nat.reduceAdd, Nat.reduceSub, Array.replicate_succ, Array.replicate_zero, List.push_toArray, List.append_toArray, List.nil_append, List.cons_append]
  gi_wp2_with (gi_at_call 204; refine (nm_204 F (n - 1) h hro _ _).mono ?_; rintro e w' ⟨rfl, rfl⟩)
  go_ret
  simp
end Go.Proofs
namespace Go.Proofs
open Go.RowKit Go.Shelf Go.Abs Go.Maps Go.Sort
attribute [local go_sem] Oper.semAt_some
set_option maxRecDepth 100000
def theLoop : Code → Option (Code × Code)
  | .seq a b => (theLoop a).or (theLoop b)
  | .block _ a => theLoop a
  | .rangeFunc _ _ a b => some (a, b)
  | _ => none
noncomputable def nmLoop : Code × Code := ((Tryz.f128.body.bind theLoop).getD (.skip, .skip))
noncomputable def nmRec (fn : FuncId) (tm : Array Value) (D : Nat) (st : LoopState) (pend : Option Code) : Loop :=
  { state := st, pending := pend, fn, tmps := tm, params := #[8], assign := nmLoop.1, body := nmLoop.2, defers := D }
theorem heap_setCell_box {W : World} {B : Nat} {v : Value} {t : TypeId} (v' : Value) (h : W.heap[B]? = some (.cells #[v] t (0, 0))) : (W.setCell ⟨B, 0, none⟩ v').heap[B]? = some (.cells #[v'] t (0, 0)) := by
  obtain ⟨hlt, hk⟩ := Array.getElem?_eq_some_iff.1 h
  show (W.heap.modify B _)[B]? = _
  rw [Array.getElem?_eq_getElem (by rw [Array.size_modify]; exact hlt), Array.getElem_modify_self, hk]
  rfl
theorem cell_of_box {W : World} {B : Nat} {v : Value} {t : TypeId} (h : W.heap[B]? = some (.cells #[v] t (0, 0))) : W.cell? ⟨B, 0, none⟩ = some v ∧ W.frozen? ⟨B, 0, none⟩ = false := by
  constructor <;> simp [World.cell?, World.frozen?, h]
structure NmAt (w0 : World) (fn : FuncId) (tm : Array Value) (rest : List UInt8) (parts : List (List UInt8)) (st : LoopState) (pend : Option Code) (e : Value) (W : World) : Prop where
  r1 : W.heap[w0.heap.size]? = some (.cells #[sv []] 9 (0, 0))
  r2 : W.heap[w0.heap.size + 1]? = some (.cells #[e] 28 (0, 0))
  pt : ∃ v, W.heap[w0.heap.size + 2]? = some (.cells #[v] 162 (0, 0)) ∧ W.ownsRow (w0.heap.size + 8) 9 1 v parts.length (parts.map sv)
  sb : W.heap[w0.heap.size + 3]? = some (.cells #[sv rest] 9 (0, 0))
  pb : W.heap[w0.heap.size + 4]? = some (.cells #[sv [47]] 9 (0, 0))
  kb : W.heap[w0.heap.size + 5]? = some (.cells #[.int .i64 0] 3 (0, 0))
  K : W.heap[w0.heap.size + 6]? = some (.deferred (some []))
  L : W.heap[w0.heap.size + 7]? = some (.loop (nmRec fn tm (w0.heap.size + 6) st pend))
  below : Below w0.heap.size w0 W
def normStep (parts : List (List UInt8)) (p : List UInt8) : Option (List (List UInt8)) :=
  if p = [] ∨ p = [46] then some parts else if p = [46, 46] then (if parts = [] then none else some parts.dropLast) else some (parts ++ [p])
def nmTm (H : Nat) (s p : Value) (f : Value) : Array Value := #[s, undef, .pointer (some ⟨H, 0, none⟩), .pointer (some ⟨H + 1, 0, none⟩), .pointer (some ⟨H + 2, 0, none⟩), undef, s, f, p, undef, undef, undef, undef, undef, undef, undef, undef, undef, undef, undef, undef, undef, undef, undef, undef, undef, undef, undef, undef, undef, undef, undef]
theorem ownsRow_ne8 {W : World} {base e size k : Nat} {v : Value} {xs : List Value} (h : W.ownsRow base e size v k xs) {j : Nat} (hj : j < base) : v.ownBlock = none ∨ v.ownBlock ≠ some j := by
  cases ho : v.ownBlock with
  | none => exact .inl rfl
  | some g =>
    have := (h.lt g ho).1
    exact .inr fun e => by cases e; omega
theorem NmAt.put {w0 : World} {fn : FuncId} {tm : Array Value} {rest : List UInt8} {parts : List (List UInt8)} {st : LoopState} {pend : Option Code} {e : Value} {W : World} (h : NmAt w0 fn tm rest parts st pend e W) (st' : LoopState) (pend' : Option Code) :
    NmAt w0 fn tm rest parts st' pend' e (W.putObj (w0.heap.size + 7) (.loop (nmRec fn tm (w0.heap.size + 6) st' pend'))) := by
  have o : ∀ k, k ≠ w0.heap.size + 7 → (W.putObj (w0.heap.size + 7) (.loop (nmRec fn tm (w0.heap.size + 6) st' pend'))).heap[k]? = W.heap[k]? := fun k hk => World.putObj_heap_other hk
  have hg := grownBy_putObj' W (w0.heap.size + 7) (.loop (nmRec fn tm (w0.heap.size + 6) st' pend'))
  obtain ⟨v, hv, hr⟩ := h.pt
  exact ⟨(o _ (by omega)).trans h.r1, (o _ (by omega)).trans h.r2, ⟨v, (o _ (by omega)).trans hv, hr.kept hg (ownsRow_ne8 hr (by omega))⟩, (o _ (by omega)).trans h.sb, (o _ (by omega)).trans h.pb, (o _ (by omega)).trans h.kb, (o _ (by omega)).trans h.K,
    World.putObj_heap_same (Array.getElem?_eq_some_iff.1 h.L).1, h.below.grown hg h.below.size (fun k e => by cases e; omega)⟩
theorem NmAt.set1 {w0 : World} {fn : FuncId} {tm : Array Value} {rest : List UInt8} {parts : List (List UInt8)} {st : LoopState} {pend : Option Code} {e : Value} {W : World} (h : NmAt w0 fn tm rest parts st pend e W) :
    NmAt w0 fn tm rest parts st pend e (W.setCell ⟨w0.heap.size, 0, none⟩ (sv [])) := by
  have o : ∀ k, k ≠ w0.heap.size → (W.setCell ⟨w0.heap.size, 0, none⟩ (sv [])).heap[k]? = W.heap[k]? := fun k hk => Below.heap_setCell W ⟨w0.heap.size, 0, none⟩ _ k hk
  have hg := grownBy_setCell' W w0.heap.size (sv [])
  obtain ⟨v, hv, hr⟩ := h.pt
  exact ⟨heap_setCell_box _ h.r1, (o _ (by omega)).trans h.r2, ⟨v, (o _ (by omega)).trans hv, hr.kept hg (ownsRow_ne8 hr (by omega))⟩, (o _ (by omega)).trans h.sb, (o _ (by omega)).trans h.pb, (o _ (by omega)).trans h.kb, (o _ (by omega)).trans h.K,
    (o _ (by omega)).trans h.L, h.below.grown hg h.below.size (fun k e => by cases e; omega)⟩
theorem NmAt.set2 {w0 : World} {fn : FuncId} {tm : Array Value} {rest : List UInt8} {parts : List (List UInt8)} {st : LoopState} {pend : Option Code} {e : Value} {W : World} (h : NmAt w0 fn tm rest parts st pend e W) (e' : Value) :
    NmAt w0 fn tm rest parts st pend e' (W.setCell ⟨w0.heap.size + 1, 0, none⟩ e') := by
  have o : ∀ k, k ≠ w0.heap.size + 1 → (W.setCell ⟨w0.heap.size + 1, 0, none⟩ e').heap[k]? = W.heap[k]? := fun k hk => Below.heap_setCell W ⟨w0.heap.size + 1, 0, none⟩ _ k hk
  have hg := grownBy_setCell' W (w0.heap.size + 1) e'
  obtain ⟨v, hv, hr⟩ := h.pt
  exact ⟨(o _ (by omega)).trans h.r1, heap_setCell_box _ h.r2, ⟨v, (o _ (by omega)).trans hv, hr.kept hg (ownsRow_ne8 hr (by omega))⟩, (o _ (by omega)).trans h.sb, (o _ (by omega)).trans h.pb, (o _ (by omega)).trans h.kb, (o _ (by omega)).trans h.K,
    (o _ (by omega)).trans h.L, h.below.grown hg h.below.size (fun k e => by cases e; omega)⟩
theorem NmAt.setP {w0 : World} {fn : FuncId} {tm : Array Value} {rest : List UInt8} {parts : List (List UInt8)} {st : LoopState} {pend : Option Code} {e : Value} {W : World} (h : NmAt w0 fn tm rest parts st pend e W) (v' : Value) (q : List (List UInt8)) (hr : W.ownsRow (w0.heap.size + 8) 9 1 v' q.length (q.map sv)) :
    NmAt w0 fn tm rest q st pend e (W.setCell ⟨w0.heap.size + 2, 0, none⟩ v') := by
  have o : ∀ k, k ≠ w0.heap.size + 2 → (W.setCell ⟨w0.heap.size + 2, 0, none⟩ v').heap[k]? = W.heap[k]? := fun k hk => Below.heap_setCell W ⟨w0.heap.size + 2, 0, none⟩ _ k hk
  have hg := grownBy_setCell' W (w0.heap.size + 2) v'
  obtain ⟨v, hv, _⟩ := h.pt
  exact ⟨(o _ (by omega)).trans h.r1, (o _ (by omega)).trans h.r2, ⟨v', heap_setCell_box _ hv, hr.kept hg (ownsRow_ne8 hr (by omega))⟩, (o _ (by omega)).trans h.sb, (o _ (by omega)).trans h.pb, (o _ (by omega)).trans h.kb, (o _ (by omega)).trans h.K,
    (o _ (by omega)).trans h.L, h.below.grown hg h.below.size (fun k e => by cases e; omega)⟩
theorem grownBy_trans {A B C : World} {row : Option Nat} (h : A.grownBy B row) (k : B.grownBy C row) : A.grownBy C row :=
  ⟨k.os.trans h.os, k.tape.trans h.tape, k.output.trans h.output, Nat.le_trans h.size k.size, fun j hj hn => (k.block j (Nat.lt_of_lt_of_le hj h.size) hn).trans (h.block j hj hn)⟩
theorem NmAt.appended {w0 : World} {fn : FuncId} {tm : Array Value} {rest : List UInt8} {parts : List (List UInt8)} {st : LoopState} {pend : Option Code} {e : Value} {W W' : World} {row : Option Nat} (h : NmAt w0 fn tm rest parts st pend e W) (hg : W.grownBy W' row) (hrow : ∀ k, row = some k → w0.heap.size + 8 ≤ k) (v' : Value) (q : List (List UInt8)) (hr : W'.ownsRow (w0.heap.size + 8) 9 1 v' q.length (q.map sv)) :
    NmAt w0 fn tm rest q st pend e (W'.setCell ⟨w0.heap.size + 2, 0, none⟩ v') := by
  have o1 : ∀ k, k < w0.heap.size + 8 → W'.heap[k]? = W.heap[k]? := fun k hk => hg.block k (by have := (Array.getElem?_eq_some_iff.1 h.L).1; omega) (fun e => by have := hrow k e.symm; omega)
  have o : ∀ k, k < w0.heap.size + 8 → k ≠ w0.heap.size + 2 → (W'.setCell ⟨w0.heap.size + 2, 0, none⟩ v').heap[k]? = W.heap[k]? := fun k h1 h2 => (Below.heap_setCell W' ⟨w0.heap.size + 2, 0, none⟩ _ k h2).trans (o1 k h1)
  have hg2 := grownBy_setCell' W' (w0.heap.size + 2) v'
  obtain ⟨v, hv, _⟩ := h.pt
  have hb1 := h.below.grown hg h.below.size (fun k e => by have := hrow k e; omega)
  exact ⟨(o _ (by omega) (by omega)).trans h.r1, (o _ (by omega) (by omega)).trans h.r2, ⟨v', heap_setCell_box _ ((o1 _ (by omega)).trans hv), hr.kept hg2 (ownsRow_ne8 hr (by omega))⟩, (o _ (by omega) (by omega)).trans h.sb, (o _ (by omega) (by omega)).trans h.pb, (o _ (by omega) (by omega)).trans h.kb, (o _ (by omega) (by omega)).trans h.K,
    (o _ (by omega) (by omega)).trans h.L, hb1.grown hg2 hb1.size (fun k e => by cases e; omega)⟩
theorem nm_info9 : (Tryz.prog.info? 9).map (fun i => (i.zero, i.size, i.bytes)) = some (some (sv []), 1, 16) := by kernel_rfl
set_option maxHeartbeats 4000000 in
theorem nm_round (F : Fence) (m : Nat) (w0 : World) (fn : FuncId) (hfn : F.fn fn) (s f : Value) (rest : List UInt8) (parts : List (List UInt8)) (p : List UInt8) (hlen : parts.length < 1000000000) (W : World)
    (h : NmAt w0 fn (nmTm w0.heap.size s undef f) rest parts .ready none .nilIface W) :
    RoundIn F m Tryz.prog (w0.heap.size + 7) fn (nmTm w0.heap.size s (sv p) f) nmLoop.1 nmLoop.2 W fun e W' => match normStep parts p with
      | some q => e = .returned (.bool true) ∧ NmAt w0 fn (nmTm w0.heap.size s undef f) rest q .ready none .nilIface W'
      | none => e = .returned (.bool false) ∧ NmAt w0 fn (nmTm w0.heap.size s undef f) rest parts .done (some .ret) (.iface 58 (.int .i64 12)) W' := by
  refine roundIn_of_wpIn hfn ?_
  have hbr := run_beginRound (P := Tryz.prog) h.L rfl
  have h2 := h.put .busy none
  obtain ⟨W2, hW2⟩ : ∃ W2, W.putObj (w0.heap.size + 7) (.loop (nmRec fn (nmTm w0.heap.size s undef f) (w0.heap.size + 6) .busy none)) = W2 := ⟨_, rfl⟩
  replace hbr : (Instr.beginRound (w0.heap.size + 7)).run Tryz.prog W = .ok () W2 := by rw [← hW2]; exact hbr
  rw [hW2] at h2
  clear hW2 h
  obtain ⟨v, hv, hrow⟩ := h2.pt
  obtain ⟨c1, f1⟩ := cell_of_box hv
  obtain ⟨c2, f2⟩ := cell_of_box h2.r1
  obtain ⟨c3, f3⟩ := cell_of_box h2.r2
  obtain ⟨tm, htm⟩ : ∃ tm, nmTm w0.heap.size s undef f = tm := ⟨_, rfl⟩
  rw [htm] at h2
  simp only [htm]
  clear htm
  simp only [nmLoop, Tryz.f128, theLoop, Option.bind_some, Option.or_some, Option.or_none, Option.getD_some, Option.getD_none, nmTm]
  by_cases h1 : p = []
  · have hn : normStep parts p = some parts := if_pos (.inl h1)
    simp only [hn]
    subst h1
    gi_wp2
    refine ⟨W2, hbr, ?_⟩
    gi_wp2
    exact ⟨_, _, run_endRound none h2.L, rfl, h2.put .ready none⟩
  by_cases h1' : p = [46]
  · have hn : normStep parts p = some parts := if_pos (.inr h1')
    simp only [hn]
    subst h1'
    gi_wp2
    refine ⟨W2, hbr, ?_⟩
    gi_wp2
    exact ⟨_, _, run_endRound none h2.L, rfl, h2.put .ready none⟩
  by_cases h3 : p = [46, 46]
  · subst h3
    rcases hrow.2 with ⟨hv0, hp0⟩ | ⟨g, cap, cur, hv0, hb, hg, hp1, hp2, hp3, hp4⟩
    · have hp00 : parts = [] := List.eq_nil_of_length_eq_zero hp0
      have hn : normStep parts [46, 46] = none := by rw [hp00]; rfl
      simp only [hn]
      subst hv0
      gi_wp2
      refine ⟨W2, hbr, ?_⟩
      gi_wp2
      have h4 := (h2.set1).set2 (.iface 58 (.int .i64 12))
      exact ⟨_, _, run_endRound (some .ret) h4.L, rfl, h4.put .done (some .ret)⟩
    · by_cases hpe : parts = []
      · have hn : normStep parts [46, 46] = none := by rw [hpe]; rfl
        simp only [hn]
        subst hv0
        subst hpe
        gi_wp2
        refine ⟨W2, hbr, ?_⟩
        gi_wp2
        have h4 := (h2.set1).set2 (.iface 58 (.int .i64 12))
        exact ⟨_, _, run_endRound (some .ret) h4.L, rfl, h4.put .done (some .ret)⟩
      obtain ⟨q, l, rfl⟩ : ∃ q l, parts = q ++ [l] := by
        rcases List.eq_nil_or_concat parts with h | ⟨q, l, h⟩
        · exact (hpe h).elim
        · exact ⟨q, l, by simpa using h⟩
      have hn : normStep (q ++ [l]) [46, 46] = some q := by simp [normStep]
      simp only [hn]
      subst hv0
      gi_wp2
      refine ⟨W2, hbr, ?_⟩
      have hw : wrap64 (q.length : Int) = q.length := by
        simp only [List.length_append, List.length_cons, List.length_nil] at hlen
        unfold wrap64
        omega
      have hrow' : W2.ownsRow (w0.heap.size + 8) 9 1 (.slice (some ⟨g, 0, none⟩) (q.length + 1) cap) (q.length + 1) (q.map sv ++ [sv l]) := by simpa using hrow
      gi_wp2
      · have h4 := h2.setP (.slice (some ⟨g, 0, none⟩) q.length cap) q (ownsRow_pop (by simp) hrow')
        exact ⟨_, _, run_endRound none h4.L, rfl, h4.put .ready none⟩
      · exfalso
        rw [List.length_append] at hp1
        simp only [List.length_cons, List.length_nil] at hp1
        omega
  · have hn : normStep parts p = some (parts ++ [p]) := by simp [normStep, h1, h1', h3]
    simp only [hn]
    have e0 : p.isEmpty = false := by
      cases p with
      | nil => exact (h1 rfl).elim
      | cons a b => rfl
    have e1 : (p == [46]) = false := by simpa using h1'
    have e2 : (p == [46, 46]) = false := by simpa using h3
    obtain ⟨i0, hi, hz0, hz1, hz2⟩ := info_parts nm_info9
    have h162 : Tryz.prog.underlying 162 = some (.slice 9) := by kernel_rfl
    have hsz : w0.heap.size + 8 ≤ W2.heap.size := by
      have := (Array.getElem?_eq_some_iff.1 h2.L).1
      omega
    have hne : ∀ k, k < w0.heap.size + 8 → some k ≠ v.ownBlock := fun k hk => by
      rcases ownsRow_ne8 hrow hk with h | h
      · rw [h]; simp
      · exact fun e => h e.symm
    have hrows : ∀ k, v.ownBlock = some k → w0.heap.size + 8 ≤ k := fun k e => (hrow.lt k e).1
    gi_wp2
    refine ⟨W2, hbr, ?_⟩
    gi_wp2_with (first
      | (gi_at_builtin; refine wpListIn_append_own _ rfl _ _ 162 rfl (w0.heap.size + 8) 9 i0 (sv []) 1 16 h162 hi hz0 hz1 hz2 rfl (by decide) _ _ _ rfl (hrow.alloc _) ⟨W2.heap.size, 0, none⟩ 1 1 [sv p] rfl rfl (cell_one_new _ _ _) (by simp [Value.oneCell']) (by unfold maxLen; omega) (by omega) (by simp; omega) ?_; intro v' w3 hown' hg3 hnil3
         have hg3' : (W2.alloc (.cells #[sv p] 9)).grownBy w3 v.ownBlock := hg3
         have h6 := h2.appended (grownBy_trans (World.grownBy_alloc W2 (.cells #[sv p] 9) v.ownBlock) hg3') hrows _ (parts ++ [p]) (by simpa using hown')
         obtain ⟨g', cap', rfl⟩ := ownsRow_succ hown'
         have hv3 : w3.heap[w0.heap.size + 2]? = some (.cells #[v] 162 (0, 0)) := (hg3'.block _ (by simp; omega) (hne _ (by omega))).trans ((Below.heap_alloc _ _ _ (by omega)).trans hv)
         obtain ⟨c4, f4⟩ := cell_of_box hv3)
      | gi_in)
    exact ⟨_, _, run_endRound none h6.L, rfl, h6.put .ready none⟩
end Go.Proofs
namespace Go.Proofs
open Go.RowKit Go.Shelf Go.Abs Go.Maps Go.Sort
attribute [local go_sem] Oper.semAt_some
set_option maxRecDepth 100000
theorem gg_later {w W : World} (h : GG (fun b => b < w.heap.size) w) (hb : Below w.heap.size w W) : GG (fun b => b < W.heap.size) W :=
  gg_stable _ _ _ _ h (fun b hb' => Nat.lt_of_lt_of_le hb' hb.size) fun b hb' => hb.block b hb'
theorem ev_calls {g : Nat} {fn : Func} (hf : Tryz.prog.funcs[g]? = some fn) (hb : fn.body.isSome = true) (hn : (fn.name == "runtime.NumGoroutine") = false) {args : List AVal} {r : AVal} (hs : callT AA g args [] = some (r, [])) {w : World} {vals : Array Value}
    (hG : GG (fun b => b < w.heap.size) w) (hl : args.length = vals.size) (hr : ∀ (i : Nat) (c : AVal) (v : Value), args[i]? = some c → vals[i]? = some v → Rep (fun _ => none) (fun b => b < w.heap.size) (fun _ => False) w c v) :
    Go.Calls Tryz.prog g vals w fun e w' => ∃ v ι S, e = .returned v ∧ Rep ι S (fun _ => False) w' r v ∧ Below w.heap.size w w' := by
  have hi : Inv (fun _ => none) (fun b => b < w.heap.size) (fun _ => False) [] w (Free.above 0) := ⟨by simp, by simp, by simp, fun _ _ => rfl, fun _ h => h, fun _ h => h.elim⟩
  have h := callT_sound aa_of g args [] r [] hs _ _ _ w vals hG hi hl hr
  obtain ⟨c, hc⟩ := Option.isSome_iff_exists.1 hb
  have hrun : (callFunc g vals).run Tryz.prog w = .ok (.enter g vals) w := by
    have hn : ¬ fn.name = "runtime.NumGoroutine" := by simpa using hn
    simp [callFunc, hf, hn, hc]
  unfold CallOK at h
  rw [hrun] at h
  refine Go.Calls.mono h fun e w' he => ?_
  cases e with
  | returned v =>
    obtain ⟨ι', S', n', h1, h2, h3⟩ := he
    exact ⟨v, ι', S', rfl, h1, h3.os, h3.tape, h3.output, h3.size, fun k hk => h3.frame k hk fun ⟨e, he, _⟩ => by cases he⟩
  | panicked c => exact he.elim
  | outgrown => exact he.elim
theorem idx_calls (s : List UInt8) (W : World) (hG : GG (fun b => b < W.heap.size) W) : Go.Calls Tryz.prog 237 #[sv s, sv [47]] W fun e W' => e = .returned (.int .i64 (Lib.indexByte s 47)) ∧ Below W.heap.size W W' := by
  refine (ev_calls Tryz.func237 (by kernel_rfl) (by kernel_rfl) (s237 s 47) (vals := #[sv s, sv [47]]) hG rfl (by
    intro i c v hc hv
    match i, hc, hv with
    | 0, hc, hv => cases hc; cases hv; exact .str _
    | 1, hc, hv => cases hc; cases hv; exact .str _
    | i + 2, hc, hv => cases hc)).mono fun e w' => ?_
  rintro ⟨v, _, _, rfl, h1, h2⟩
  rw [h1.int_inv]
  exact ⟨rfl, h2⟩
theorem NmAt.later {w0 : World} {fn : FuncId} {tm : Array Value} {rest : List UInt8} {parts : List (List UInt8)} {st : LoopState} {pend : Option Code} {e : Value} {W W' : World} (h : NmAt w0 fn tm rest parts st pend e W) (hb : Below W.heap.size W W') : NmAt w0 fn tm rest parts st pend e W' := by
  have hs := (Array.getElem?_eq_some_iff.1 h.L).1
  have o : ∀ k, k < w0.heap.size + 8 → W'.heap[k]? = W.heap[k]? := fun k hk => hb.block k (by omega)
  have hg : W.grownBy W' none := ⟨hb.os, hb.tape, hb.output, hb.size, fun k hk _ => hb.block k hk⟩
  obtain ⟨v, hv, hr⟩ := h.pt
  refine ⟨(o _ (by omega)).trans h.r1, (o _ (by omega)).trans h.r2, ⟨v, (o _ (by omega)).trans hv, hr.kept hg ?_⟩, (o _ (by omega)).trans h.sb, (o _ (by omega)).trans h.pb, (o _ (by omega)).trans h.kb, (o _ (by omega)).trans h.K,
    (o _ (by omega)).trans h.L, h.below.grown hg h.below.size (fun k e => by cases e)⟩
  cases v.ownBlock with
  | none => exact .inl rfl
  | some g => exact .inr (by simp)
def normRun (parts : List (List UInt8)) : List (List UInt8) → Option (List (List UInt8))
  | [] => some parts
  | p :: ps => match normStep parts p with
    | some q => normRun q ps
    | none => none
def nmLeft (B : Nat) (W : World) : Nat := match W.cell? ⟨B, 0, none⟩ with
  | some (.string b) => b.size
  | _ => 0
theorem NmAt.setS {w0 : World} {fn : FuncId} {tm : Array Value} {rest : List UInt8} {parts : List (List UInt8)} {st : LoopState} {pend : Option Code} {e : Value} {W : World} (h : NmAt w0 fn tm rest parts st pend e W) (x : List UInt8) :
    NmAt w0 fn tm x parts st pend e (W.setCell ⟨w0.heap.size + 3, 0, none⟩ (sv x)) := by
  have o : ∀ k, k ≠ w0.heap.size + 3 → (W.setCell ⟨w0.heap.size + 3, 0, none⟩ (sv x)).heap[k]? = W.heap[k]? := fun k hk => Below.heap_setCell W ⟨w0.heap.size + 3, 0, none⟩ _ k hk
  have hg := grownBy_setCell' W (w0.heap.size + 3) (sv x)
  obtain ⟨v, hv, hr⟩ := h.pt
  exact ⟨(o _ (by omega)).trans h.r1, (o _ (by omega)).trans h.r2, ⟨v, (o _ (by omega)).trans hv, hr.kept hg (ownsRow_ne8 hr (by omega))⟩, heap_setCell_box _ h.sb, (o _ (by omega)).trans h.pb, (o _ (by omega)).trans h.kb, (o _ (by omega)).trans h.K,
    (o _ (by omega)).trans h.L, h.below.grown hg h.below.size (fun k e => by cases e; omega)⟩
theorem NmAt.left {w0 : World} {fn : FuncId} {tm : Array Value} {rest : List UInt8} {parts : List (List UInt8)} {st : LoopState} {pend : Option Code} {e : Value} {W : World} (h : NmAt w0 fn tm rest parts st pend e W) : nmLeft (w0.heap.size + 3) W = rest.length := by
  unfold nmLeft
  rw [(cell_of_box h.sb).1]
  simp [ByteArray.size]
theorem normStep_length {parts q : List (List UInt8)} {p : List UInt8} (h : normStep parts p = some q) : q.length ≤ parts.length + 1 := by
  unfold normStep at h
  split at h
  · cases h; omega
  · split at h
    · split at h
      · cases h
      · cases h; simp; omega
    · cases h; simp
def NmEnd (w0 : World) (fn : FuncId) (tm : Array Value) (R : Option (List (List UInt8))) (W : World) : Prop := ∃ rest', match R with
  | some q => NmAt w0 fn tm rest' q .ready none .nilIface W
  | none => ∃ q, NmAt w0 fn tm rest' q .done (some .ret) (.iface 58 (.int .i64 12)) W
theorem nm_yield {w0 : World} {fn : FuncId} {s f e : Value} {rest : List UInt8} {parts : List (List UInt8)} {W : World} (h : NmAt w0 fn (nmTm w0.heap.size s undef f) rest parts .ready none e W) (x : List UInt8) :
    (Instr.yield (w0.heap.size + 7) #[sv x]).run Tryz.prog W = .ok (.round (w0.heap.size + 7) fn (nmTm w0.heap.size s (sv x) f) nmLoop.1 nmLoop.2) W := by
  have h1 := run_yield (P := Tryz.prog) (args := #[sv x]) h.L rfl
  simpa [nmRec, nmTm] using h1
theorem ext_take (l : List UInt8) (i : Nat) : (⟨l.toArray⟩ : ByteArray).extract 0 i = ⟨(l.take i).toArray⟩ := by
  apply ByteArray.ext
  simp
theorem ext_drop (l : List UInt8) (i : Nat) (n : Nat) (hn : n = l.length) : (⟨l.toArray⟩ : ByteArray).extract i n = ⟨(l.drop i).toArray⟩ := by
  subst hn
  apply ByteArray.ext
  apply Array.ext'
  simp
  exact List.take_of_length_le (by simp)
set_option maxHeartbeats 4000000 in
theorem nm_235 (n : Nat) (hn : 1 ≤ n) (w0 : World) (hG : GG (fun b => b < w0.heap.size) w0) (fn : FuncId) (s f : Value) (rest0 : List UInt8) (parts0 : List (List UInt8)) (hlen0 : parts0.length + rest0.length < 900000000) (W : World)
    (h : NmAt w0 fn (nmTm w0.heap.size s undef f) rest0 parts0 .ready none .nilIface W) :
    CallsIn Fence.wide n Tryz.prog 235 #[.func (.yield (w0.heap.size + 7)) #[] #[], .pointer (some ⟨w0.heap.size + 4, 0, none⟩), .pointer (some ⟨w0.heap.size + 3, 0, none⟩), .pointer (some ⟨w0.heap.size + 5, 0, none⟩)] W fun e W' => (∃ v, e = .returned v) ∧ NmEnd w0 fn (nmTm w0.heap.size s undef f) (normRun parts0 (Am.splitOn 47 rest0)) W' := by
  refine callsIn_of_wp Tryz.func235 rfl trivial ?_ rfl
  simp only [Tryz.ntmps235, List.size_toArray, List.length_cons, List.length_nil, Nat.reduceAdd, Nat.reduceSub, Array.replicate_succ, Array.replicate_zero, List.push_toArray, List.append_toArray, List.nil_append, List.cons_append]
  obtain ⟨c1, f1⟩ := cell_of_box h.pb
  gi_wp2
  gi_loopw [] (fun wr => ∃ (rest : List UInt8) (parts : List (List UInt8)), NmAt w0 fn (nmTm w0.heap.size s undef f) rest parts .ready none .nilIface wr ∧ parts.length + rest.length < 900000000 ∧ normRun parts (Am.splitOn 47 rest) = normRun parts0 (Am.splitOn 47 rest0)) (fun wr => nmLeft (w0.heap.size + 3) wr)
  case atStart => exact ⟨rest0, parts0, h, hlen0, rfl⟩
  case round =>
    obtain ⟨rest, parts, hA, hlen, hR⟩ := hrel
    have hGr := gg_later hG hA.below
    obtain ⟨c2, f2⟩ := cell_of_box hA.pb
    obtain ⟨c3, f3⟩ := cell_of_box hA.sb
    obtain ⟨c4, f4⟩ := cell_of_box hA.kb
    rcases Int.lt_or_le (Lib.indexByte rest 47) 0 with hi | hi
    · obtain ⟨hs1, _⟩ := Am.split_none hi
      gi_wp2_with (first
        | (refine ⟨trivial, ?_⟩; gi_at_call 237; refine (callsIn_wide.2 (idx_calls rest wr (gg_later hG hA.below))).mono ?_; rintro e W1 ⟨rfl, hb1⟩; have hA1 := hA.later hb1; obtain ⟨c5, f5⟩ := cell_of_box hA1.pb; obtain ⟨c6, f6⟩ := cell_of_box hA1.sb; obtain ⟨c7, f7⟩ := cell_of_box hA1.kb; have hy := nm_yield hA1 rest)
        | gi_in)
      refine (nm_round Fence.wide (n - 1) w0 fn trivial s f rest parts rest (by omega) W1 hA1).mono ?_
      intro e W2 hr
      cases hq : normStep parts rest with
      | none =>
        simp only [hq] at hr
        obtain ⟨rfl, hA2⟩ := hr
        gi_wp2
        go_end0
        refine ⟨⟨_, rfl⟩, ?_⟩
        rw [← hR, hs1]
        simp only [normRun, hq]
        exact ⟨rest, _, hA2⟩
      | some q =>
        simp only [hq] at hr
        obtain ⟨rfl, hA2⟩ := hr
        gi_wp2
        go_end0
        refine ⟨⟨_, rfl⟩, ?_⟩
        rw [← hR, hs1]
        simp only [normRun, hq]
        exact ⟨rest, hA2⟩
    · have hlt := Am.indexByte_lt (s := rest) (c := 47)
      have hw : wrap64 (Lib.indexByte rest 47) = Lib.indexByte rest 47 := by
        unfold wrap64
        omega
      obtain ⟨hs1, _⟩ := Am.split_some hi
      have he := ext_take rest (Lib.indexByte rest 47).toNat
      gi_wp2_with (first
        | (refine ⟨trivial, ?_⟩; gi_at_call 237; refine (callsIn_wide.2 (idx_calls rest wr (gg_later hG hA.below))).mono ?_; rintro e W1 ⟨rfl, hb1⟩; have hA1 := hA.later hb1; obtain ⟨c5, f5⟩ := cell_of_box hA1.pb; obtain ⟨c6, f6⟩ := cell_of_box hA1.sb; obtain ⟨c7, f7⟩ := cell_of_box hA1.kb; have hy := nm_yield hA1 (rest.take (Lib.indexByte rest 47).toNat))
        | gi_in)
      refine (nm_round Fence.wide (n - 1) w0 fn trivial s f rest parts (rest.take (Lib.indexByte rest 47).toNat) (by omega) W1 hA1).mono ?_
      intro e W2 hr
      cases hq : normStep parts (rest.take (Lib.indexByte rest 47).toNat) with
      | none =>
        simp only [hq] at hr
        obtain ⟨rfl, hA2⟩ := hr
        gi_wp2
        refine bodyPost_ret (results_none rfl _ _ _) rfl ?_
        refine ⟨⟨_, rfl⟩, ?_⟩
        rw [← hR, hs1]
        simp only [normRun, hq]
        exact ⟨rest, _, hA2⟩
      | some q =>
        simp only [hq] at hr
        obtain ⟨rfl, hA2⟩ := hr
        obtain ⟨d5, g5⟩ := cell_of_box hA2.pb
        obtain ⟨d6, g6⟩ := cell_of_box hA2.sb
        obtain ⟨d7, g7⟩ := cell_of_box hA2.kb
        have hw2 : wrap64 (Lib.indexByte rest 47 + 1) = Lib.indexByte rest 47 + 1 := by
          unfold wrap64
          omega
        have hd := ext_drop rest ((Lib.indexByte rest 47).toNat + 1) rest.length rfl
        have hA3 := hA2.setS (rest.drop ((Lib.indexByte rest 47).toNat + 1))
        have hq1 := normStep_length hq
        have ei : (Lib.indexByte rest 47 + 1).toNat = (Lib.indexByte rest 47).toNat + 1 := by omega
        gi_wp2
        refine ⟨⟨rest.drop ((Lib.indexByte rest 47).toNat + 1), q, ?_, ?_, ?_⟩, ?_⟩
        · exact hA3
        · rw [List.length_drop]
          omega
        · rw [← hR, hs1]
          simp only [normRun, hq]
        · rw [hA3.left, hA.left, List.length_drop]
          omega
end Go.Proofs
namespace Go.Proofs
open Go.RowKit Go.Shelf Go.Abs Go.Maps Go.Sort
attribute [local go_sem] Oper.semAt_some
set_option maxRecDepth 100000
def errW (n : Int) : Value := if n = 0 then .nilIface else .iface 58 (.int .i64 n)
def nmRes (J : List (List UInt8) → List UInt8 × Int) (s : List UInt8) : List UInt8 × Int := match normRun [] (Am.splitOn 47 s) with
  | some q => J q
  | none => ([], 12)
theorem nm_start (w : World) (fn : FuncId) (s : List UInt8) (f : Value) : NmAt w fn (nmTm w.heap.size (sv s) undef f) s [] .ready none .nilIface
    ((((((((w.alloc (.cells #[sv []] 9)).alloc (.cells #[.nilIface] 28)).alloc (.cells #[.slice none 0 0] 162)).alloc (.cells #[sv s] 9)).alloc (.cells #[sv [47]] 9)).alloc (.cells #[.int .i64 0] 3)).alloc (.deferred (some []))).alloc (.loop (nmRec fn (nmTm w.heap.size (sv s) undef f) (w.heap.size + 6) .ready none))) := by
  have e : ∀ (W : World) (o : Obj), (W.alloc o).heap = W.heap.push o := fun _ _ => rfl
  refine ⟨?_, ?_, ⟨.slice none 0 0, ?_, World.ownsRow_nil _ _ _ _⟩, ?_, ?_, ?_, ?_, ?_, ?_⟩
  all_goals try (simp only [e, Array.getElem?_push, Array.size_push, Nat.add_assoc, Nat.reduceAdd]; simp; done)
  have b0 := Below.refl w.heap.size w
  have b1 := b0.alloc b0.size (.cells #[sv []] 9)
  have b2 := b1.alloc b1.size (.cells #[.nilIface] 28)
  have b3 := b2.alloc b2.size (.cells #[.slice none 0 0] 162)
  have b4 := b3.alloc b3.size (.cells #[sv s] 9)
  have b5 := b4.alloc b4.size (.cells #[sv [47]] 9)
  have b6 := b5.alloc b5.size (.cells #[.int .i64 0] 3)
  have b7 := b6.alloc b6.size (.deferred (some []))
  exact b7.alloc b7.size _
set_option maxHeartbeats 4000000 in
theorem nm_128 (J : List (List UInt8) → List UInt8 × Int) (s : List UInt8) (hs : s.length < 800000000)
    (HJ : ∀ q, normRun [] (Am.splitOn 47 s) = some q → ∀ (base : Nat) (W : World) (v : Value), GG (fun b => b < W.heap.size) W → W.ownsRow base 9 1 v q.length (q.map sv) → Go.Calls Tryz.prog 163 #[v] W fun e W' => e = .returned (.tuple #[sv (J q).1, errW (J q).2]) ∧ Below W.heap.size W W')
    (w : World) (hG : GG (fun b => b < w.heap.size) w) :
    Go.Calls Tryz.prog 128 #[sv s] w fun e W' => e = .returned (.tuple #[sv (nmRes J s).1, errW (nmRes J s).2]) ∧ Below w.heap.size w W' := by
  obtain ⟨a, E, hr⟩ : ∃ a E, nmRes J s = (a, E) := ⟨_, _, rfl⟩
  rw [hr]
  refine (callsIn_wide (n := 3)).1 ?_
  refine callsIn_of_wp_marks Tryz.func128 rfl trivial ?_ rfl
  simp only [Tryz.ntmps128, List.size_toArray, List.length_cons, List.length_nil, Nat.reduceAdd, Nat.reduceSub, Array.replicate_succ, Array.replicate_zero, List.push_toArray, List.append_toArray, List.nil_append, List.cons_append]
  gi_wp2_with (first
    | (refine ⟨trivial, ?_⟩; gi_at_call 162; refine (nm_162 Fence.wide 2 trivial trivial rfl (by omega) s _).mono ?_; rintro e w' ⟨rfl, rfl⟩)
    | gi_in)
  simp only [Nat.add_assoc, Nat.reduceAdd]
  refine wpIn_rangeFunc ?_
  intro fn hfn
  obtain ⟨W0, hW0⟩ : ∃ W0, ((((((w.alloc (.cells #[sv []] 9)).alloc (.cells #[.nilIface] 28)).alloc (.cells #[.slice none 0 0] 162)).alloc (.cells #[sv s] 9)).alloc (.cells #[sv [47]] 9)).alloc (.cells #[.int .i64 0] 3)) = W0 := ⟨_, rfl⟩
  have hs0 : W0.heap.size = w.heap.size + 6 := by rw [← hW0]; simp
  have hM := nm_start w fn s (.func (.func 235) #[] #[.pointer (some ⟨w.heap.size + 4, 0, none⟩), .pointer (some ⟨w.heap.size + 3, 0, none⟩), .pointer (some ⟨w.heap.size + 5, 0, none⟩)])
  rw [hW0] at hM
  obtain ⟨W1, hW1⟩ : ∃ W1, (W0.alloc (.deferred (some []))).alloc (.loop (nmRec fn (nmTm w.heap.size (sv s) undef (.func (.func 235) #[] #[.pointer (some ⟨w.heap.size + 4, 0, none⟩), .pointer (some ⟨w.heap.size + 3, 0, none⟩), .pointer (some ⟨w.heap.size + 5, 0, none⟩)])) (w.heap.size + 6) .ready none)) = W1 := ⟨_, rfl⟩
  rw [hW1] at hM
  refine ⟨w.heap.size + 7, [{ target := .collected (w.heap.size + 6), args := #[] }], W1, { target := .fn (.func 235) #[.pointer (some ⟨w.heap.size + 4, 0, none⟩), .pointer (some ⟨w.heap.size + 3, 0, none⟩), .pointer (some ⟨w.heap.size + 5, 0, none⟩)], args := #[.func (.yield (w.heap.size + 7)) #[] #[]] }, W1, 235,
    #[.func (.yield (w.heap.size + 7)) #[] #[], .pointer (some ⟨w.heap.size + 4, 0, none⟩), .pointer (some ⟨w.heap.size + 3, 0, none⟩), .pointer (some ⟨w.heap.size + 5, 0, none⟩)], W1, ?_, ?_, ?_, ?_, fun _ => by omega, ?_⟩
  · rw [← hW1]
    rw [hW0]
    have := run_enterLoop_outer (P := Tryz.prog) (w := W0) fn (nmTm w.heap.size (sv s) undef (.func (.func 235) #[] #[.pointer (some ⟨w.heap.size + 4, 0, none⟩), .pointer (some ⟨w.heap.size + 3, 0, none⟩), .pointer (some ⟨w.heap.size + 5, 0, none⟩)])) #[8] nmLoop.1 nmLoop.2
    rw [hs0] at this
    exact this
  · simp [resolve, go_sem]
  · intro f' hf'; trivial
  · simp [invoke, go_sem]
  · refine (nm_235 2 (by omega) w hG fn (sv s) _ s [] (by simp; omega) W1 hM).mono ?_
    rintro e W2 ⟨⟨v, rfl⟩, rest', hE⟩
    cases hq : normRun [] (Am.splitOn 47 s) with
    | none =>
      simp only [hq] at hE
      obtain ⟨q, h2⟩ := hE
      have hn : nmRes J s = ([], 12) := by unfold nmRes; rw [hq]
      rw [hn] at hr
      cases hr
      have hend := run_endLoop (P := Tryz.prog) h2.L (by simp [nmRec])
      refine ⟨some .ret, _, hend, ?_⟩
      have h3 := h2.put .exhausted (some .ret)
      gi_wp2
      obtain ⟨W3, hW3⟩ : ∃ W3, W2.putObj (w.heap.size + 7) (.loop (nmRec fn (nmTm w.heap.size (sv s) undef (.func (.func 235) #[] #[.pointer (some ⟨w.heap.size + 4, 0, none⟩), .pointer (some ⟨w.heap.size + 3, 0, none⟩), .pointer (some ⟨w.heap.size + 5, 0, none⟩)])) (w.heap.size + 6) .exhausted (some .ret))) = W3 := ⟨_, rfl⟩
      rw [hW3] at h3
      refine ⟨by simp, .inl ⟨_, W3.putObj (w.heap.size + 6) (.deferred none), rfl, ?_, ?_⟩⟩
      · rw [← hW3]
        exact run_takeDeferred (by rw [← hW3] at h3; exact h3.K)
      · have o : ∀ k, k ≠ w.heap.size + 6 → (W3.putObj (w.heap.size + 6) (.deferred none)).heap[k]? = W3.heap[k]? := fun k hk => World.putObj_heap_other hk
        have hc1 := (cell_of_box ((o w.heap.size (by omega)).trans h3.r1)).1
        have hc2 := (cell_of_box ((o (w.heap.size + 1) (by omega)).trans h3.r2)).1
        refine ⟨.tuple #[sv [], errW 12], ?_, rfl, h3.below.grown (grownBy_putObj' W3 _ _) h3.below.size (fun k e => by cases e; omega)⟩
        simp [results, Tryz.f128, go_sem, hc1, hc2, errW]
    | some q =>
      simp only [hq] at hE
      have h2 := hE
      have hn : nmRes J s = J q := by unfold nmRes; rw [hq]
      rw [hn] at hr
      have hend := run_endLoop (P := Tryz.prog) h2.L (by simp [nmRec])
      refine ⟨none, _, hend, ?_⟩
      have h3 := h2.put .exhausted none
      obtain ⟨W3, hW3⟩ : ∃ W3, W2.putObj (w.heap.size + 7) (.loop (nmRec fn (nmTm w.heap.size (sv s) undef (.func (.func 235) #[] #[.pointer (some ⟨w.heap.size + 4, 0, none⟩), .pointer (some ⟨w.heap.size + 3, 0, none⟩), .pointer (some ⟨w.heap.size + 5, 0, none⟩)])) (w.heap.size + 6) .exhausted none)) = W3 := ⟨_, rfl⟩
      rw [hW3] at h3
      obtain ⟨v, hv, hrow⟩ := h3.pt
      obtain ⟨c1, f1⟩ := cell_of_box hv
      have hJ := HJ q hq _ W3 v (gg_later hG h3.below) hrow
      rw [hr] at hJ
      obtain ⟨eE, heE, hone⟩ : ∃ eE, errW E = eE ∧ (eE = .nilIface ∨ eE = .iface 58 (.int .i64 E)) := by
        unfold errW
        split
        · exact ⟨_, rfl, .inl rfl⟩
        · exact ⟨_, rfl, .inr rfl⟩
      simp only [heE] at hJ
      show Exit.inBlock 0 _ Exit.normal _ (W2.putObj (w.heap.size + 7) (.loop (nmRec fn (nmTm w.heap.size (sv s) undef (.func (.func 235) #[] #[.pointer (some ⟨w.heap.size + 4, 0, none⟩), .pointer (some ⟨w.heap.size + 3, 0, none⟩), .pointer (some ⟨w.heap.size + 5, 0, none⟩)])) (w.heap.size + 6) .exhausted none)))
      rw [hW3]
      have fin : ∀ (W4 : World), NmAt w fn (nmTm w.heap.size (sv s) undef (.func (.func 235) #[] #[.pointer (some ⟨w.heap.size + 4, 0, none⟩), .pointer (some ⟨w.heap.size + 3, 0, none⟩), .pointer (some ⟨w.heap.size + 5, 0, none⟩)])) rest' q .exhausted none .nilIface W4 →
          ∃ W6, (Instr.takeDeferred (w.heap.size + 6)).run Tryz.prog ((W4.setCell ⟨w.heap.size, 0, none⟩ (sv a)).setCell ⟨w.heap.size + 1, 0, none⟩ eE) = .ok [] W6 ∧ W6.cell? ⟨w.heap.size, 0, none⟩ = some (sv a) ∧ W6.cell? ⟨w.heap.size + 1, 0, none⟩ = some eE ∧ Below w.heap.size w W6 := by
        intro W4 h4
        have g1 := grownBy_setCell' W4 w.heap.size (sv a)
        have g2 := grownBy_setCell' (W4.setCell ⟨w.heap.size, 0, none⟩ (sv a)) (w.heap.size + 1) eE
        have o1 : ∀ k, k ≠ w.heap.size → (W4.setCell ⟨w.heap.size, 0, none⟩ (sv a)).heap[k]? = W4.heap[k]? := fun k hk => Below.heap_setCell W4 ⟨w.heap.size, 0, none⟩ _ k hk
        have o2 : ∀ k, k ≠ w.heap.size + 1 → ((W4.setCell ⟨w.heap.size, 0, none⟩ (sv a)).setCell ⟨w.heap.size + 1, 0, none⟩ eE).heap[k]? = (W4.setCell ⟨w.heap.size, 0, none⟩ (sv a)).heap[k]? := fun k hk => Below.heap_setCell _ ⟨w.heap.size + 1, 0, none⟩ _ k hk
        have r1 := (o2 w.heap.size (by omega)).trans (heap_setCell_box (sv a) h4.r1)
        have r2 := heap_setCell_box eE ((o1 (w.heap.size + 1) (by omega)).trans h4.r2)
        have rK := (o2 (w.heap.size + 6) (by omega)).trans ((o1 (w.heap.size + 6) (by omega)).trans h4.K)
        have b1 := h4.below.grown g1 h4.below.size (fun k e => by cases e; omega)
        have b2 := b1.grown g2 b1.size (fun k e => by cases e; omega)
        have o3 : ∀ k, k ≠ w.heap.size + 6 → (((W4.setCell ⟨w.heap.size, 0, none⟩ (sv a)).setCell ⟨w.heap.size + 1, 0, none⟩ eE).putObj (w.heap.size + 6) (.deferred none)).heap[k]? = ((W4.setCell ⟨w.heap.size, 0, none⟩ (sv a)).setCell ⟨w.heap.size + 1, 0, none⟩ eE).heap[k]? := fun k hk => World.putObj_heap_other hk
        exact ⟨_, run_takeDeferred rK, (cell_of_box ((o3 _ (by omega)).trans r1)).1, (cell_of_box ((o3 _ (by omega)).trans r2)).1, b2.grown (grownBy_putObj' _ _ _) b2.size (fun k e => by cases e; omega)⟩
      rcases hone with h0 | h0
      all_goals
        subst h0
        gi_wp2_with (first
          | (refine ⟨trivial, ?_⟩; gi_at_call 163; refine (callsIn_wide.2 hJ).mono ?_; rintro e W4 ⟨rfl, hb4⟩; have h4 := h3.later hb4; obtain ⟨c2, f2⟩ := cell_of_box h4.r1; obtain ⟨c3, f3⟩ := cell_of_box h4.r2)
          | gi_in)
        obtain ⟨W6, hW6, hc1, hc2, hb6⟩ := fin W4 h4
        refine ⟨by simp, .inl ⟨_, W6, rfl, hW6, ?_⟩⟩
        refine ⟨.tuple #[sv a, errW E], ?_, rfl, hb6⟩
        simp [results, Tryz.f128, go_sem, hc1, hc2, heE]
end Go.Proofs
namespace Go.Proofs.YtambgnjkakdoeaaGreatDoor
open Go.Shelf Go.RowKit Go.Lib Go.Sort
theorem index_two (s : ByteArray) (c : UInt8) (w : World) : Calls Tryz.prog 202 #[.string s, .string ⟨#[c]⟩] w fun e w' => e = .returned (.int .i64 (Lib.index s.data.toList [c])) ∧ w' = w := by
  rw [Lib.index_one]
  exact Any.stringslite_Index_one { Tryz.lays145 with } s c w
set_option maxHeartbeats 2000000 in
set_option maxRecDepth 100000 in
theorem cut1_calls (s : ByteArray) (c : UInt8) (w : World) (hs : s.size < 4294967281) :
    Calls Tryz.prog 155 #[.string s, .string ⟨#[c]⟩] w fun e w' => e = .returned (.tuple #[.string ⟨(Lib.cut s.data.toList [c]).1.toArray⟩, .string ⟨(Lib.cut s.data.toList [c]).2.1.toArray⟩, .bool (Lib.cut s.data.toList [c]).2.2]) ∧ ∃ n, w' = w.drewN n := by
  have L := Tryz.lays145
  have hI := index_two s c
  obtain ⟨sep, hsep⟩ : ∃ sep : ByteArray, sep = ⟨#[c]⟩ := ⟨_, rfl⟩
  have hsd : sep.data.toList = [c] := by rw [hsep]
  rw [← hsep] at hI ⊢
  rw [← hsd] at hI ⊢
  clear hsd
  have mixed := L.mixed
  rcases Lib.indexB_cases s sep with hix | ⟨i, hix, hroom⟩
  · obtain ⟨e1, e2, e3⟩ := Lib.cutB_miss s sep hix
    rw [e1, e2, e3]
    rw [show Lib.index s.data.toList sep.data.toList = _ from hix] at hI
    clear hsep
    go_enter Tryz.func155, Tryz.ntmps155
    go_wp2_with (go_at_call 202; refine (hI _).mono ?_; rintro e w' ⟨rfl, rfl⟩)
    go_ret3
    exact ⟨rfl, 0, rfl⟩
  · obtain ⟨e1, e2, e3⟩ := Lib.cutB_hit s sep i hix
    rw [e1, e2, e3]
    rw [show Lib.index s.data.toList sep.data.toList = _ from hix] at hI
    have c1 : (0 : Int) ≤ ↑i := by omega
    have c2 : (↑i : Int) ≤ ↑s.size := by omega
    have c3 : (0 : Int) ≤ ↑i + ↑sep.size := by omega
    have c4 : (↑i + ↑sep.size : Int) ≤ ↑s.size := by omega
    clear hsep L hix
    go_enter Tryz.func155, Tryz.ntmps155
    go_wp2_with (go_at_call 202; refine (hI _).mono ?_; rintro e w' ⟨rfl, rfl⟩)
    go_region_o
    go_wp2
    go_ret3
    exact ⟨rfl, 1, rfl⟩
set_option maxHeartbeats 1000000 in
theorem cuts1_calls (s : ByteArray) (c : UInt8) (w : World) (hs : s.size < 4294967281) :
    Calls Tryz.prog 119 #[.string s, .string ⟨#[c]⟩] w fun e w' => e = .returned (.tuple #[.string ⟨(Lib.cut s.data.toList [c]).1.toArray⟩, .string ⟨(Lib.cut s.data.toList [c]).2.1.toArray⟩, .bool (Lib.cut s.data.toList [c]).2.2]) ∧ ∃ n, w' = w.drewN n := by
  have hI := fun w => cut1_calls s c w hs
  generalize (⟨(Lib.cut s.data.toList [c]).1.toArray⟩ : ByteArray) = a at *
  generalize (⟨(Lib.cut s.data.toList [c]).2.1.toArray⟩ : ByteArray) = b at *
  generalize (Lib.cut s.data.toList [c]).2.2 = d at *
  generalize (⟨#[c]⟩ : ByteArray) = sep at *
  go_enter Tryz.func119, Tryz.ntmps119
  go_wp2_with (go_at_call 155; refine (hI _).mono ?_; rintro e w' ⟨rfl, n, rfl⟩)
  go_ret3
  exact ⟨rfl, n, rfl⟩
end Go.Proofs.YtambgnjkakdoeaaGreatDoor
namespace Go.Abs
attribute [go_sem] decide_true decide_false Bool.not_true Bool.not_false Bool.and_true Bool.and_false Bool.true_and Bool.false_and Bool.or_true Bool.or_false Bool.true_or Bool.false_or List.isEmpty_nil List.isEmpty_cons Bool.false_eq_true true_and and_true Nat.zero_le Nat.not_lt_zero beq_self_eq_true List.length_nil wrap_i64 wrap_u8 wrap_i32 wrap_u32 wrap_u64 Option.some.injEq forall_eq' Int.natCast_zero Int.natCast_one cast_lit Int.toNat_natCast eq_self if_true if_false u8_back decide_eq_true decide_eq_false toNat_succ Int.natCast_add Nat.le_refl Int.le_refl beq_true beq_false true_or or_true false_or or_false Nat.reduceAdd Nat.reduceSub Nat.reduceMul Nat.reduceLT Nat.reduceLeDiff Nat.reduceEqDiff Nat.reduceBEq Int.reduceLT Int.reduceLE Int.reduceEq Int.reduceToNat reduceCtorEq
attribute [go_sem ↓] reduceIte
end Go.Abs
namespace Go.Abs
end Go.Abs
namespace Go.Abs
end Go.Abs
namespace Go.Abs
end Go.Abs
namespace Go.Abs
def l163_0 : ACode := (.seq (rg [oo 10 (.bin .lss .other false (.t 9) (.t 8))]) (.seq (.cond (.t 10) .skip (.exit 0)) (.seq (.block 1 (.seq (rg [oo 11 (.ixa 1 (.t 7) (.t 9)), oo 12 (.ld 1 false (.t 11)), mv 6 12]) (.seq (.seq (rg [mv 13 6, cl 14 190 [(.t 13)], oo 15 (.un .not (.t 14))]) (.cond (.t 15) (.seq (rg [oo 16 (.mkif 58 (ci 12)), oo 2 (.mov (.c (.str []))), mv 3 16]) .ret) .skip)) (.seq (rg [mv 17 4, mv 18 6, oo 19 (.len 0 (.t 18)), oo 20 (.bin .add .other true (.t 19) (ci 1)), oo 21 (.bin .add .other false (.t 17) (.t 20)), mv 4 21]) (.seq (rg [mv 22 4, oo 23 (.bin .gtr .other true (.t 22) (ci 401))]) (.cond (.t 23) (.seq (rg [oo 24 (.mkif 58 (ci 12)), oo 2 (.mov (.c (.str []))), mv 3 24]) .ret) .skip)))))) (rg [oo 25 (.bin .add .other true (.t 9) (ci 1)), mv 9 25]))))
def r163_0 : ACode := (.seq (.seq (rg [mv 26 0, oo 27 (.len 1 (.t 26)), oo 28 (.bin .eql .other true (.t 27) (ci 0))]) (.cond (.t 28) (.seq (rg [oo 29 (.mkif 58 (ci 12)), oo 2 (.mov (.c (.str []))), mv 3 29]) .ret) .skip)) (.seq (rg [mv 30 0, oo 31 (.call (.c (.func (.func 205) [])) [(.t 30), (.c (.str [47]))]), mv 2 31, oo 3 (.mov (.c (.lit .nilIface)))]) .ret))
def b163 : AFn := ⟨1, 32, [(2, none), (3, none)], (.seq (rg [oo 2 (.mov (.c (.str []))), oo 3 (.mov (.c (.lit .nilIface)))]) (.seq (rg [oo 4 (.mov (ci 0))]) (.seq (.seq (rg [mv 7 0, oo 8 (.len 1 (.t 7)), oo 9 (.mov (ci 0))]) (.block 0 (.loop [0, 2, 3, 4, 7, 8, 9] l163_0))) r163_0)))⟩
theorem fn163 : AA.fn 163 = some b163 := by kernel_rfl
theorem np163 : AA.prim 163 = none := rfl
end Go.Abs
