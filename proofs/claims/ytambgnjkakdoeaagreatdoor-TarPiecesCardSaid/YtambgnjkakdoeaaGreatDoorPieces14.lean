import Derived.Test.YtambgnjkakdoeaaGreatDoorPieces13
import Derived.Below
import Derived.ChangeArms
import Derived.ChangeSame
import Derived.ChangeSlices
import Derived.Deep.Fields
import Derived.Deep.Slices
import Derived.Ground.NamesProg
import Derived.Lib.BytesEntry
import Derived.ProofKit
import Derived.Shelf.Strconv.AtoiAll
import Derived.Shelf.Strconv.Itoa4
import Derived.Shelf.Unicode.ValidAny
import Derived.Test.YtambgnjkakdoeaaGreatDoorProg
import Derived.WalkKit
/- PART OF A PROOF (texts joined by a program): B3 F39 Shelf P1 R0 R2 Q6. -/
set_option linter.unusedVariables false
set_option linter.unusedSimpArgs false
set_option linter.unusedSectionVars false
/- BODIES OF FUNCTIONS, as the small code has them (printed by a program). -/
namespace Go.Abs
/- amphora/amphoralaw12.large -/
def l15_0 : ACode := (.seq (.reg false [] [⟨(some 9), (.bin .lss .other false (.t 8) (.t 7)), none⟩]) (.seq (.cond (.t 9) .skip (.exit 0)) (.seq (.block 1 (.seq (.reg false [] [⟨(some 10), (.ixa 8 (.t 6) (.t 8)), none⟩, ⟨(some 11), (.ld 8 true (.t 10)), none⟩, ⟨(some 5), (.alloc [(.str []), (.int .i64 0), (.int .i64 0), (.int .i64 0), (.int .i64 0), (.int .i64 0), (.str []), (.lit (.slice none 0 0))]), none⟩, ⟨none, (.st 8 (.t 5) (.t 11)), none⟩]) (.seq (.reg false [] [⟨(some 12), (.mov (.t 3)), none⟩, ⟨(some 13), (.fa 7 (.t 5)), none⟩, ⟨(some 14), (.ld 1 false (.t 13)), none⟩, ⟨(some 15), (.len 1 (.t 14)), none⟩, ⟨(some 16), (.bin .add .other true (.c (.int .i64 512)) (.t 15)), none⟩, ⟨(some 17), (.fa 0 (.t 5)), none⟩, ⟨(some 18), (.ld 1 false (.t 17)), none⟩, ⟨(some 19), (.len 0 (.t 18)), none⟩, ⟨(some 20), (.bin .add .other false (.t 16) (.t 19)), none⟩, ⟨(some 21), (.fa 6 (.t 5)), none⟩, ⟨(some 22), (.ld 1 false (.t 21)), none⟩, ⟨(some 23), (.len 0 (.t 22)), none⟩, ⟨(some 24), (.bin .add .other false (.t 20) (.t 23)), none⟩, ⟨(some 25), (.bin .add .other false (.t 12) (.t 24)), none⟩, ⟨(some 3), (.mov (.t 25)), none⟩]) (.seq (.reg false [] [⟨(some 26), (.mov (.t 3)), none⟩, ⟨(some 27), (.bin .gtr .other true (.t 26) (.c (.int .i64 65536))), none⟩]) (.cond (.t 27) (.seq (.reg false [] [⟨(some 2), (.mov (.c (.bool true))), none⟩]) .ret) .skip))))) (.reg false [] [⟨(some 28), (.bin .add .other true (.t 8) (.c (.int .i64 1))), none⟩, ⟨(some 8), (.mov (.t 28)), none⟩]))))
def r15_0 : ACode := (.seq (.reg false [] [⟨(some 2), (.mov (.c (.bool false))), none⟩]) .ret)
def b15 : AFn := ⟨1, 29, [(2, none)], (.seq (.reg false [] [⟨(some 2), (.mov (.c (.bool false))), none⟩]) (.seq (.reg false [] [⟨(some 3), (.mov (.c (.int .i64 0))), none⟩]) (.seq (.seq (.reg false [] [⟨(some 6), (.mov (.t 0)), none⟩, ⟨(some 7), (.len 1 (.t 6)), none⟩, ⟨(some 8), (.mov (.c (.int .i64 0))), none⟩]) (.block 0 (.loop [2, 3, 6, 7, 8] l15_0))) r15_0)))⟩
theorem fn15 : AA.fn 15 = some b15 := by kernel_rfl
theorem np15 : AA.prim 15 = none := rfl
/- amphora/pax.Find -/
def l80_0 : ACode := (.seq (.reg false [] [⟨(some 11), (.bin .lss .other false (.t 10) (.t 9)), none⟩]) (.seq (.cond (.t 11) .skip (.exit 0)) (.seq (.block 1 (.seq (.reg false [] [⟨(some 12), (.ixa 2 (.t 8) (.t 10)), none⟩, ⟨(some 13), (.ld 2 true (.t 12)), none⟩, ⟨(some 7), (.alloc [(.str []), (.str [])]), none⟩, ⟨none, (.st 2 (.t 7) (.t 13)), none⟩]) (.seq (.reg false [] [⟨(some 14), (.fa 0 (.t 7)), none⟩, ⟨(some 15), (.ld 1 false (.t 14)), none⟩, ⟨(some 16), (.mov (.t 1)), none⟩, ⟨(some 17), (.bin .eql .other false (.t 15) (.t 16)), none⟩]) (.cond (.t 17) (.seq (.reg false [] [⟨(some 18), (.fa 1 (.t 7)), none⟩, ⟨(some 19), (.ld 1 false (.t 18)), none⟩, ⟨(some 4), (.mov (.t 19)), none⟩, ⟨(some 5), (.mov (.c (.bool true))), none⟩]) .ret) .skip)))) (.reg false [] [⟨(some 20), (.bin .add .other true (.t 10) (.c (.int .i64 1))), none⟩, ⟨(some 10), (.mov (.t 20)), none⟩]))))
def r80_0 : ACode := (.seq (.reg false [] [⟨(some 4), (.mov (.c (.str []))), none⟩, ⟨(some 5), (.mov (.c (.bool false))), none⟩]) .ret)
def b80 : AFn := ⟨2, 21, [(4, none), (5, none)], (.seq (.reg false [] [⟨(some 4), (.mov (.c (.str []))), none⟩, ⟨(some 5), (.mov (.c (.bool false))), none⟩]) (.seq (.seq (.reg false [] [⟨(some 8), (.mov (.t 0)), none⟩, ⟨(some 9), (.len 1 (.t 8)), none⟩, ⟨(some 10), (.mov (.c (.int .i64 0))), none⟩]) (.block 0 (.loop [1, 4, 5, 8, 9, 10] l80_0))) r80_0))⟩
theorem fn80 : AA.fn 80 = some b80 := by kernel_rfl
theorem np80 : AA.prim 80 = none := rfl
/- amphora/amphoranum.Decimal -/
def l47_0 : ACode := (.seq (.seq (.reg false [] [⟨(some 12), (.mov (.t 3)), none⟩, ⟨(some 13), (.bin .eql .other true (.t 12) (.c (.str []))), none⟩, ⟨(some 14), (.mov (.t 13)), none⟩, ⟨(some 15), (.mov (.t 0)), (some (14, false))⟩, ⟨(some 16), (.bin .gtr .other true (.t 15) (.c (.int .i64 0))), (some (14, false))⟩, ⟨(some 17), (.pick (.t 14) (.c (.bool true)) (.t 16)), none⟩]) (.cond (.t 17) .skip (.exit 0))) (.block 1 (.seq (.reg false [] [⟨(some 18), (.mov (.t 0)), none⟩, ⟨(some 19), (.bin .rem .other true (.t 18) (.c (.int .i64 10))), none⟩, ⟨(some 20), (.bin .add .other true (.c (.int .i64 48)) (.t 19)), none⟩, ⟨(some 21), (.cvi .u8 (.t 20)), none⟩, ⟨(some 22), (.bslice 1 1 [(.int .u8 0)] [(.t 21)]), none⟩, ⟨(some 23), (.cvbs (.t 22)), none⟩, ⟨(some 24), (.mov (.t 3)), none⟩, ⟨(some 25), (.bin .add .other false (.t 23) (.t 24)), none⟩, ⟨(some 3), (.mov (.t 25)), none⟩]) (.reg false [] [⟨(some 26), (.mov (.t 0)), none⟩, ⟨(some 27), (.bin .quo .other true (.t 26) (.c (.int .i64 10))), none⟩, ⟨(some 0), (.mov (.t 27)), none⟩]))))
def r47_0 : ACode := (.seq (.seq (.reg false [] [⟨(some 28), (.mov (.t 4)), none⟩]) (.cond (.t 28) (.seq (.reg false [] [⟨(some 29), (.mov (.t 3)), none⟩, ⟨(some 30), (.bin .add .other true (.c (.str [45])) (.t 29)), none⟩, ⟨(some 2), (.mov (.t 30)), none⟩]) .ret) .skip)) (.seq (.reg false [] [⟨(some 31), (.mov (.t 3)), none⟩, ⟨(some 2), (.mov (.t 31)), none⟩]) .ret))
def b47 : AFn := ⟨1, 32, [(2, none)], (.seq (.reg false [] [⟨(some 2), (.mov (.c (.str []))), none⟩]) (.seq (.seq (.reg false [] [⟨(some 5), (.mov (.t 0)), none⟩, ⟨(some 6), (.bin .eql .other true (.t 5) (.c (.int .i64 (-9223372036854775808)))), none⟩]) (.cond (.t 6) (.seq (.reg false [] [⟨(some 2), (.mov (.c (.str [45, 57, 50, 50, 51, 51, 55, 50, 48, 51, 54, 56, 53, 52, 55, 55, 53, 56, 48, 56]))), none⟩]) .ret) .skip)) (.seq (.reg false [] [⟨(some 3), (.mov (.c (.str []))), none⟩]) (.seq (.reg false [] [⟨(some 7), (.mov (.t 0)), none⟩, ⟨(some 8), (.bin .lss .other true (.t 7) (.c (.int .i64 0))), none⟩, ⟨(some 4), (.mov (.t 8)), none⟩]) (.seq (.seq (.reg false [] [⟨(some 9), (.mov (.t 4)), none⟩]) (.cond (.t 9) (.reg false [] [⟨(some 10), (.mov (.t 0)), none⟩, ⟨(some 11), (.un .neg (.t 10)), none⟩, ⟨(some 0), (.mov (.t 11)), none⟩]) .skip)) (.seq (.block 0 (.loop [0, 2, 3, 4] l47_0)) r47_0))))))⟩
theorem fn47 : AA.fn 47 = some b47 := by kernel_rfl
theorem np47 : AA.prim 47 = none := rfl
/- amphora/amphoralaw12.field -/
def b72 : AFn := ⟨5, 31, [(10, none)], (.seq (.reg false [] [⟨(some 10), (.mov (.c (.bool false))), none⟩]) (.seq (.reg false [] [⟨(some 14), (.mov (.t 2)), none⟩, ⟨(some 15), (.mov (.t 3)), none⟩, ⟨(some 16), (.call (.c (.func (.func 80) [])) [(.t 14), (.t 15)]), none⟩, ⟨(some 13), (.mov (.t 16)), none⟩, ⟨(some 17), (.ext (.t 13) 0), none⟩, ⟨(some 18), (.ext (.t 13) 1), none⟩, ⟨(some 11), (.mov (.t 17)), none⟩, ⟨(some 12), (.mov (.t 18)), none⟩]) (.seq (.seq (.reg false [] [⟨(some 19), (.mov (.t 0)), none⟩]) (.cond (.t 19) (.seq (.reg false [] [⟨(some 20), (.mov (.t 1)), none⟩, ⟨(some 21), (.mov (.t 20)), none⟩, ⟨(some 22), (.mov (.t 12)), (some (21, true))⟩, ⟨(some 23), (.un .not (.t 22)), (some (21, true))⟩, ⟨(some 24), (.pick (.t 21) (.t 23) (.c (.bool false))), none⟩, ⟨(some 10), (.mov (.t 24)), none⟩]) .ret) .skip)) (.seq (.reg false [] [⟨(some 25), (.mov (.t 12)), none⟩, ⟨(some 26), (.mov (.t 25)), none⟩, ⟨(some 27), (.mov (.t 11)), (some (26, true))⟩, ⟨(some 28), (.mov (.t 4)), (some (26, true))⟩, ⟨(some 29), (.bin .eql .other false (.t 27) (.t 28)), (some (26, true))⟩, ⟨(some 30), (.pick (.t 26) (.t 29) (.c (.bool false))), none⟩, ⟨(some 10), (.mov (.t 30)), none⟩]) .ret))))⟩
theorem fn72 : AA.fn 72 = some b72 := by kernel_rfl
theorem np72 : AA.prim 72 = none := rfl
/- amphora/amphoralaw12.says -/
def l36_0 : ACode := (.seq (.reg false [] [⟨(some 28), (.bin .lss .other false (.t 27) (.t 26)), none⟩]) (.seq (.cond (.t 28) .skip (.exit 0)) (.seq (.block 1 (.seq (.reg false [] [⟨(some 29), (.ixa 2 (.t 25) (.t 27)), none⟩, ⟨(some 30), (.ld 2 true (.t 29)), none⟩, ⟨(some 10), (.alloc [(.str []), (.str [])]), none⟩, ⟨none, (.st 2 (.t 10) (.t 30)), none⟩]) (.seq (.reg false [] [⟨(some 31), (.fa 0 (.t 10)), none⟩, ⟨(some 32), (.ld 1 false (.t 31)), none⟩, ⟨(some 33), (.bin .neq .other true (.t 32) (.c (.str [103, 105, 100]))), none⟩, ⟨(some 34), (.mov (.t 33)), none⟩, ⟨(some 35), (.fa 0 (.t 10)), (some (34, true))⟩, ⟨(some 36), (.ld 1 false (.t 35)), (some (34, true))⟩, ⟨(some 37), (.bin .neq .other true (.t 36) (.c (.str [108, 105, 110, 107, 112, 97, 116, 104]))), (some (34, true))⟩, ⟨(some 38), (.pick (.t 34) (.t 37) (.c (.bool false))), none⟩, ⟨(some 39), (.mov (.t 38)), none⟩, ⟨(some 40), (.fa 0 (.t 10)), (some (39, true))⟩, ⟨(some 41), (.ld 1 false (.t 40)), (some (39, true))⟩, ⟨(some 42), (.bin .neq .other true (.t 41) (.c (.str [109, 116, 105, 109, 101]))), (some (39, true))⟩, ⟨(some 43), (.pick (.t 39) (.t 42) (.c (.bool false))), none⟩, ⟨(some 44), (.mov (.t 43)), none⟩, ⟨(some 45), (.fa 0 (.t 10)), (some (44, true))⟩, ⟨(some 46), (.ld 1 false (.t 45)), (some (44, true))⟩, ⟨(some 47), (.bin .neq .other true (.t 46) (.c (.str [112, 97, 116, 104]))), (some (44, true))⟩, ⟨(some 48), (.pick (.t 44) (.t 47) (.c (.bool false))), none⟩, ⟨(some 49), (.mov (.t 48)), none⟩, ⟨(some 50), (.fa 0 (.t 10)), (some (49, true))⟩, ⟨(some 51), (.ld 1 false (.t 50)), (some (49, true))⟩, ⟨(some 52), (.bin .neq .other true (.t 51) (.c (.str [117, 105, 100]))), (some (49, true))⟩, ⟨(some 53), (.pick (.t 49) (.t 52) (.c (.bool false))), none⟩]) (.cond (.t 53) (.seq (.reg false [] [⟨(some 8), (.mov (.c (.bool false))), none⟩]) .ret) .skip)))) (.reg false [] [⟨(some 54), (.bin .add .other true (.t 27) (.c (.int .i64 1))), none⟩, ⟨(some 27), (.mov (.t 54)), none⟩]))))
def r36_0 : ACode := (.seq (.reg false [] [⟨(some 11), (.mov (.c (.int .i64 0))), none⟩]) (.seq (.seq (.reg false [] [⟨(some 55), (.fa 6 (.t 4)), none⟩, ⟨(some 56), (.ld 1 false (.t 55)), none⟩]) (.block 2 (.seq (.reg false [] [⟨(some 58), (.bin .eql .other true (.t 56) (.c (.int .u8 48))), none⟩, ⟨(some 57), (.mov (.t 58)), none⟩]) (.cond (.t 57) (.reg false [] [⟨(some 11), (.mov (.c (.int .i64 2))), none⟩]) (.seq (.reg false [] [⟨(some 60), (.bin .eql .other true (.t 56) (.c (.int .u8 49))), none⟩, ⟨(some 59), (.mov (.t 60)), none⟩]) (.cond (.t 59) (.reg false [] [⟨(some 11), (.mov (.c (.int .i64 4))), none⟩]) (.seq (.reg false [] [⟨(some 62), (.bin .eql .other true (.t 56) (.c (.int .u8 50))), none⟩, ⟨(some 61), (.mov (.t 62)), none⟩]) (.cond (.t 61) (.reg false [] [⟨(some 11), (.mov (.c (.int .i64 3))), none⟩]) (.seq (.reg false [] [⟨(some 64), (.bin .eql .other true (.t 56) (.c (.int .u8 53))), none⟩, ⟨(some 63), (.mov (.t 64)), none⟩]) (.cond (.t 63) (.reg false [] [⟨(some 11), (.mov (.c (.int .i64 1))), none⟩]) .skip)))))))))) (.seq (.reg true [(0, 2), (6, 8), (7, 8), (5, 9), (6, 9), (7, 9), (6, 10), (7, 10), (9, 10), (5, 11), (6, 11), (7, 11), (8, 11), (9, 11), (6, 12), (7, 12), (6, 13), (7, 13), (9, 13), (11, 13), (6, 14), (7, 14), (9, 14), (11, 14), (5, 15), (6, 15), (7, 15), (8, 15), (9, 15), (10, 15), (11, 15), (12, 15), (13, 15), (20, 27), (24, 27), (25, 27), (19, 28), (20, 28), (21, 28), (22, 28), (23, 28), (24, 28), (25, 28), (26, 28), (20, 29), (24, 29), (25, 29), (28, 29), (19, 30), (20, 30), (21, 30), (22, 30), (23, 30), (24, 30), (25, 30), (26, 30), (27, 30), (28, 30), (20, 31), (24, 31), (25, 31), (20, 32), (24, 32), (25, 32), (28, 32), (30, 32), (20, 33), (24, 33), (25, 33), (28, 33), (30, 33), (19, 34), (20, 34), (21, 34), (22, 34), (23, 34), (24, 34), (25, 34), (26, 34), (27, 34), (28, 34), (29, 34), (30, 34), (31, 34), (32, 34), (39, 41), (38, 42), (39, 42), (40, 42), (39, 43), (42, 43), (38, 44), (39, 44), (40, 44), (41, 44), (42, 44), (39, 45), (39, 46), (42, 46), (44, 46), (39, 47), (42, 47), (44, 47), (38, 48), (39, 48), (40, 48), (41, 48), (42, 48), (43, 48), (44, 48), (45, 48), (46, 48), (38, 49), (39, 49), (40, 49), (41, 49), (42, 49), (43, 49), (44, 49), (45, 49), (46, 49), (54, 56), (53, 57), (54, 57), (55, 57), (54, 58), (57, 58), (53, 59), (54, 59), (55, 59), (56, 59), (57, 59), (54, 60), (54, 61), (57, 61), (59, 61), (54, 62), (57, 62), (59, 62), (53, 63), (54, 63), (55, 63), (56, 63), (57, 63), (58, 63), (59, 63), (60, 63), (61, 63), (53, 64), (54, 64), (55, 64), (56, 64), (57, 64), (58, 64), (59, 64), (60, 64), (61, 64), (69, 76), (73, 76), (68, 77), (69, 77), (70, 77), (71, 77), (72, 77), (73, 77), (74, 77), (75, 77), (69, 78), (73, 78), (77, 78), (68, 79), (69, 79), (70, 79), (71, 79), (72, 79), (73, 79), (74, 79), (75, 79), (76, 79), (77, 79), (69, 80), (73, 80), (69, 81), (73, 81), (77, 81), (79, 81), (69, 82), (73, 82), (77, 82), (79, 82), (68, 83), (69, 83), (70, 83), (71, 83), (72, 83), (73, 83), (74, 83), (75, 83), (76, 83), (77, 83), (78, 83), (79, 83), (80, 83), (81, 83), (72, 84), (73, 84), (74, 84), (75, 84), (76, 84), (77, 84), (78, 84), (79, 84), (80, 84), (81, 84)] [⟨(some 65), (.mov (.t 11)), none⟩, ⟨(some 66), (.fa 1 (.t 7)), none⟩, ⟨(some 67), (.ld 1 false (.t 66)), none⟩, ⟨(some 68), (.bin .eql .other false (.t 65) (.t 67)), none⟩, ⟨(some 69), (.mov (.t 68)), none⟩, ⟨(some 70), (.fa 0 (.t 7)), (some (69, true))⟩, ⟨(some 71), (.ld 1 false (.t 70)), (some (69, true))⟩, ⟨(some 72), (.call (.c (.func (.func 44) [])) [(.t 71)]), (some (69, true))⟩, ⟨(some 73), (.fa 0 (.t 4)), (some (69, true))⟩, ⟨(some 74), (.ld 1 false (.t 73)), (some (69, true))⟩, ⟨(some 75), (.fa 0 (.t 7)), (some (69, true))⟩, ⟨(some 76), (.ld 1 false (.t 75)), (some (69, true))⟩, ⟨(some 77), (.bin .eql .other false (.t 74) (.t 76)), (some (69, true))⟩, ⟨(some 78), (.mov (.t 2)), (some (69, true))⟩, ⟨(some 79), (.fa 0 (.t 7)), (some (69, true))⟩, ⟨(some 80), (.ld 1 false (.t 79)), (some (69, true))⟩, ⟨(some 81), (.call (.c (.func (.func 72) [])) [(.t 72), (.t 77), (.t 78), (.c (.str [112, 97, 116, 104])), (.t 80)]), (some (69, true))⟩, ⟨(some 82), (.pick (.t 69) (.t 81) (.c (.bool false))), none⟩, ⟨(some 83), (.mov (.t 82)), none⟩, ⟨(some 84), (.fa 6 (.t 7)), (some (83, true))⟩, ⟨(some 85), (.ld 1 false (.t 84)), (some (83, true))⟩, ⟨(some 86), (.bin .eql .other true (.t 85) (.c (.str []))), (some (83, true))⟩, ⟨(some 87), (.mov (.t 86)), (some (83, true))⟩, ⟨(some 88), (.fa 6 (.t 7)), (some (87, false))⟩, ⟨(some 89), (.ld 1 false (.t 88)), (some (87, false))⟩, ⟨(some 90), (.call (.c (.func (.func 45) [])) [(.t 89)]), (some (87, false))⟩, ⟨(some 91), (.pick (.t 87) (.c (.bool true)) (.t 90)), (some (83, true))⟩, ⟨(some 92), (.fa 7 (.t 4)), (some (83, true))⟩, ⟨(some 93), (.ld 1 false (.t 92)), (some (83, true))⟩, ⟨(some 94), (.fa 6 (.t 7)), (some (83, true))⟩, ⟨(some 95), (.ld 1 false (.t 94)), (some (83, true))⟩, ⟨(some 96), (.bin .eql .other false (.t 93) (.t 95)), (some (83, true))⟩, ⟨(some 97), (.mov (.t 2)), (some (83, true))⟩, ⟨(some 98), (.fa 6 (.t 7)), (some (83, true))⟩, ⟨(some 99), (.ld 1 false (.t 98)), (some (83, true))⟩, ⟨(some 100), (.call (.c (.func (.func 72) [])) [(.t 91), (.t 96), (.t 97), (.c (.str [108, 105, 110, 107, 112, 97, 116, 104])), (.t 99)]), (some (83, true))⟩, ⟨(some 101), (.pick (.t 83) (.t 100) (.c (.bool false))), none⟩, ⟨(some 102), (.mov (.t 101)), none⟩, ⟨(some 103), (.fa 3 (.t 7)), (some (102, true))⟩, ⟨(some 104), (.ld 1 false (.t 103)), (some (102, true))⟩, ⟨(some 105), (.bin .lss .other true (.t 104) (.c (.int .i64 2097152))), (some (102, true))⟩, ⟨(some 106), (.fa 2 (.t 4)), (some (102, true))⟩, ⟨(some 107), (.ld 1 false (.t 106)), (some (102, true))⟩, ⟨(some 108), (.fa 3 (.t 7)), (some (102, true))⟩, ⟨(some 109), (.ld 1 false (.t 108)), (some (102, true))⟩, ⟨(some 110), (.bin .eql .other false (.t 107) (.t 109)), (some (102, true))⟩, ⟨(some 111), (.mov (.t 2)), (some (102, true))⟩, ⟨(some 112), (.fa 3 (.t 7)), (some (102, true))⟩, ⟨(some 113), (.ld 1 false (.t 112)), (some (102, true))⟩, ⟨(some 114), (.call (.c (.func (.func 47) [])) [(.t 113)]), (some (102, true))⟩, ⟨(some 115), (.call (.c (.func (.func 72) [])) [(.t 105), (.t 110), (.t 111), (.c (.str [117, 105, 100])), (.t 114)]), (some (102, true))⟩, ⟨(some 116), (.pick (.t 102) (.t 115) (.c (.bool false))), none⟩, ⟨(some 117), (.mov (.t 116)), none⟩, ⟨(some 118), (.fa 4 (.t 7)), (some (117, true))⟩, ⟨(some 119), (.ld 1 false (.t 118)), (some (117, true))⟩, ⟨(some 120), (.bin .lss .other true (.t 119) (.c (.int .i64 2097152))), (some (117, true))⟩, ⟨(some 121), (.fa 3 (.t 4)), (some (117, true))⟩, ⟨(some 122), (.ld 1 false (.t 121)), (some (117, true))⟩, ⟨(some 123), (.fa 4 (.t 7)), (some (117, true))⟩, ⟨(some 124), (.ld 1 false (.t 123)), (some (117, true))⟩, ⟨(some 125), (.bin .eql .other false (.t 122) (.t 124)), (some (117, true))⟩, ⟨(some 126), (.mov (.t 2)), (some (117, true))⟩, ⟨(some 127), (.fa 4 (.t 7)), (some (117, true))⟩, ⟨(some 128), (.ld 1 false (.t 127)), (some (117, true))⟩, ⟨(some 129), (.call (.c (.func (.func 47) [])) [(.t 128)]), (some (117, true))⟩, ⟨(some 130), (.call (.c (.func (.func 72) [])) [(.t 120), (.t 125), (.t 126), (.c (.str [103, 105, 100])), (.t 129)]), (some (117, true))⟩, ⟨(some 131), (.pick (.t 117) (.t 130) (.c (.bool false))), none⟩, ⟨(some 132), (.mov (.t 131)), none⟩, ⟨(some 133), (.fa 5 (.t 7)), (some (132, true))⟩, ⟨(some 134), (.ld 1 false (.t 133)), (some (132, true))⟩, ⟨(some 135), (.bin .geq .other true (.t 134) (.c (.int .i64 0))), (some (132, true))⟩, ⟨(some 136), (.mov (.t 135)), (some (132, true))⟩, ⟨(some 137), (.fa 5 (.t 7)), (some (136, true))⟩, ⟨(some 138), (.ld 1 false (.t 137)), (some (136, true))⟩, ⟨(some 139), (.bin .lss .other true (.t 138) (.c (.int .i64 8589934592))), (some (136, true))⟩, ⟨(some 140), (.pick (.t 136) (.t 139) (.c (.bool false))), (some (132, true))⟩, ⟨(some 141), (.fa 5 (.t 4)), (some (132, true))⟩, ⟨(some 142), (.ld 1 false (.t 141)), (some (132, true))⟩, ⟨(some 143), (.fa 5 (.t 7)), (some (132, true))⟩, ⟨(some 144), (.ld 1 false (.t 143)), (some (132, true))⟩, ⟨(some 145), (.bin .eql .other false (.t 142) (.t 144)), (some (132, true))⟩, ⟨(some 146), (.mov (.t 2)), (some (132, true))⟩, ⟨(some 147), (.fa 5 (.t 7)), (some (132, true))⟩, ⟨(some 148), (.ld 1 false (.t 147)), (some (132, true))⟩, ⟨(some 149), (.call (.c (.func (.func 47) [])) [(.t 148)]), (some (132, true))⟩, ⟨(some 150), (.call (.c (.func (.func 72) [])) [(.t 140), (.t 145), (.t 146), (.c (.str [109, 116, 105, 109, 101])), (.t 149)]), (some (132, true))⟩, ⟨(some 151), (.pick (.t 132) (.t 150) (.c (.bool false))), none⟩, ⟨(some 8), (.mov (.t 151)), none⟩]) .ret)))
def b36 : AFn := ⟨4, 152, [(8, none)], (.seq (.reg false [] [⟨(some 4), (.box (.t 0)), none⟩, ⟨(some 7), (.box (.t 3)), none⟩, ⟨(some 8), (.mov (.c (.bool false))), none⟩]) (.seq (.seq (.reg false [] [⟨(some 12), (.fa 1 (.t 4)), none⟩, ⟨(some 13), (.ld 1 false (.t 12)), none⟩, ⟨(some 14), (.fa 2 (.t 7)), none⟩, ⟨(some 15), (.ld 1 false (.t 14)), none⟩, ⟨(some 16), (.bin .neq .other false (.t 13) (.t 15)), none⟩, ⟨(some 17), (.mov (.t 16)), none⟩, ⟨(some 18), (.mov (.t 1)), (some (17, false))⟩, ⟨(some 19), (.cvbs (.t 18)), (some (17, false))⟩, ⟨(some 20), (.fa 7 (.t 7)), (some (17, false))⟩, ⟨(some 21), (.ld 1 false (.t 20)), (some (17, false))⟩, ⟨(some 22), (.cvbs (.t 21)), (some (17, false))⟩, ⟨(some 23), (.bin .neq .other false (.t 19) (.t 22)), (some (17, false))⟩, ⟨(some 24), (.pick (.t 17) (.c (.bool true)) (.t 23)), none⟩]) (.cond (.t 24) (.seq (.reg false [] [⟨(some 8), (.mov (.c (.bool false))), none⟩]) .ret) .skip)) (.seq (.seq (.reg false [] [⟨(some 25), (.mov (.t 2)), none⟩, ⟨(some 26), (.len 1 (.t 25)), none⟩, ⟨(some 27), (.mov (.c (.int .i64 0))), none⟩]) (.block 0 (.loop [2, 4, 7, 8, 25, 26, 27] l36_0))) r36_0)))⟩
theorem fn36 : AA.fn 36 = some b36 := by kernel_rfl
theorem np36 : AA.prim 36 = none := rfl
/- amphora/amphoralaw12.TarForms -/
def l7_0 : ACode := (.seq (.seq (.reg false [] [⟨(some 49), (.mov (.t 6)), none⟩, ⟨(some 50), (.mov (.t 5)), none⟩, ⟨(some 51), (.bin .lss .other false (.t 49) (.t 50)), none⟩]) (.cond (.t 51) .skip (.exit 0))) (.block 1 (.seq (.reg false [] [⟨(some 53), (.mov (.t 3)), none⟩, ⟨(some 54), (.mov (.t 6)), none⟩, ⟨(some 55), (.mov (.t 6)), none⟩, ⟨(some 56), (.bin .add .other true (.t 55) (.c (.int .i64 512))), none⟩, ⟨(some 57), (.slc 1 (.t 53) (some (.t 54)) (some (.t 56)) none), none⟩, ⟨(some 58), (.call (.c (.func (.func 34) [])) [(.t 57)]), none⟩, ⟨(some 52), (.mov (.t 58)), none⟩, ⟨(some 59), (.ext (.t 52) 0), none⟩, ⟨(some 60), (.ext (.t 52) 1), none⟩, ⟨(some 10), (.alloc [(.str []), (.int .i64 0), (.int .i64 0), (.int .i64 0), (.int .i64 0), (.int .i64 0), (.int .u8 0), (.str [])]), none⟩, ⟨none, (.st 8 (.t 10) (.t 59)), none⟩, ⟨(some 11), (.mov (.t 60)), none⟩]) (.seq (.reg false [] [⟨(some 61), (.mov (.t 6)), none⟩, ⟨(some 62), (.bin .add .other true (.t 61) (.c (.int .i64 512))), none⟩, ⟨(some 6), (.mov (.t 62)), none⟩]) (.seq (.reg false [] [⟨(some 63), (.fa 4 (.t 10)), none⟩, ⟨(some 64), (.ld 1 false (.t 63)), none⟩, ⟨(some 65), (.bin .add .other true (.t 64) (.c (.int .i64 511))), none⟩, ⟨(some 66), (.bin .quo .other true (.t 65) (.c (.int .i64 512))), none⟩, ⟨(some 67), (.bin .mul .other true (.t 66) (.c (.int .i64 512))), none⟩, ⟨(some 12), (.mov (.t 67)), none⟩]) (.seq (.seq (.reg false [] [⟨(some 68), (.mov (.t 11)), none⟩, ⟨(some 69), (.bin .neq (.iface [58]) true (.t 68) (.c (.lit .nilIface))), none⟩, ⟨(some 70), (.mov (.t 69)), none⟩, ⟨(some 71), (.mov (.t 12)), (some (70, false))⟩, ⟨(some 72), (.mov (.t 5)), (some (70, false))⟩, ⟨(some 73), (.mov (.t 6)), (some (70, false))⟩, ⟨(some 74), (.bin .sub .other false (.t 72) (.t 73)), (some (70, false))⟩, ⟨(some 75), (.bin .gtr .other false (.t 71) (.t 74)), (some (70, false))⟩, ⟨(some 76), (.pick (.t 70) (.c (.bool true)) (.t 75)), none⟩, ⟨(some 77), (.mov (.t 76)), none⟩, ⟨(some 78), (.mov (.t 3)), (some (77, false))⟩, ⟨(some 79), (.mov (.t 6)), (some (77, false))⟩, ⟨(some 80), (.fa 4 (.t 10)), (some (77, false))⟩, ⟨(some 81), (.ld 1 false (.t 80)), (some (77, false))⟩, ⟨(some 82), (.bin .add .other false (.t 79) (.t 81)), (some (77, false))⟩, ⟨(some 83), (.mov (.t 6)), (some (77, false))⟩, ⟨(some 84), (.mov (.t 12)), (some (77, false))⟩, ⟨(some 85), (.bin .add .other false (.t 83) (.t 84)), (some (77, false))⟩, ⟨(some 86), (.slc 1 (.t 78) (some (.t 82)) (some (.t 85)) none), (some (77, false))⟩, ⟨(some 87), (.call (.c (.func (.func 33) [])) [(.t 86)]), (some (77, false))⟩, ⟨(some 88), (.un .not (.t 87)), (some (77, false))⟩, ⟨(some 89), (.pick (.t 77) (.c (.bool true)) (.t 88)), none⟩, ⟨(some 90), (.mov (.t 89)), none⟩, ⟨(some 91), (.mov (.t 7)), (some (90, false))⟩, ⟨(some 92), (.mov (.t 0)), (some (90, false))⟩, ⟨(some 93), (.len 1 (.t 92)), (some (90, false))⟩, ⟨(some 94), (.bin .geq .other false (.t 91) (.t 93)), (some (90, false))⟩, ⟨(some 95), (.pick (.t 90) (.c (.bool true)) (.t 94)), none⟩]) (.cond (.t 95) (.seq (.reg false [] [⟨(some 2), (.mov (.c (.bool false))), none⟩]) .ret) .skip)) (.seq (.reg false [] [⟨(some 96), (.mov (.t 3)), none⟩, ⟨(some 97), (.mov (.t 6)), none⟩, ⟨(some 98), (.mov (.t 6)), none⟩, ⟨(some 99), (.fa 4 (.t 10)), none⟩, ⟨(some 100), (.ld 1 false (.t 99)), none⟩, ⟨(some 101), (.bin .add .other false (.t 98) (.t 100)), none⟩, ⟨(some 102), (.slc 1 (.t 96) (some (.t 97)) (some (.t 101)) none), none⟩, ⟨(some 13), (.mov (.t 102)), none⟩]) (.seq (.reg false [] [⟨(some 103), (.mov (.t 6)), none⟩, ⟨(some 104), (.mov (.t 12)), none⟩, ⟨(some 105), (.bin .add .other false (.t 103) (.t 104)), none⟩, ⟨(some 6), (.mov (.t 105)), none⟩]) (.seq (.seq (.reg false [] [⟨(some 106), (.fa 6 (.t 10)), none⟩, ⟨(some 107), (.ld 1 false (.t 106)), none⟩, ⟨(some 108), (.bin .eql .other true (.t 107) (.c (.int .u8 120))), none⟩]) (.cond (.t 108) (.seq (.reg false [] [⟨(some 110), (.mov (.t 13)), none⟩, ⟨(some 111), (.call (.c (.func (.func 35) [])) [(.t 110)]), none⟩, ⟨(some 109), (.mov (.t 111)), none⟩, ⟨(some 112), (.ext (.t 109) 0), none⟩, ⟨(some 113), (.ext (.t 109) 1), none⟩, ⟨(some 14), (.mov (.t 112)), none⟩, ⟨(some 15), (.mov (.t 113)), none⟩]) (.seq (.seq (.reg false [] [⟨(some 114), (.mov (.t 9)), none⟩, ⟨(some 115), (.mov (.t 114)), none⟩, ⟨(some 116), (.mov (.t 15)), (some (115, false))⟩, ⟨(some 117), (.bin .neq (.iface [58]) true (.t 116) (.c (.lit .nilIface))), (some (115, false))⟩, ⟨(some 118), (.pick (.t 115) (.c (.bool true)) (.t 117)), none⟩, ⟨(some 119), (.mov (.t 118)), none⟩, ⟨(some 120), (.mov (.t 14)), (some (119, false))⟩, ⟨(some 121), (.len 1 (.t 120)), (some (119, false))⟩, ⟨(some 122), (.bin .eql .other true (.t 121) (.c (.int .i64 0))), (some (119, false))⟩, ⟨(some 123), (.pick (.t 119) (.c (.bool true)) (.t 122)), none⟩]) (.cond (.t 123) (.seq (.reg false [] [⟨(some 2), (.mov (.c (.bool false))), none⟩]) .ret) .skip)) (.seq (.reg false [] [⟨(some 124), (.mov (.t 14)), none⟩, ⟨(some 8), (.mov (.t 124)), none⟩, ⟨(some 9), (.mov (.c (.bool true))), none⟩]) (.exit 1)))) .skip)) (.seq (.seq (.reg true [(0, 1), (0, 2), (0, 3), (0, 4), (0, 5), (0, 6), (1, 6), (2, 6)] [⟨(some 125), (.ld 8 true (.t 10)), none⟩, ⟨(some 126), (.mov (.t 13)), none⟩, ⟨(some 127), (.mov (.t 8)), none⟩, ⟨(some 128), (.mov (.t 0)), none⟩, ⟨(some 129), (.mov (.t 7)), none⟩, ⟨(some 130), (.ixa 8 (.t 128) (.t 129)), none⟩, ⟨(some 131), (.ld 8 true (.t 130)), none⟩, ⟨(some 132), (.call (.c (.func (.func 36) [])) [(.t 125), (.t 126), (.t 127), (.t 131)]), none⟩, ⟨(some 133), (.un .not (.t 132)), none⟩]) (.cond (.t 133) (.seq (.reg false [] [⟨(some 2), (.mov (.c (.bool false))), none⟩]) .ret) .skip)) (.seq (.reg false [] [⟨(some 134), (.mov (.t 7)), none⟩, ⟨(some 135), (.bin .add .other true (.t 134) (.c (.int .i64 1))), none⟩, ⟨(some 7), (.mov (.t 135)), none⟩]) (.reg false [] [⟨(some 8), (.mov (.c (.lit (.slice none 0 0)))), none⟩, ⟨(some 9), (.mov (.c (.bool false))), none⟩]))))))))))))
def r7_0 : ACode := (.seq (.reg false [] [⟨(some 136), (.mov (.t 9)), none⟩, ⟨(some 137), (.un .not (.t 136)), none⟩, ⟨(some 138), (.mov (.t 137)), none⟩, ⟨(some 139), (.mov (.t 7)), (some (138, true))⟩, ⟨(some 140), (.mov (.t 0)), (some (138, true))⟩, ⟨(some 141), (.len 1 (.t 140)), (some (138, true))⟩, ⟨(some 142), (.bin .eql .other false (.t 139) (.t 141)), (some (138, true))⟩, ⟨(some 143), (.pick (.t 138) (.t 142) (.c (.bool false))), none⟩, ⟨(some 2), (.mov (.t 143)), none⟩]) .ret)
def b7 : AFn := ⟨1, 144, [(2, none)], (.seq (.reg false [] [⟨(some 2), (.mov (.c (.bool false))), none⟩]) (.seq (.seq (.reg false [] [⟨(some 16), (.call (.c (.func (.func 14) [])) []), none⟩, ⟨(some 17), (.un .not (.t 16)), none⟩]) (.cond (.t 17) (.seq (.reg false [] [⟨(some 2), (.mov (.c (.bool false))), none⟩]) .ret) .skip)) (.seq (.seq (.reg false [] [⟨(some 18), (.mov (.t 0)), none⟩, ⟨(some 19), (.call (.c (.func (.func 15) [])) [(.t 18)]), none⟩]) (.cond (.t 19) (.seq (.reg false [] [⟨(some 2), (.mov (.c (.bool true))), none⟩]) .ret) .skip)) (.seq (.reg false [] [⟨(some 21), (.mov (.t 0)), none⟩, ⟨(some 22), (.call (.c (.func (.func 17) [])) [(.t 21)]), none⟩, ⟨(some 20), (.mov (.t 22)), none⟩, ⟨(some 23), (.ext (.t 20) 0), none⟩, ⟨(some 24), (.ext (.t 20) 1), none⟩, ⟨(some 3), (.mov (.t 23)), none⟩, ⟨(some 4), (.mov (.t 24)), none⟩]) (.seq (.seq (.reg false [] [⟨(some 25), (.mov (.t 4)), none⟩, ⟨(some 26), (.bin .neq (.iface [58]) true (.t 25) (.c (.lit .nilIface))), none⟩]) (.cond (.t 26) (.seq (.reg false [] [⟨(some 27), (.mov (.t 3)), none⟩, ⟨(some 28), (.len 1 (.t 27)), none⟩, ⟨(some 29), (.bin .eql .other true (.t 28) (.c (.int .i64 0))), none⟩, ⟨(some 2), (.mov (.t 29)), none⟩]) .ret) .skip)) (.seq (.reg false [] [⟨(some 30), (.mov (.t 3)), none⟩, ⟨(some 31), (.len 1 (.t 30)), none⟩, ⟨(some 32), (.bin .sub .other true (.t 31) (.c (.int .i64 1024))), none⟩, ⟨(some 5), (.mov (.t 32)), none⟩]) (.seq (.seq (.reg false [] [⟨(some 33), (.mov (.t 5)), none⟩, ⟨(some 34), (.bin .lss .other true (.t 33) (.c (.int .i64 0))), none⟩, ⟨(some 35), (.mov (.t 34)), none⟩, ⟨(some 36), (.mov (.t 3)), (some (35, false))⟩, ⟨(some 37), (.len 1 (.t 36)), (some (35, false))⟩, ⟨(some 38), (.bin .rem .other true (.t 37) (.c (.int .i64 512))), (some (35, false))⟩, ⟨(some 39), (.bin .neq .other true (.t 38) (.c (.int .i64 0))), (some (35, false))⟩, ⟨(some 40), (.pick (.t 35) (.c (.bool true)) (.t 39)), none⟩, ⟨(some 41), (.mov (.t 40)), none⟩, ⟨(some 42), (.mov (.t 3)), (some (41, false))⟩, ⟨(some 43), (.mov (.t 5)), (some (41, false))⟩, ⟨(some 44), (.slc 1 (.t 42) (some (.t 43)) none none), (some (41, false))⟩, ⟨(some 45), (.call (.c (.func (.func 33) [])) [(.t 44)]), (some (41, false))⟩, ⟨(some 46), (.un .not (.t 45)), (some (41, false))⟩, ⟨(some 47), (.pick (.t 41) (.c (.bool true)) (.t 46)), none⟩]) (.cond (.t 47) (.seq (.reg false [] [⟨(some 2), (.mov (.c (.bool false))), none⟩]) .ret) .skip)) (.seq (.reg false [] [⟨(some 6), (.mov (.c (.int .i64 0))), none⟩, ⟨(some 7), (.mov (.c (.int .i64 0))), none⟩]) (.seq (.reg false [] [⟨(some 48), (.bslice 2 0 [(.str []), (.str [])] []), none⟩, ⟨(some 8), (.mov (.t 48)), none⟩]) (.seq (.reg false [] [⟨(some 9), (.mov (.c (.bool false))), none⟩]) (.seq (.block 0 (.loop [0, 2, 3, 5, 6, 7, 8, 9] l7_0)) r7_0)))))))))))⟩
theorem fn7 : AA.fn 7 = some b7 := by kernel_rfl
theorem np7 : AA.prim 7 = none := rfl
end Go.Abs
/- THE LAWS' OWN FUNCTIONS: large, Find, Decimal, field. -/
namespace Go.Abs
open Am
set_option maxRecDepth 10000
set_option linter.unusedSimpArgs false
/-- a list that is too large -/
def largeB : Int → List Ent → Bool
  | _, [] => false
  | n, e :: r => if 65536 < n + (512 + (e.data.l.length : Int) + e.path.length + e.link.length) then true else largeB (n + (512 + (e.data.l.length : Int) + e.path.length + e.link.length)) r
def EntL (e : Ent) : Prop := e.path.length ≤ 140737488351232 ∧ e.link.length ≤ 140737488351232 ∧ e.data.l.length ≤ 140737488351232
theorem h15 (c tmp : Bool) (t : List Ent) (ht : t.length ≤ 140737488351232) (hq : ∀ e ∈ t, EntL e) (r0 : Bool) : ∀ (rest done : List Ent) (acc n i : Int), t = done ++ rest → i = done.length → n = t.length → 0 ≤ acc → acc ≤ 65536 → r0 = largeB acc rest →
    HD AA 0 [2, 3, 6, 7, 8] l15_0 ⟨[.junk, .junk, .bool false, .int .i64 acc, .junk, .junk, .view 8 (t.map Ent.av) c tmp, .int .i64 n, .int .i64 i, .junk, .junk, .junk, .junk, .junk, .junk, .junk, .junk, .junk, .junk, .junk, .junk, .junk, .junk, .junk, .junk, .junk, .junk, .junk, .junk], [], 0⟩ [.blk 0, .code r15_0] (Fin [(2, none)] 0 (.bool r0) [])
  | [], done, acc, n, i, h1, h2, h3, h4, h5, h6 => by
    subst h1
    simp at h3
    refine hd_of (by unfold l15_0; rfl) ?_
    simp only [largeB] at h6
    rw [h6]
    (simp (maxSteps := 2000000) (disch := omega) only [r15_0, go_sem]) <;> repeat' (first | ((first | refine gd_dec ?_ ?_ | refine gd_ndec ?_ ?_ | refine cd_dec ?_ ?_ | refine cd_ndec ?_ ?_ | refine gdd_dec ?_ ?_ | refine gdd_ndec ?_ ?_ | refine gd_of ?_ ?_ | refine cd_of ?_ ?_ | refine gdd_of ?_ ?_) <;> intro hg <;> first | (exfalso; omega) | (simp (maxSteps := 2000000) (disch := omega) only [hg, r15_0, go_sem])) | (refine And.intro ?_ ?_; focus omega) | omega)
  | e :: rest, done, acc, n, i, h1, h2, h3, h4, h5, h6 => by
    have hg0 : t[i.toNat]? = some e := by
      rw [h1]
      simp [h2]
    have hl : i.toNat < t.length := by rw [h1]; simp; omega
    obtain ⟨l1, l2, l3⟩ := hq e (by simp [h1])
    unfold largeB at h6
    refine hd_of (by unfold l15_0; rfl) ?_
    by_cases hc : 65536 < acc + (512 + (e.data.l.length : Int) + e.path.length + e.link.length)
    · rw [if_pos hc] at h6
      rw [h6]
      (simp (maxSteps := 2000000) (disch := omega) only [hg0, lp_head, go_sem]) <;> repeat' (first | ((first | refine gd_dec ?_ ?_ | refine gd_ndec ?_ ?_ | refine cd_dec ?_ ?_ | refine cd_ndec ?_ ?_ | refine gdd_dec ?_ ?_ | refine gdd_ndec ?_ ?_ | refine gd_of ?_ ?_ | refine cd_of ?_ ?_ | refine gdd_of ?_ ?_) <;> intro hg <;> first | (exfalso; omega) | (simp (maxSteps := 2000000) (disch := omega) only [hg, hg0, lp_head, go_sem])) | (refine And.intro ?_ ?_; focus omega) | omega)
    · rw [if_neg hc] at h6
      have ih := h15 c tmp t ht hq r0 rest (done ++ [e]) (acc + (512 + (e.data.l.length : Int) + e.path.length + e.link.length)) n (i + 1) (by simp [h1]) (by first | omega | (simp; omega) | (simp; done)) h3 (by omega) (by omega) h6
      (simp (maxSteps := 2000000) (disch := omega) only [hg0, lp_head, go_sem]) <;> repeat' (first | ((first | refine gd_dec ?_ ?_ | refine gd_ndec ?_ ?_ | refine cd_dec ?_ ?_ | refine cd_ndec ?_ ?_ | refine gdd_dec ?_ ?_ | refine gdd_ndec ?_ ?_ | refine gd_of ?_ ?_ | refine cd_of ?_ ?_ | refine gdd_of ?_ ?_) <;> intro hg <;> first | (exfalso; omega) | (simp (maxSteps := 2000000) (disch := omega) only [hg, hg0, lp_head, go_sem])) | (refine And.intro ?_ ?_; focus omega) | omega)
theorem s15 (c tmp : Bool) (t : List Ent) (ht : t.length ≤ 140737488351232) (hq : ∀ e ∈ t, EntL e) : callT AA 15 [.view 8 (t.map Ent.av) c tmp] [] = some (.bool (largeB 0 t), []) := by
  have hh := h15 c tmp t ht hq (largeB 0 t) t [] 0 t.length 0 rfl rfl rfl (by omega) (by omega) rfl
  refine enter fn15 np15 rfl ?_
  (simp (maxSteps := 2000000) (disch := omega) only [b15, lp_head, go_sem]) <;> repeat' (first | ((first | refine gd_dec ?_ ?_ | refine gd_ndec ?_ ?_ | refine cd_dec ?_ ?_ | refine cd_ndec ?_ ?_ | refine gdd_dec ?_ ?_ | refine gdd_ndec ?_ ?_ | refine gd_of ?_ ?_ | refine cd_of ?_ ?_ | refine gdd_of ?_ ?_) <;> intro hg <;> first | (exfalso; omega) | (simp (maxSteps := 2000000) (disch := omega) only [hg, b15, lp_head, go_sem])) | (refine And.intro ?_ ?_; focus omega) | omega)
theorem s15n : callT AA 15 [.lit (.slice none 0 0)] [] = some (.bool false, []) := by
  refine enter fn15 np15 rfl ?_
  (simp (maxSteps := 2000000) (disch := omega) only [b15, lp_head, go_sem]) <;> repeat' (first | ((first | refine gd_dec ?_ ?_ | refine gd_ndec ?_ ?_ | refine cd_dec ?_ ?_ | refine cd_ndec ?_ ?_ | refine gdd_dec ?_ ?_ | refine gdd_ndec ?_ ?_ | refine gd_of ?_ ?_ | refine cd_of ?_ ?_ | refine gdd_of ?_ ?_) <;> intro hg <;> first | (exfalso; omega) | (simp (maxSteps := 2000000) (disch := omega) only [hg, b15, lp_head, go_sem])) | (refine And.intro ?_ ?_; focus omega) | omega)
  refine hd_of (by unfold l15_0; rfl) ?_
  (simp (maxSteps := 2000000) (disch := omega) only [r15_0, go_sem]) <;> repeat' (first | ((first | refine gd_dec ?_ ?_ | refine gd_ndec ?_ ?_ | refine cd_dec ?_ ?_ | refine cd_ndec ?_ ?_ | refine gdd_dec ?_ ?_ | refine gdd_ndec ?_ ?_ | refine gd_of ?_ ?_ | refine cd_of ?_ ?_ | refine gdd_of ?_ ?_) <;> intro hg <;> first | (exfalso; omega) | (simp (maxSteps := 2000000) (disch := omega) only [hg, r15_0, go_sem])) | (refine And.intro ?_ ?_; focus omega) | omega)
/-! ## rows of records -/
inductive RS where
  | nil
  | mk (clip tmp : Bool) (l : List Rcd)
namespace RS
def av : RS → AVal
  | .nil => .lit (.slice none 0 0)
  | .mk c t l => .view 2 (l.map Rcd.av) c t
def l : RS → List Rcd
  | .nil => []
  | .mk _ _ l => l
def isTmp : RS → Bool
  | .nil => false
  | .mk _ t _ => t
end RS
section
variable {r : RS} {f : Nat → Option Nat} {h : Heap}
@[go_sem] theorem ids_rs : r.av.ids = [] := by cases r <;> rfl
@[go_sem] theorem ren_rs : r.av.ren f = r.av := by cases r <;> rfl
@[go_sem] theorem ownIds_rs : r.av.ownIds = [] := by cases r <;> rfl
@[go_sem] theorem lend_rs : r.av.lend h = some r.av := by cases r <;> rfl
@[go_sem] theorem cells_rs : r.av.cells = [r.av] := by cases r <;> rfl
@[go_sem] theorem leaf_rs : r.av.leaf = true := by cases r <;> rfl
@[go_sem] theorem noTmp_rs : r.av.noTmp = !r.isTmp := by cases r <;> rfl
@[go_sem] theorem lenV_rs : lenV r.av h = some (.int .i64 r.l.length, h) := by cases r <;> simp [lenV, RS.av, RS.l]
theorem xp_ixa_rs {k : IntKind} {i : Int} {K : AVal × Heap → Prop} : (∃ x, ixaV 2 r.av (.int k i) h = some x ∧ K x) ↔ (0 ≤ i ∧ i.toNat < r.l.length) ∧ ∀ a, r.l[i.toNat]? = some a → K (.rptr (Rcd.av a).cells r.isTmp, h) := by
  cases r with
  | nil =>
    simp only [RS.av, RS.l, List.length_nil, Nat.not_lt_zero, and_false, false_and, iff_false]
    rintro ⟨x, h1, _⟩
    unfold ixaV at h1
    simp at h1
  | mk clip tmp l =>
    simp only [RS.av, RS.l, xp_ixa_map, true_and, RS.isTmp]
@[go_sem] theorem op_ixa_rs {A : AProg} {m n nid : Nat} {d : Option Nat} {env : List AVal} {S : List Frame} {F : FinP} {ops : List AOper} {k : IntKind} {i : Int} : OP A m (ixaV 2 r.av (.int k i) h) d ops nid env n S F ↔ (0 ≤ i ∧ i.toNat < r.l.length) ∧ ∀ a, r.l[i.toNat]? = some a → RN A m ops (nid + stride) (setAt d (.rptr (Rcd.av a).cells r.isTmp) env) h n S F := xp_ixa_rs
end
/-! ## Find -/
def findR (key : List UInt8) : List Rcd → List UInt8 × Bool
  | [] => ([], false)
  | r :: rs => if r.key = key then (r.value, true) else findR key rs
theorem h80 (rs : RS) (key : List UInt8) (ht : rs.l.length ≤ 1000000) (r0 : List UInt8 × Bool) : ∀ (rest done : List Rcd) (n i : Int), rs.l = done ++ rest → i = done.length → n = rs.l.length → r0 = findR key rest →
    HD AA 0 [1, 4, 5, 8, 9, 10] l80_0 ⟨[.junk, .str key, .junk, .junk, .str [], .bool false, .junk, .junk, rs.av, .int .i64 n, .int .i64 i, .junk, .junk, .junk, .junk, .junk, .junk, .junk, .junk, .junk, .junk], [], 0⟩ [.blk 0, .code r80_0] (Fin [(4, none), (5, none)] 0 (.tuple [.str r0.1, .bool r0.2]) [])
  | [], done, n, i, h1, h2, h3, h4 => by
    have hl : rs.l.length = done.length := by rw [h1]; simp
    refine hd_of (by unfold l80_0; rfl) ?_
    simp only [findR] at h4
    rw [h4]
    (simp (maxSteps := 2000000) (disch := omega) only [r80_0, go_sem]) <;> repeat' (first | ((first | refine gd_dec ?_ ?_ | refine gd_ndec ?_ ?_ | refine cd_dec ?_ ?_ | refine cd_ndec ?_ ?_ | refine gdd_dec ?_ ?_ | refine gdd_ndec ?_ ?_ | refine gd_of ?_ ?_ | refine cd_of ?_ ?_ | refine gdd_of ?_ ?_) <;> intro hg <;> first | (exfalso; omega) | (simp (maxSteps := 2000000) (disch := omega) only [hg, r80_0, go_sem])) | (refine And.intro ?_ ?_; focus omega) | omega)
  | r :: rest, done, n, i, h1, h2, h3, h4 => by
    have hg0 : rs.l[i.toNat]? = some r := by
      rw [h1]
      simp [h2]
    have hl : i.toNat < rs.l.length := by rw [h1]; simp; omega
    unfold findR at h4
    refine hd_of (by unfold l80_0; rfl) ?_
    by_cases hc : r.key = key
    · rw [if_pos hc] at h4
      rw [h4]
      (simp (maxSteps := 2000000) (disch := omega) only [hg0, decide_eq_true hc, lp_head, go_sem]) <;> repeat' (first | ((first | refine gd_dec ?_ ?_ | refine gd_ndec ?_ ?_ | refine cd_dec ?_ ?_ | refine cd_ndec ?_ ?_ | refine gdd_dec ?_ ?_ | refine gdd_ndec ?_ ?_ | refine gd_of ?_ ?_ | refine cd_of ?_ ?_ | refine gdd_of ?_ ?_) <;> intro hg <;> first | (exfalso; omega) | (simp (maxSteps := 2000000) (disch := omega) only [hg, hg0, decide_eq_true hc, lp_head, go_sem])) | (refine And.intro ?_ ?_; focus omega) | omega)
    · rw [if_neg hc] at h4
      have ih := h80 rs key ht r0 rest (done ++ [r]) n (i + 1) (by simp [h1]) (by first | omega | (simp; omega) | (simp; done)) h3 h4
      (simp (maxSteps := 2000000) (disch := omega) only [hg0, decide_eq_false hc, lp_head, go_sem]) <;> repeat' (first | ((first | refine gd_dec ?_ ?_ | refine gd_ndec ?_ ?_ | refine cd_dec ?_ ?_ | refine cd_ndec ?_ ?_ | refine gdd_dec ?_ ?_ | refine gdd_ndec ?_ ?_ | refine gd_of ?_ ?_ | refine cd_of ?_ ?_ | refine gdd_of ?_ ?_) <;> intro hg <;> first | (exfalso; omega) | (simp (maxSteps := 2000000) (disch := omega) only [hg, hg0, decide_eq_false hc, lp_head, go_sem])) | (refine And.intro ?_ ?_; focus omega) | omega)
theorem s80 (rs : RS) (key : List UInt8) (ht : rs.l.length ≤ 1000000) : callT AA 80 [rs.av, .str key] [] = some (.tuple [.str (findR key rs.l).1, .bool (findR key rs.l).2], []) := by
  have hh := h80 rs key ht (findR key rs.l) rs.l [] rs.l.length 0 rfl rfl rfl rfl
  refine enter fn80 np80 rfl ?_
  (simp (maxSteps := 2000000) (disch := omega) only [b80, lp_head, go_sem]) <;> repeat' (first | ((first | refine gd_dec ?_ ?_ | refine gd_ndec ?_ ?_ | refine cd_dec ?_ ?_ | refine cd_ndec ?_ ?_ | refine gdd_dec ?_ ?_ | refine gdd_ndec ?_ ?_ | refine gd_of ?_ ?_ | refine cd_of ?_ ?_ | refine gdd_of ?_ ?_) <;> intro hg <;> first | (exfalso; omega) | (simp (maxSteps := 2000000) (disch := omega) only [hg, b80, lp_head, go_sem])) | (refine And.intro ?_ ?_; focus omega) | omega)
/-! ## field -/
def fieldR (fits same : Bool) (rs : List Rcd) (key value : List UInt8) : Bool := if fits = true then same && !(findR key rs).2 else (findR key rs).2 && decide ((findR key rs).1 = value)
theorem s72 (rs : RS) (ht : rs.l.length ≤ 1000000) (fits same : Bool) (key value : List UInt8) : callT AA 72 [.bool fits, .bool same, rs.av, .str key, .str value] [] = some (.bool (fieldR fits same rs.l key value), []) := by
  have h := s80 rs key ht
  refine enter fn72 np72 rfl ?_
  unfold fieldR
  generalize findR key rs.l = R at *
  obtain ⟨v, ok⟩ := R
  simp only at h ⊢
  cases fits <;> cases same <;> cases ok
  all_goals (simp (maxSteps := 2000000) (disch := omega) only [b72, h, go_sem]) <;> repeat' (first | ((first | refine gd_dec ?_ ?_ | refine gd_ndec ?_ ?_ | refine cd_dec ?_ ?_ | refine cd_ndec ?_ ?_ | refine gdd_dec ?_ ?_ | refine gdd_ndec ?_ ?_ | refine gd_of ?_ ?_ | refine cd_of ?_ ?_ | refine gdd_of ?_ ?_) <;> intro hg <;> first | (exfalso; omega) | (simp (maxSteps := 2000000) (disch := omega) only [hg, b72, h, go_sem])) | (refine And.intro ?_ ?_; focus omega) | omega)
/-! ## Decimal -/
theorem bytesOf_one {x : Int} : bytesOf [.int .u8 x] = some [UInt8.ofNat x.toNat] := rfl
theorem dec_small {n : Int} (h0 : 0 ≤ n) (h : n < 10) : Lib.decDigits n.toNat = [UInt8.ofNat (48 + n % 10).toNat] := by
  rw [Lib.decDigits, dif_pos (by omega)]
  congr 2
  omega
theorem dec_big {n : Int} (h0 : 0 ≤ n) (h : ¬ n < 10) : Lib.decDigits n.toNat = Lib.decDigits (n / 10).toNat ++ [UInt8.ofNat (48 + n % 10).toNat] := by
  rw [Lib.decDigits, dif_neg (by omega)]
  have e1 : n.toNat / 10 = (n / 10).toNat := by omega
  have e2 : 48 + n.toNat % 10 = (48 + n % 10).toNat := by omega
  rw [e1, e2]
theorem h47 (neg : Bool) (r0 : List UInt8) : ∀ (k : Nat) (n : Int) (s : List UInt8), 0 ≤ n → n < 10 ^ k → n ≤ 9223372036854775807 → s.length + k ≤ 20 → (s = [] ∨ 0 < n → r0 = (if neg then [45] else []) ++ (Lib.decDigits n.toNat ++ s)) → (s ≠ [] → n = 0 → r0 = (if neg then [45] else []) ++ s) → (s = [] → 0 < k) →
    HD AA 0 [0, 2, 3, 4] l47_0 ⟨[.int .i64 n, .junk, .str [], .str s, .bool neg, .junk, .junk, .junk, .junk, .junk, .junk, .junk, .junk, .junk, .junk, .junk, .junk, .junk, .junk, .junk, .junk, .junk, .junk, .junk, .junk, .junk, .junk, .junk, .junk, .junk, .junk, .junk], [], 0⟩ [.blk 0, .code r47_0] (Fin [(2, none)] 0 (.str r0) [])
  | k, n, s, h0, h1, h1', h2, h3, h4, h5 => by
    by_cases hs : s = [] ∨ 0 < n
    · have hk : 0 < k := by
        rcases hs with hs | hs
        · exact h5 hs
        · rcases Nat.eq_zero_or_pos k with hk | hk
          · rw [hk] at h1
            simp at h1
            omega
          · exact hk
      obtain ⟨k, rfl⟩ : ∃ j, k = j + 1 := ⟨k - 1, by omega⟩
      have e1 : n.tmod 10 = n % 10 := Int.tmod_eq_emod_of_nonneg h0
      have e2 : n.tdiv 10 = n / 10 := Int.tdiv_eq_ediv_of_nonneg h0
      have hr := h3 hs
      have hp : n / 10 < 10 ^ k := by
        rw [Int.pow_succ] at h1
        omega
      have ih := h47 neg r0 k (n / 10) (UInt8.ofNat (48 + n % 10).toNat :: s) (by omega) hp (by omega) (by simp; omega) (fun h => by
        have hb : ¬ n < 10 := by
          rcases h with h | h
          · cases h
          · omega
        rw [hr, dec_big h0 hb]
        simp) (fun _ h => by
        rw [hr, dec_small h0 (by omega)]
        simp) (fun h => by cases h)
      refine hd_of (by unfold l47_0; rfl) ?_
      by_cases hse : s = []
      · (simp (maxSteps := 2000000) (disch := omega) only [decide_eq_true hse, e1, e2, bytesOf_one, lp_head, go_sem]) <;> repeat' (first | ((first | refine gd_dec ?_ ?_ | refine gd_ndec ?_ ?_ | refine cd_dec ?_ ?_ | refine cd_ndec ?_ ?_ | refine gdd_dec ?_ ?_ | refine gdd_ndec ?_ ?_ | refine gd_of ?_ ?_ | refine cd_of ?_ ?_ | refine gdd_of ?_ ?_) <;> intro hg <;> first | (exfalso; omega) | (simp (maxSteps := 2000000) (disch := omega) only [hg, decide_eq_true hse, e1, e2, bytesOf_one, lp_head, go_sem])) | (refine And.intro ?_ ?_; focus omega) | omega)
      · have hn : 0 < n := by
          rcases hs with hs | hs
          · exact (hse hs).elim
          · exact hs
        (simp (maxSteps := 2000000) (disch := omega) only [decide_eq_false hse, e1, e2, bytesOf_one, lp_head, go_sem]) <;> repeat' (first | ((first | refine gd_dec ?_ ?_ | refine gd_ndec ?_ ?_ | refine cd_dec ?_ ?_ | refine cd_ndec ?_ ?_ | refine gdd_dec ?_ ?_ | refine gdd_ndec ?_ ?_ | refine gd_of ?_ ?_ | refine cd_of ?_ ?_ | refine gdd_of ?_ ?_) <;> intro hg <;> first | (exfalso; omega) | (simp (maxSteps := 2000000) (disch := omega) only [hg, decide_eq_false hse, e1, e2, bytesOf_one, lp_head, go_sem])) | (refine And.intro ?_ ?_; focus omega) | omega)
    · have hs1 : s ≠ [] := fun h => hs (.inl h)
      have hn : n = 0 := by
        have : ¬ 0 < n := fun h => hs (.inr h)
        omega
      have hr := h4 hs1 hn
      subst hn
      refine hd_of (by unfold l47_0; rfl) ?_
      cases neg
      · rw [hr]
        (simp (maxSteps := 2000000) (disch := omega) only [decide_eq_false hs1, r47_0, go_sem]) <;> repeat' (first | ((first | refine gd_dec ?_ ?_ | refine gd_ndec ?_ ?_ | refine cd_dec ?_ ?_ | refine cd_ndec ?_ ?_ | refine gdd_dec ?_ ?_ | refine gdd_ndec ?_ ?_ | refine gd_of ?_ ?_ | refine cd_of ?_ ?_ | refine gdd_of ?_ ?_) <;> intro hg <;> first | (exfalso; omega) | (simp (maxSteps := 2000000) (disch := omega) only [hg, decide_eq_false hs1, r47_0, go_sem])) | (refine And.intro ?_ ?_; focus omega) | omega)
        all_goals simp
      · rw [hr]
        (simp (maxSteps := 2000000) (disch := omega) only [decide_eq_false hs1, r47_0, go_sem]) <;> repeat' (first | ((first | refine gd_dec ?_ ?_ | refine gd_ndec ?_ ?_ | refine cd_dec ?_ ?_ | refine cd_ndec ?_ ?_ | refine gdd_dec ?_ ?_ | refine gdd_ndec ?_ ?_ | refine gd_of ?_ ?_ | refine cd_of ?_ ?_ | refine gdd_of ?_ ?_) <;> intro hg <;> first | (exfalso; omega) | (simp (maxSteps := 2000000) (disch := omega) only [hg, decide_eq_false hs1, r47_0, go_sem])) | (refine And.intro ?_ ?_; focus omega) | omega)
        all_goals simp
theorem itoa_min : Lib.itoa (-9223372036854775808) = [45, 57, 50, 50, 51, 51, 55, 50, 48, 51, 54, 56, 53, 52, 55, 55, 53, 56, 48, 56] := by
  have h : (-9223372036854775808 : Int).natAbs = 9223372036854775808 := rfl
  unfold Lib.itoa
  rw [if_pos (by omega), h]
  simp [Lib.decDigits]
theorem s47 (n : Int) (h1 : -9223372036854775808 ≤ n) (h2 : n ≤ 9223372036854775807) : callT AA 47 [.int .i64 n] [] = some (.str (Lib.itoa n), []) := by
  refine enter fn47 np47 rfl ?_
  by_cases hm : n = -9223372036854775808
  · subst hm
    rw [itoa_min]
    (simp (maxSteps := 2000000) (disch := omega) only [b47, go_sem]) <;> repeat' (first | ((first | refine gd_dec ?_ ?_ | refine gd_ndec ?_ ?_ | refine cd_dec ?_ ?_ | refine cd_ndec ?_ ?_ | refine gdd_dec ?_ ?_ | refine gdd_ndec ?_ ?_ | refine gd_of ?_ ?_ | refine cd_of ?_ ?_ | refine gdd_of ?_ ?_) <;> intro hg <;> first | (exfalso; omega) | (simp (maxSteps := 2000000) (disch := omega) only [hg, b47, go_sem])) | (refine And.intro ?_ ?_; focus omega) | omega)
  by_cases hn : n < 0
  · have hh := h47 true (Lib.itoa n) 19 (-n) [] (by omega) (by omega) (by omega) (by simp) (fun _ => by
      unfold Lib.itoa
      rw [if_pos hn]
      have e : n.natAbs = (-n).toNat := by omega
      rw [e]
      simp) (fun h => (h rfl).elim) (fun _ => by omega)
    have e : 0 - n = -n := by omega
    (simp (maxSteps := 2000000) (disch := omega) only [b47, e, lp_head, go_sem]) <;> repeat' (first | ((first | refine gd_dec ?_ ?_ | refine gd_ndec ?_ ?_ | refine cd_dec ?_ ?_ | refine cd_ndec ?_ ?_ | refine gdd_dec ?_ ?_ | refine gdd_ndec ?_ ?_ | refine gd_of ?_ ?_ | refine cd_of ?_ ?_ | refine gdd_of ?_ ?_) <;> intro hg <;> first | (exfalso; omega) | (simp (maxSteps := 2000000) (disch := omega) only [hg, b47, e, lp_head, go_sem])) | (refine And.intro ?_ ?_; focus omega) | omega)
  · have hh := h47 false (Lib.itoa n) 19 n [] (by omega) (by omega) (by omega) (by simp) (fun _ => by
      unfold Lib.itoa
      rw [if_neg hn]
      simp) (fun h => (h rfl).elim) (fun _ => by omega)
    (simp (maxSteps := 2000000) (disch := omega) only [b47, lp_head, go_sem]) <;> repeat' (first | ((first | refine gd_dec ?_ ?_ | refine gd_ndec ?_ ?_ | refine cd_dec ?_ ?_ | refine cd_ndec ?_ ?_ | refine gdd_dec ?_ ?_ | refine gdd_ndec ?_ ?_ | refine gd_of ?_ ?_ | refine cd_of ?_ ?_ | refine gdd_of ?_ ?_) <;> intro hg <;> first | (exfalso; omega) | (simp (maxSteps := 2000000) (disch := omega) only [hg, b47, lp_head, go_sem])) | (refine And.intro ?_ ?_; focus omega) | omega)
end Go.Abs
/-
  DERIVED: THE SHELF's CONTRACTS AT THIS DUMP, IN PLAIN WORDS (tools/lay-plain.mjs out of 'TryzShelf.lean', which tools/lay-shelf.mjs wrote): THE SAME DECLARATIONS UNDER THE SAME NAMES: 'import', 'namespace', 'open', 'def', 'theorem' AND NOTHING ELSE: no command of the shelf's: FOR A HAND-IN. Each laying: the table of numbers ('.._ren') and one theorem, a field a fact of the dump's own or the kernel's comparison; each contract: ONE APPLICATION.
-/
namespace Go.Proofs
open Go.Shelf
def Tryz.laysValid_ren : Go.Shelf.Ren := ⟨fun | 196 => 191 | 259 => 226 | n => n, fun | 9 => 9 | 4 => 4 | 3 => 3 | 5 => 5 | 12 => 12 | 119 => 252 | 0 => 0 | 46 => 78 | 139 => 255 | 138 => 254 | 53 => 80 | n => n, fun | 3 => 2 | 4 => 3 | n => n⟩
theorem Tryz.laysValid : Go.Proofs.Lays.n196 Tryz.prog Tryz.laysValid_ren := {
  mixed := by kernel_rfl
  f196 := Tryz.func191.trans (congrArg some (by kernel_rfl))
  f259 := Tryz.func226.trans (congrArg some (by kernel_rfl))
  t0 := Tryz.underlying0
  a0 := Tryz.isAgg0
  z0 := Tryz.sizeOf0
  v0 := Tryz.zeroValue0
  t3 := Tryz.underlying3
  a3 := Tryz.isAgg3
  z3 := Tryz.sizeOf3
  v3 := Tryz.zeroValue3
  t4 := Tryz.underlying4
  a4 := Tryz.isAgg4
  z4 := Tryz.sizeOf4
  v4 := Tryz.zeroValue4
  t5 := Tryz.underlying5
  a5 := Tryz.isAgg5
  z5 := Tryz.sizeOf5
  v5 := Tryz.zeroValue5
  t9 := Tryz.underlying9
  a9 := Tryz.isAgg9
  z9 := Tryz.sizeOf9
  v9 := Tryz.zeroValue9
  t12 := Tryz.underlying12
  a12 := Tryz.isAgg12
  z12 := Tryz.sizeOf12
  v12 := Tryz.zeroValue12
  t46 := Tryz.underlying78
  a46 := Tryz.isAgg78
  z46 := Tryz.sizeOf78
  v46 := Tryz.zeroValue78
  t53 := Tryz.underlying80
  a53 := Tryz.isAgg80
  z53 := Tryz.sizeOf80
  v53 := Tryz.zeroValue80
  t119 := Tryz.underlying252
  a119 := Tryz.isAgg252
  z119 := Tryz.sizeOf252
  t138 := Tryz.underlying254
  a138 := Tryz.isAgg254
  z138 := Tryz.sizeOf254
  v138 := Tryz.zeroValue254
  t139 := Tryz.underlying255
  a139 := Tryz.isAgg255
  z139 := Tryz.sizeOf255
  v139 := Tryz.zeroValue255
  g3 := by kernel_rfl
  g4 := by kernel_rfl }
def Tryz.laysItoa_ren : Go.Shelf.Ren := ⟨fun | 243 => 98 | 246 => 142 | 283 => 183 | 284 => 184 | 285 => 185 | 286 => 186 | 129 => 174 | 317 => 219 | 318 => 220 | 319 => 221 | 320 => 222 | 337 => 243 | 338 => 244 | n => n, fun | 3 => 3 | 9 => 9 | 2 => 2 | 4 => 4 | 171 => 217 | 0 => 0 | 53 => 80 | 37 => 26 | 5 => 5 | 173 => 219 | 212 => 247 | 51 => 205 | 20 => 20 | 213 => 248 | 46 => 78 | 232 => 282 | 233 => 283 | n => n, fun | 17 => 1 | 18 => 6 | 19 => 7 | n => n⟩
theorem Tryz.laysItoa : Go.Proofs.LaysM.n243 Tryz.prog Tryz.laysItoa_ren := {
  mixed := by kernel_rfl
  f129 := Tryz.func174.trans (congrArg some (by kernel_rfl))
  f243 := Tryz.func98.trans (congrArg some (by kernel_rfl))
  f246 := Tryz.func142.trans (congrArg some (by kernel_rfl))
  f283 := Tryz.func183.trans (congrArg some (by kernel_rfl))
  f284 := Tryz.func184.trans (congrArg some (by kernel_rfl))
  f285 := Tryz.func185.trans (congrArg some (by kernel_rfl))
  f286 := Tryz.func186.trans (congrArg some (by kernel_rfl))
  f317 := Tryz.func219.trans (congrArg some (by kernel_rfl))
  f318 := Tryz.func220.trans (congrArg some (by kernel_rfl))
  f319 := Tryz.func221.trans (congrArg some (by kernel_rfl))
  f320 := Tryz.func222.trans (congrArg some (by kernel_rfl))
  f337 := Tryz.func243.trans (congrArg some (by kernel_rfl))
  f338 := Tryz.func244.trans (congrArg some (by kernel_rfl))
  t0 := Tryz.underlying0
  a0 := Tryz.isAgg0
  z0 := Tryz.sizeOf0
  v0 := Tryz.zeroValue0
  t2 := Tryz.underlying2
  a2 := Tryz.isAgg2
  z2 := Tryz.sizeOf2
  v2 := Tryz.zeroValue2
  t3 := Tryz.underlying3
  a3 := Tryz.isAgg3
  z3 := Tryz.sizeOf3
  v3 := Tryz.zeroValue3
  t4 := Tryz.underlying4
  a4 := Tryz.isAgg4
  z4 := Tryz.sizeOf4
  v4 := Tryz.zeroValue4
  t5 := Tryz.underlying5
  a5 := Tryz.isAgg5
  z5 := Tryz.sizeOf5
  v5 := Tryz.zeroValue5
  t9 := Tryz.underlying9
  a9 := Tryz.isAgg9
  z9 := Tryz.sizeOf9
  v9 := Tryz.zeroValue9
  t20 := Tryz.underlying20
  a20 := Tryz.isAgg20
  z20 := Tryz.sizeOf20
  v20 := Tryz.zeroValue20
  t37 := Tryz.underlying26
  a37 := Tryz.isAgg26
  z37 := Tryz.sizeOf26
  v37 := Tryz.zeroValue26
  t46 := Tryz.underlying78
  a46 := Tryz.isAgg78
  z46 := Tryz.sizeOf78
  v46 := Tryz.zeroValue78
  t51 := Tryz.underlying205
  a51 := Tryz.isAgg205
  z51 := Tryz.sizeOf205
  v51 := Tryz.zeroValue205
  t53 := Tryz.underlying80
  a53 := Tryz.isAgg80
  z53 := Tryz.sizeOf80
  v53 := Tryz.zeroValue80
  t171 := Tryz.underlying217
  a171 := Tryz.isAgg217
  z171 := Tryz.sizeOf217
  v171 := Tryz.zeroValue217
  t173 := Tryz.underlying219
  a173 := Tryz.isAgg219
  z173 := Tryz.sizeOf219
  v173 := Tryz.zeroValue219
  t212 := Tryz.underlying247
  a212 := Tryz.isAgg247
  z212 := Tryz.sizeOf247
  v212 := Tryz.zeroValue247
  t213 := Tryz.underlying248
  a213 := Tryz.isAgg248
  z213 := Tryz.sizeOf248
  t232 := Tryz.underlying282
  a232 := Tryz.isAgg282
  z232 := Tryz.sizeOf282
  v232 := Tryz.zeroValue282
  t233 := Tryz.underlying283
  a233 := Tryz.isAgg283
  z233 := Tryz.sizeOf283
  v233 := Tryz.zeroValue283
  g17 := by kernel_rfl
  g18 := by kernel_rfl
  g19 := by kernel_rfl
  i0 := by kernel_rfl
  i2 := by kernel_rfl
  i3 := by kernel_rfl
  i4 := by kernel_rfl
  i5 := by kernel_rfl
  i9 := by kernel_rfl
  i20 := by kernel_rfl
  i37 := by kernel_rfl
  i46 := by kernel_rfl
  i51 := by kernel_rfl
  i53 := by kernel_rfl
  i171 := by kernel_rfl
  i173 := by kernel_rfl
  i212 := by kernel_rfl
  i232 := by kernel_rfl
  i233 := by kernel_rfl
  m17 := by kernel_rfl
  m18 := by kernel_rfl
  m19 := by kernel_rfl }
def Tryz.laysAtoi_ren : Go.Shelf.Ren := ⟨fun | 172 => 118 | 244 => 153 | 245 => 154 | 247 => 197 | 279 => 198 | 280 => 199 | 281 => 200 | 282 => 201 | 287 => 230 | 316 => 231 | 171 => 56 | 205 => 232 | 321 => 248 | 322 => 249 | 243 => 98 | 246 => 142 | 283 => 183 | 284 => 184 | 285 => 185 | 286 => 186 | 129 => 174 | 317 => 219 | 318 => 220 | 319 => 221 | 320 => 222 | 337 => 243 | 338 => 244 | n => n, fun | 9 => 9 | 3 => 3 | 75 => 28 | 76 => 54 | 4 => 4 | 5 => 5 | 167 => 224 | 37 => 26 | 0 => 0 | 85 => 225 | 2 => 2 | 168 => 227 | 53 => 80 | 175 => 242 | 46 => 78 | 210 => 261 | 127 => 277 | 145 => 280 | 143 => 278 | 21 => 21 | 171 => 217 | 173 => 219 | 212 => 247 | 51 => 205 | 20 => 20 | 213 => 248 | 232 => 282 | 233 => 283 | 80 => 269 | n => n, fun | 15 => 4 | 16 => 5 | 17 => 1 | 18 => 6 | 19 => 7 | n => n⟩
theorem Tryz.laysAtoi : Go.Proofs.LaysC.n172 Tryz.prog Tryz.laysAtoi_ren := {
  mixed := by kernel_rfl
  f129 := Tryz.func174.trans (congrArg some (by kernel_rfl))
  f171 := Tryz.func56.trans (congrArg some (by kernel_rfl))
  f172 := Tryz.func118.trans (congrArg some (by kernel_rfl))
  f205 := Tryz.func232.trans (congrArg some (by kernel_rfl))
  f243 := Tryz.func98.trans (congrArg some (by kernel_rfl))
  f244 := Tryz.func153.trans (congrArg some (by kernel_rfl))
  f245 := Tryz.func154.trans (congrArg some (by kernel_rfl))
  f246 := Tryz.func142.trans (congrArg some (by kernel_rfl))
  f247 := Tryz.func197.trans (congrArg some (by kernel_rfl))
  f279 := Tryz.func198.trans (congrArg some (by kernel_rfl))
  f280 := Tryz.func199.trans (congrArg some (by kernel_rfl))
  f281 := Tryz.func200.trans (congrArg some (by kernel_rfl))
  f282 := Tryz.func201.trans (congrArg some (by kernel_rfl))
  f283 := Tryz.func183.trans (congrArg some (by kernel_rfl))
  f284 := Tryz.func184.trans (congrArg some (by kernel_rfl))
  f285 := Tryz.func185.trans (congrArg some (by kernel_rfl))
  f286 := Tryz.func186.trans (congrArg some (by kernel_rfl))
  f287 := Tryz.func230.trans (congrArg some (by kernel_rfl))
  f316 := Tryz.func231.trans (congrArg some (by kernel_rfl))
  f317 := Tryz.func219.trans (congrArg some (by kernel_rfl))
  f318 := Tryz.func220.trans (congrArg some (by kernel_rfl))
  f319 := Tryz.func221.trans (congrArg some (by kernel_rfl))
  f320 := Tryz.func222.trans (congrArg some (by kernel_rfl))
  f321 := Tryz.func248.trans (congrArg some (by kernel_rfl))
  f322 := Tryz.func249.trans (congrArg some (by kernel_rfl))
  f337 := Tryz.func243.trans (congrArg some (by kernel_rfl))
  f338 := Tryz.func244.trans (congrArg some (by kernel_rfl))
  t0 := Tryz.underlying0
  a0 := Tryz.isAgg0
  z0 := Tryz.sizeOf0
  v0 := Tryz.zeroValue0
  t2 := Tryz.underlying2
  a2 := Tryz.isAgg2
  z2 := Tryz.sizeOf2
  v2 := Tryz.zeroValue2
  t3 := Tryz.underlying3
  a3 := Tryz.isAgg3
  z3 := Tryz.sizeOf3
  v3 := Tryz.zeroValue3
  t4 := Tryz.underlying4
  a4 := Tryz.isAgg4
  z4 := Tryz.sizeOf4
  v4 := Tryz.zeroValue4
  t5 := Tryz.underlying5
  a5 := Tryz.isAgg5
  z5 := Tryz.sizeOf5
  v5 := Tryz.zeroValue5
  t9 := Tryz.underlying9
  a9 := Tryz.isAgg9
  z9 := Tryz.sizeOf9
  v9 := Tryz.zeroValue9
  t20 := Tryz.underlying20
  a20 := Tryz.isAgg20
  z20 := Tryz.sizeOf20
  v20 := Tryz.zeroValue20
  t21 := Tryz.underlying21
  a21 := Tryz.isAgg21
  z21 := Tryz.sizeOf21
  v21 := Tryz.zeroValue21
  t37 := Tryz.underlying26
  a37 := Tryz.isAgg26
  z37 := Tryz.sizeOf26
  v37 := Tryz.zeroValue26
  t46 := Tryz.underlying78
  a46 := Tryz.isAgg78
  z46 := Tryz.sizeOf78
  v46 := Tryz.zeroValue78
  t51 := Tryz.underlying205
  a51 := Tryz.isAgg205
  z51 := Tryz.sizeOf205
  v51 := Tryz.zeroValue205
  t53 := Tryz.underlying80
  a53 := Tryz.isAgg80
  z53 := Tryz.sizeOf80
  v53 := Tryz.zeroValue80
  t75 := Tryz.underlying28
  a75 := Tryz.isAgg28
  z75 := Tryz.sizeOf28
  v75 := Tryz.zeroValue28
  t76 := Tryz.underlying54
  a76 := Tryz.isAgg54
  z76 := Tryz.sizeOf54
  v76 := Tryz.zeroValue54
  t85 := Tryz.underlying225
  a85 := Tryz.isAgg225
  z85 := Tryz.sizeOf225
  v85 := Tryz.zeroValue225
  t127 := Tryz.underlying277
  a127 := Tryz.isAgg277
  z127 := Tryz.sizeOf277
  v127 := Tryz.zeroValue277
  t143 := Tryz.underlying278
  a143 := Tryz.isAgg278
  z143 := Tryz.sizeOf278
  v143 := Tryz.zeroValue278
  t145 := Tryz.underlying280
  a145 := Tryz.isAgg280
  z145 := Tryz.sizeOf280
  v145 := Tryz.zeroValue280
  t167 := Tryz.underlying224
  a167 := Tryz.isAgg224
  z167 := Tryz.sizeOf224
  v167 := Tryz.zeroValue224
  t168 := Tryz.underlying227
  a168 := Tryz.isAgg227
  z168 := Tryz.sizeOf227
  v168 := Tryz.zeroValue227
  t171 := Tryz.underlying217
  a171 := Tryz.isAgg217
  z171 := Tryz.sizeOf217
  v171 := Tryz.zeroValue217
  t173 := Tryz.underlying219
  a173 := Tryz.isAgg219
  z173 := Tryz.sizeOf219
  v173 := Tryz.zeroValue219
  t175 := Tryz.underlying242
  a175 := Tryz.isAgg242
  z175 := Tryz.sizeOf242
  v175 := Tryz.zeroValue242
  t210 := Tryz.underlying261
  a210 := Tryz.isAgg261
  z210 := Tryz.sizeOf261
  v210 := Tryz.zeroValue261
  t212 := Tryz.underlying247
  a212 := Tryz.isAgg247
  z212 := Tryz.sizeOf247
  v212 := Tryz.zeroValue247
  t213 := Tryz.underlying248
  a213 := Tryz.isAgg248
  z213 := Tryz.sizeOf248
  t232 := Tryz.underlying282
  a232 := Tryz.isAgg282
  z232 := Tryz.sizeOf282
  v232 := Tryz.zeroValue282
  t233 := Tryz.underlying283
  a233 := Tryz.isAgg283
  z233 := Tryz.sizeOf283
  v233 := Tryz.zeroValue283
  g15 := by kernel_rfl
  g16 := by kernel_rfl
  g17 := by kernel_rfl
  g18 := by kernel_rfl
  g19 := by kernel_rfl
  t80 := Tryz.underlying269
  a80 := Tryz.isAgg269
  z80 := Tryz.sizeOf269
  v80 := Tryz.zeroValue269
  i0 := by kernel_rfl
  i2 := by kernel_rfl
  i3 := by kernel_rfl
  i4 := by kernel_rfl
  i5 := by kernel_rfl
  i9 := by kernel_rfl
  i20 := by kernel_rfl
  i21 := by kernel_rfl
  i37 := by kernel_rfl
  i46 := by kernel_rfl
  i51 := by kernel_rfl
  i53 := by kernel_rfl
  i75 := by kernel_rfl
  i76 := by kernel_rfl
  i80 := by kernel_rfl
  i85 := by kernel_rfl
  i127 := by kernel_rfl
  i143 := by kernel_rfl
  i145 := by kernel_rfl
  i167 := by kernel_rfl
  i168 := by kernel_rfl
  i171 := by kernel_rfl
  i173 := by kernel_rfl
  i175 := by kernel_rfl
  i210 := by kernel_rfl
  i212 := by kernel_rfl
  i232 := by kernel_rfl
  i233 := by kernel_rfl
  m15 := by kernel_rfl
  m16 := by kernel_rfl
  m17 := by kernel_rfl
  m18 := by kernel_rfl
  m19 := by kernel_rfl
  c0 := by kernel_rfl
  c2 := by kernel_rfl
  c3 := by kernel_rfl
  c4 := by kernel_rfl
  c5 := by kernel_rfl
  c9 := by kernel_rfl
  c20 := by kernel_rfl
  c21 := by kernel_rfl
  c37 := by kernel_rfl
  c46 := by kernel_rfl
  c51 := by kernel_rfl
  c53 := by kernel_rfl
  c75 := by kernel_rfl
  c76 := by kernel_rfl
  c80 := by kernel_rfl
  c85 := by kernel_rfl
  c127 := by kernel_rfl
  c143 := by kernel_rfl
  c145 := by kernel_rfl
  c167 := by kernel_rfl
  c168 := by kernel_rfl
  c171 := by kernel_rfl
  c173 := by kernel_rfl
  c175 := by kernel_rfl
  c210 := by kernel_rfl
  c212 := by kernel_rfl
  c213 := by kernel_rfl
  c232 := by kernel_rfl
  c233 := by kernel_rfl }
end Go.Proofs
/- THE PROGRAM IS WHAT THE SMALL CODE SAYS; THE LIBRARY's FUNCTIONS MEET THEIR CONTRACTS. -/
namespace Go.Abs
open Go.Proofs Go.RowKit
set_option maxRecDepth 100000

/-- what holds of the tables and variables that the library reads -/
structure GG (S : Nat → Prop) (w : World) : Prop where
  pow : Lib.TabIs Tryz.prog w "internal/strconv.uint64pow10" .u64 Lib.pow10Tab
  utf : Lib.Utf8Tabs 2 3 w
  synt : ∃ ev, w.cell? ⟨4, 0, none⟩ = some ev ∧ (ev = .nilIface ∨ ∃ te pe, ev = .iface te pe)
  rang : ∃ ev, w.cell? ⟨5, 0, none⟩ = some ev ∧ (ev = .nilIface ∨ ∃ te pe, ev = .iface te pe)
  low : ∀ b, b < 8 → S b

theorem gg_stable : Stable GG := by
  intro S S' w w' h hS hw
  have hb : ∀ b, b < 8 → w'.heap[b]? = w.heap[b]? := fun b hb => hw b (h.low b hb)
  have hc : ∀ b o, b < 8 → w'.cell? ⟨b, o, none⟩ = w.cell? ⟨b, o, none⟩ := fun b o h => cell_congr (hb b h) o none
  refine ⟨?_, ⟨fun c hc' => ?_, fun i hi => ?_⟩, ?_, ?_, fun b hb' => hS b (h.low b hb')⟩
  · have h1 := h.pow
    unfold Lib.TabIs World.var? at h1 ⊢
    have hg : Tryz.prog.globalNamed "internal/strconv.uint64pow10" = some 1 := by kernel_rfl
    rw [hg] at h1 ⊢
    simp only [Option.bind_some] at h1 ⊢
    rw [hb 1 (by omega)]
    exact h1
  · rw [hc 2 _ (by omega)]; exact h.utf.1 c hc'
  · rw [hc 3 _ (by omega), hc 3 _ (by omega)]; exact h.utf.2 i hi
  · obtain ⟨ev, h1, h2⟩ := h.synt
    exact ⟨ev, by rw [hc 4 _ (by omega)]; exact h1, h2⟩
  · obtain ⟨ev, h1, h2⟩ := h.rang
    exact ⟨ev, by rw [hc 5 _ (by omega)]; exact h1, h2⟩

section
variable {ι : Emb} {S T : Nat → Prop} {w w' : World} {r : AVal} {v : Value} {next : Free}
/-- an answer that owns nothing, behind which the old memory is as it was -/
theorem back_of (hi : Inv ι S T [] w (Free.above 0)) (hb : Below w.heap.size w w') (hr : ∀ ι' S' T' w'', Rep ι' S' T' w'' r v) : Back ι S T [] w r [] v w' := by
  refine ⟨ι, S, Free.above 0, hr _ _ _ _, ⟨by simp, by simp, by simp, hi.fresh, fun b hb' => Nat.lt_of_lt_of_le (hi.s_lt b hb') hb.size, fun b hb' => Nat.lt_of_lt_of_le (hi.t_lt b hb') hb.size⟩, ?_⟩
  exact ⟨fun _ _ h => h, fun _ h => h, fun b hb' _ => hb.block b hb', hb.size, fun b ⟨e, he, _⟩ => (by cases he), fun b h => .inl h, hb.os, hb.tape, hb.output⟩

theorem call_enter {g : Nat} {vals : Array Value} {R : Value → World → Prop} {fn : Func} (hf : Tryz.prog.funcs[g]? = some fn) (hb : fn.body.isSome = true) (hn : (fn.name == "runtime.NumGoroutine") = false)
    (h : Go.Calls Tryz.prog g vals w fun | .returned v, w'' => R v w'' | _, _ => False) : CallOK Tryz.prog g vals w R := by
  obtain ⟨c, hc⟩ := Option.isSome_iff_exists.1 hb
  have hrun : (callFunc g vals).run Tryz.prog w = .ok (.enter g vals) w := by
    have hn : ¬ fn.name = "runtime.NumGoroutine" := by simpa using hn
    simp [callFunc, hf, hn, hc]
  unfold CallOK
  rw [hrun]
  exact h

theorem grow_below (k : Nat) (os : Array Obj) : Below w.heap.size w (Sort.grow (w.drewN k) os) := by
  refine ⟨rfl, rfl, rfl, ?_, fun j hj => ?_⟩
  · show w.heap.size ≤ (w.heap ++ os).size
    simp
  · show (w.heap ++ os)[j]? = _
    rw [Array.getElem?_append_left hj]

theorem itoa_ok {n : Int} (hg : GG S w) (hi : Inv ι S T [] w (Free.above 0)) (h0 : -9223372036854775808 ≤ n) (h1 : n ≤ 9223372036854775807) : CallOK Tryz.prog 98 #[.int .i64 n] w (Back ι S T [] w (.str (Lib.itoa n)) []) := by
  refine call_enter Tryz.func98 (by kernel_rfl) (by kernel_rfl) ?_
  refine (Any.internal_strconv_Itoa Tryz.laysItoa n h0 h1 w hg.pow).mono ?_
  rintro e w' ⟨rfl, k, os, rfl⟩
  exact back_of hi (grow_below k os) fun _ _ _ _ => .str _
theorem valid_ok {s : List UInt8} (hg : GG S w) (hi : Inv ι S T [] w (Free.above 0)) (h0 : s.length ≤ 9223372036854775807) : CallOK Tryz.prog 191 #[.string ⟨s.toArray⟩] w (Back ι S T [] w (.bool (Lib.validD s)) []) := by
  refine call_enter Tryz.func191 (by kernel_rfl) (by kernel_rfl) ?_
  refine (Any.utf8_ValidString Tryz.laysValid ⟨s.toArray⟩ w (by simpa [ByteArray.size] using h0) hg.utf).mono ?_
  rintro e w' ⟨rfl, hb⟩
  exact back_of hi hb fun _ _ _ _ => .bool _
theorem atoi_ok {s : List UInt8} (hg : GG S w) (hi : Inv ι S T [] w (Free.above 0)) (h0 : s.length ≤ 281474976710656) :
    CallOK Tryz.prog 118 #[.string ⟨s.toArray⟩] w (Back ι S T [] w (.tuple [.int .i64 (atoiV s), if atoiOk s = true then .lit .nilIface else numErr]) []) := by
  refine call_enter Tryz.func118 (by kernel_rfl) (by kernel_rfl) ?_
  have hsz : (ByteArray.mk s.toArray).size = s.length := by simp [ByteArray.size]
  have htl : (ByteArray.mk s.toArray).data.toList = s := by simp
  have rep : ∀ (n : Int) (a : AVal) (v : Value) (ι' : Emb) (S' T' : Nat → Prop) (w'' : World), Rep ι' S' T' w'' a v → Rep ι' S' T' w'' (.tuple [.int .i64 n, a]) (.tuple #[.int .i64 n, v]) := by
    intro n a v ι' S' T' w'' h
    refine .tuple _ _ rfl fun i c u hc hu => ?_
    match i with
    | 0 => simp at hc hu; subst hc; subst hu; exact .int _ _
    | 1 => simp at hc hu; subst hc; subst hu; exact h
    | i + 2 => simp at hc
  cases ha : Lib.atoiAll s
  case ok v =>
    have e1 : atoiV s = v := by simp [atoiV, ha]
    have e2 : atoiOk s = true := by simp [atoiOk, ha]
    rw [e1, if_pos e2]
    refine (Any.strconv_Atoi_ok Tryz.laysAtoi ⟨s.toArray⟩ (by omega) v (by rw [htl]; exact ha) w).mono ?_
    rintro e w' ⟨rfl, hw⟩
    refine back_of hi ?_ fun _ _ _ _ => rep _ _ _ _ _ _ _ (.lit _)
    rcases hw with rfl | ⟨t, rfl⟩
    · exact Below.refl _ _
    · exact Lib.bytesWorld_below _ _ _
  case range =>
    have e1 : atoiV s = Lib.atoiSat s := by simp [atoiV, ha]
    have e2 : ¬ atoiOk s = true := by simp [atoiOk, ha]
    rw [e1, if_neg e2]
    obtain ⟨ev, g1, g2⟩ := hg.rang
    refine (Any.strconv_Atoi_range Tryz.laysAtoi ⟨s.toArray⟩ (by omega) (by rw [htl]; exact ha) ev w g1 g2).mono ?_
    rintro e w' ⟨N, rfl, _, _, hb⟩
    exact back_of hi hb fun _ _ _ _ => rep _ _ _ _ _ _ _ (.iface _ _ _ (.junk _))
  have e1 : atoiV s = 0 := by simp [atoiV, ha]
  have e2 : ¬ atoiOk s = true := by simp [atoiOk, ha]
  rw [e1, if_neg e2]
  obtain ⟨ev, g1, g2⟩ := hg.synt
  refine (Any.strconv_Atoi_syntax Tryz.laysAtoi ⟨s.toArray⟩ (by omega) (by rw [htl]; exact ha) ev w g1 g2).mono ?_
  rintro e w' ⟨N, rfl, _, _, hb⟩
  exact back_of hi hb fun _ _ _ _ => rep _ _ _ _ _ _ _ (.iface _ _ _ (.junk _))
theorem extern_ok {g : Nat} {vals : Array Value} {fn : Func} {x : Array Value → Sem Value} (hi : Inv ι S T [] w (Free.above 0)) (hf : Tryz.prog.funcs[g]? = some fn) (hname : (fn.name == "runtime.NumGoroutine") = false)
    (hb : fn.body.isNone = true) (hn : Extern.findNext fn = none) (he : Extern.find fn = some x) (hx : (x vals).run Tryz.prog w = .ok v w) (hr : ∀ ι' S' T' w'', Rep ι' S' T' w'' r v) : CallOK Tryz.prog g vals w (Back ι S T [] w r []) := by
  unfold CallOK
  rw [run_callFunc_extern hf hname hb hn he, hx]
  exact back_of hi (Below.refl _ _) hr
theorem count_ok {s : List UInt8} {c : Int} (hi : Inv ι S T [] w (Free.above 0)) : CallOK Tryz.prog 255 #[.string ⟨s.toArray⟩, .int .u8 c] w (Back ι S T [] w (.int .i64 (Lib.countByte s c.toNat.toUInt8)) []) := by
  refine extern_ok hi Tryz.func255 (by kernel_rfl) (by kernel_rfl) (by kernel_rfl) (x := Extern.BytealgCount.count) (by kernel_rfl) (Lib.run_countString _ _ _) fun _ _ _ _ => ?_
  have htl : (ByteArray.mk s.toArray).data.toList = s := by simp
  rw [htl]
  exact .int _ _
theorem index_ok {s : List UInt8} {c : Int} (hi : Inv ι S T [] w (Free.above 0)) : CallOK Tryz.prog 247 #[.string ⟨s.toArray⟩, .int .u8 c] w (Back ι S T [] w (.int .i64 (Lib.indexByte s c.toNat.toUInt8)) []) := by
  refine extern_ok hi Tryz.func247 (by kernel_rfl) (by kernel_rfl) (by kernel_rfl) (x := Extern.BytealgIndexByte.indexByte) (by kernel_rfl) (Lib.run_indexByteString _ _ _) fun _ _ _ _ => ?_
  have htl : (ByteArray.mk s.toArray).data.toList = s := by simp
  rw [htl]
  exact .int _ _
theorem cmp_ok {s t : List UInt8} (hi : Inv ι S T [] w (Free.above 0)) : CallOK Tryz.prog 211 #[.string ⟨s.toArray⟩, .string ⟨t.toArray⟩] w (Back ι S T [] w (.int .i64 (Lib.compareBytes s t)) []) := by
  refine extern_ok hi Tryz.func211 (by kernel_rfl) (by kernel_rfl) (by kernel_rfl) (x := Extern.BytealgCompare.compare) (by kernel_rfl) (Lib.run_compareString _ _ _) fun _ _ _ _ => ?_
  have h1 : (ByteArray.mk s.toArray).data.toList = s := by simp
  have h2 : (ByteArray.mk t.toArray).data.toList = t := by simp
  rw [h1, h2]
  exact .int _ _
theorem bytesOf_some : ∀ {es : List AVal} {l : List UInt8}, bytesOf es = some l → ∃ xs : List Int, es = xs.map (.int .u8 ·) ∧ l = xs.map fun n => UInt8.ofNat n.toNat
  | [], l, h => by
    simp [bytesOf] at h
    exact ⟨[], rfl, h⟩
  | e :: r, l, h => by
    unfold bytesOf at h
    split at h <;> try (simp at h; done)
    · rename_i heq
      cases heq
    · rename_i n r' heq
      cases heq
      obtain ⟨l', h1, rfl⟩ := map_some h
      obtain ⟨xs, h2, h3⟩ := bytesOf_some h1
      exact ⟨n :: xs, by simp [h2], by simp [h3]⟩
theorem indexB_ok {es : List AVal} {l : List UInt8} {c : Int} {cl tm : Bool} {v : Value} (hi : Inv ι S T [] w (Free.above 0)) (hb : bytesOf es = some l) (hv : Rep ι S T w (.view 1 es cl tm) v) : CallOK Tryz.prog 228 #[v, .int .u8 c] w (Back ι S T [] w (.int .i64 (Lib.indexByte l c.toNat.toUInt8)) []) := by
  obtain ⟨xs, rfl, rfl⟩ := bytesOf_some hb
  obtain ⟨b, o, q, sp, vs, rfl, hsp, h1, h2, h3, h4, h5, h6, h7⟩ := hv.view_inv
  have hrun : (Extern.BytealgIndexByte.indexByte #[.slice (some ⟨b, o, sp⟩) (xs.map (AVal.int .u8 ·)).length q, .int .u8 c]).run Tryz.prog w = .ok (.int .i64 (Lib.indexByte (Lib.bytesOf xs) c.toNat.toUInt8)) w := by
    rcases hsp with rfl | rfl
    · exact Lib.run_indexByteSlice (P := Tryz.prog) (w := w) b o (xs.map (AVal.int .u8 ·)).length q xs (by simp) (fun i hil => by
        have hl : i < xs.length := by simpa using hil
        have e1 : (xs.map (AVal.int .u8 ·))[i]? = some (.int .u8 xs[i]) := by simp [hl]
        have e2 := h6 i _ 0 (.int .u8 xs[i]) e1 rfl
        have e3 := h7 i _ 0 (.int .u8 xs[i]) e1 rfl
        have e4 : xs.getD i 0 = xs[i] := by simp [List.getD, hl]
        rw [e4, ← e3.int_inv]
        simpa using e2) c
    · obtain rfl : xs = [] := List.eq_nil_of_length_eq_zero (by simpa using h1)
      exact Lib.run_indexByteString (P := Tryz.prog) .empty c w
  refine extern_ok hi Tryz.func228 (by kernel_rfl) (by kernel_rfl) (by kernel_rfl) (x := Extern.BytealgIndexByte.indexByte) (by kernel_rfl) hrun fun _ _ _ _ => ?_
  have : Lib.bytesOf xs = xs.map fun n => UInt8.ofNat n.toNat := rfl
  rw [this]
  exact .int _ _
theorem indexN_ok {c : Int} (hi : Inv ι S T [] w (Free.above 0)) : CallOK Tryz.prog 228 #[.slice none 0 0, .int .u8 c] w (Back ι S T [] w (.int .i64 (-1)) []) :=
  extern_ok hi Tryz.func228 (by kernel_rfl) (by kernel_rfl) (by kernel_rfl) (x := Extern.BytealgIndexByte.indexByte) (by kernel_rfl) (Lib.run_indexByteNil _ 0 0 c) fun _ _ _ _ => .int _ _

theorem one_arg {args : List AVal} {vals : Array Value} {a : AVal} (ha : args = [a]) (hl : args.length = vals.size) (hr : ∀ (i : Nat) (c : AVal) (v : Value), args[i]? = some c → vals[i]? = some v → Rep ι S T w c v) : ∃ v, vals = #[v] ∧ Rep ι S T w a v := by
  subst ha
  obtain ⟨l⟩ := vals
  match l, hl with
  | [v], _ => exact ⟨v, rfl, hr 0 a v rfl rfl⟩
theorem two_args {args : List AVal} {vals : Array Value} {a b : AVal} (ha : args = [a, b]) (hl : args.length = vals.size) (hr : ∀ (i : Nat) (c : AVal) (v : Value), args[i]? = some c → vals[i]? = some v → Rep ι S T w c v) : ∃ v u, vals = #[v, u] ∧ Rep ι S T w a v ∧ Rep ι S T w b u := by
  subst ha
  obtain ⟨l⟩ := vals
  match l, hl with
  | [v, u], _ => exact ⟨v, u, rfl, hr 0 a v rfl rfl, hr 1 b u rfl rfl⟩
theorem prim_ok {g : Nat} {p : List AVal → Option AVal} (hp : prims g = some p) {args : List AVal} (hr : p args = some r) (hg : GG S w) (hi : Inv ι S T [] w (Free.above 0)) {vals : Array Value} (hl : args.length = vals.size)
    (hv : ∀ (i : Nat) (c : AVal) (v : Value), args[i]? = some c → vals[i]? = some v → Rep ι S T w c v) : CallOK Tryz.prog g vals w (Back ι S T [] w r []) := by
  unfold prims at hp
  split at hp <;> simp only [Option.some.injEq, reduceCtorEq] at hp <;> subst hp
  · unfold itoaP at hr
    split at hr <;> try (simp at hr; done)
    split at hr <;> simp only [Option.some.injEq, reduceCtorEq] at hr
    subst hr
    rename_i n hn
    obtain ⟨v, rfl, h1⟩ := one_arg rfl hl hv
    rw [h1.int_inv]
    exact itoa_ok hg hi hn.1 hn.2
  · unfold atoiP at hr
    split at hr <;> try (simp at hr; done)
    split at hr <;> simp only [Option.some.injEq, reduceCtorEq] at hr
    subst hr
    rename_i s hn
    obtain ⟨v, rfl, h1⟩ := one_arg rfl hl hv
    rw [h1.str_inv]
    exact atoi_ok hg hi hn
  · unfold validP at hr
    split at hr <;> try (simp at hr; done)
    split at hr <;> simp only [Option.some.injEq, reduceCtorEq] at hr
    subst hr
    rename_i s hn
    obtain ⟨v, rfl, h1⟩ := one_arg rfl hl hv
    rw [h1.str_inv]
    exact valid_ok hg hi hn
  · unfold countP at hr
    split at hr <;> simp only [Option.some.injEq, reduceCtorEq] at hr
    subst hr
    obtain ⟨v, u, rfl, h1, h2⟩ := two_args rfl hl hv
    rw [h1.str_inv, h2.int_inv]
    exact count_ok hi
  · unfold indexP at hr
    split at hr <;> simp only [Option.some.injEq, reduceCtorEq] at hr
    subst hr
    obtain ⟨v, u, rfl, h1, h2⟩ := two_args rfl hl hv
    rw [h1.str_inv, h2.int_inv]
    exact index_ok hi
  · unfold indexBP at hr
    split at hr
    · obtain ⟨l, hb, rfl⟩ := map_some hr
      obtain ⟨v, u, rfl, h1, h2⟩ := two_args rfl hl hv
      rw [h2.int_inv]
      exact indexB_ok hi hb h1
    · simp only [Option.some.injEq] at hr
      subst hr
      obtain ⟨v, u, rfl, h1, h2⟩ := two_args rfl hl hv
      rw [h2.int_inv, h1.lit_inv]
      exact indexN_ok hi
    · simp at hr
  · unfold cmpP at hr
    split at hr <;> simp only [Option.some.injEq, reduceCtorEq] at hr
    subst hr
    obtain ⟨v, u, rfl, h1, h2⟩ := two_args rfl hl hv
    rw [h1.str_inv, h2.str_inv]
    exact cmp_ok hi
end
theorem names_ok : (Tryz.prog.funcs.all fun f => !(f.name == "runtime.NumGoroutine")) = true := by kernel_rfl
theorem aa_of : AA.Of gl0 Tryz.prog [58] GG := {
  mix := by kernel_rfl
  stable := gg_stable
  glob := fun S w _ g v h => by cases h
  fn := fun g afn h => by
    obtain ⟨fn, h1, h2⟩ := Option.bind_eq_some_iff.1 (show (Tryz.prog.funcs[g]?).bind (trFn gl0 Tryz.prog [58]) = some afn from h)
    refine ⟨fn, h1, ?_, h2⟩
    have hm := (Array.all_eq_true_iff_forall_mem.1 names_ok) fn (Array.mem_of_getElem? h1)
    simpa using hm
  prim := fun g p hp args r hr ι S T w vals hg hi hl hv => prim_ok hp hr hg hi hl hv }
end Go.Abs
/- FROM THE SMALL CODE's ANSWER TO THE CALL. -/
namespace Go.Abs
open Go.Proofs Go.RowKit
set_option maxRecDepth 100000
theorem law_calls {g : Nat} {fn : Func} (hf : Tryz.prog.funcs[g]? = some fn) (hb : fn.body.isSome = true) (hn : (fn.name == "runtime.NumGoroutine") = false) {args : List AVal} (hs : callT AA g args [] = some (.bool true, [])) {w : World} {vals : Array Value}
    (hG : GG (fun b => b < w.heap.size) w) (hl : args.length = vals.size) (hr : ∀ (i : Nat) (c : AVal) (v : Value), args[i]? = some c → vals[i]? = some v → Rep (fun _ => none) (fun b => b < w.heap.size) (fun _ => False) w c v) :
    Go.Calls Tryz.prog g vals w fun e w' => e = .returned (.bool true) ∧ Below w.heap.size w w' := by
  have hi : Inv (fun _ => none) (fun b => b < w.heap.size) (fun _ => False) [] w (Free.above 0) := ⟨by simp, by simp, by simp, fun _ _ => rfl, fun _ h => h, fun _ h => h.elim⟩
  have h := callT_sound aa_of g args [] (.bool true) [] hs _ _ _ w vals hG hi hl hr
  obtain ⟨c, hc⟩ := Option.isSome_iff_exists.1 hb
  have hrun : (callFunc g vals).run Tryz.prog w = .ok (.enter g vals) w := by
    have hn : ¬ fn.name = "runtime.NumGoroutine" := by simpa using hn
    simp [callFunc, hf, hn, hc]
  unfold CallOK at h
  rw [hrun] at h
  refine Go.Calls.mono h fun e w' he => ?_
  cases e with
  | returned v =>
    obtain ⟨ι', S', n', h1, h2, h3⟩ := he
    rw [h1.bool_inv]
    exact ⟨rfl, h3.os, h3.tape, h3.output, h3.size, fun k hk => h3.frame k hk fun ⟨e, he, _⟩ => by cases he⟩
  | panicked c => exact he.elim
  | outgrown => exact he.elim
end Go.Abs
/- WHAT THE ARGUMENTS STAND FOR: bytes, entries, lists of entries. -/
namespace Go.Abs
open Go.Proofs Go.RowKit Go.ChangeShapes Go.WideShapes Go.Deep
set_option maxRecDepth 100000
set_option linter.unusedSimpArgs false
/-- a value that is all old memory's -/
abbrev RepW (w : World) : AVal → Value → Prop := Rep (fun _ => none) (fun b => b < w.heap.size) (fun _ => False) w
section
variable {H : Type} {enc : TypeId × Value → H} {w : World} {n : Nat} {cs : List Value} {x : DataW H × List MemPlace}
theorem lt_of_cell {a : Addr} {v : Value} (h : w.cell? a = some v) : a.block < w.heap.size ∧ a.spot = none := by
  unfold World.cell? at h
  split at h
  · rename_i c e f hb
    refine ⟨(Array.getElem?_eq_some_iff.1 hb).1, ?_⟩
    cases hs : a.spot with
    | none => rfl
    | some k => rw [hs] at h; simp at h
  · cases h
theorem cell_add {b o i : Nat} {sp : Option Nat} {v : Value} (h : w.cell? ((⟨b, o, sp⟩ : Addr).add i) = some v) (hs : sp = none) : w.cell? ⟨b, o + i, none⟩ = some v := by
  subst hs
  rw [← h, Addr.add_none]
/-- no string, slice or map of it is larger than the reach -/
def Light (d : DataW H) (t : TypeId) : Prop := ∀ k ∈ d.weights Tryz.prog t, k ≤ reachBytes
theorem reach_eq : reachBytes = 140737488351232 := by decide
theorem str_of (hw : Light x.1 9) (h : DataW.trod enc Tryz.prog w 0 (fun _ => true) true n 9 cs = some x) : ∃ (l : List UInt8) (v : Value), cs = [v] ∧ RepW w (.str l) v ∧ l.length ≤ 140737488351232 := by
  obtain ⟨s, h1, hx, h2⟩ := DataW.trod_string Tryz.underlying9 h
  have hwl : s.data.toList.length ≤ 140737488351232 := by
    rw [← reach_eq]
    refine hw _ ?_
    rw [hx]
    simp [DataW.weights]
  refine ⟨s.data.toList, .string s, h1, ?_, hwl⟩
  · have := Rep.str (ι := fun _ => none) (S := fun b => b < w.heap.size) (T := fun _ => False) (w := w) s.data.toList
    simpa using this
theorem int_of (h : DataW.trod enc Tryz.prog w 0 (fun _ => true) true n 3 cs = some x) : ∃ (z : Int) (v : Value), cs = [v] ∧ RepW w (.int .i64 z) v ∧ -9223372036854775808 ≤ z ∧ z ≤ 9223372036854775807 := by
  obtain ⟨z, h1, _, h2⟩ := DataW.trod_int Tryz.underlying3 h
  simp only [Lit.wf, Bool.and_eq_true, decide_eq_true_eq] at h2
  exact ⟨z, _, h1, .int _ _, h2.1, h2.2⟩
theorem bytes_of (hw : Light x.1 26) (h : DataW.trod enc Tryz.prog w 0 (fun _ => true) true n 26 cs = some x) : ∃ (b : BS) (v : Value), cs = [v] ∧ RepW w b.av v ∧ b.isTmp = false ∧ b.l.length ≤ 140737488351232 := by
  rcases open_ints Tryz.underlying26 Tryz.underlying5 (by kernel_rfl) h with ⟨hcs, _⟩ | ⟨a, l, c, zs, hcs, _, hl, hm, hz, hx, hcell, hwz⟩
  · exact ⟨.nil, _, hcs, .lit _, rfl, by simp [BS.l]⟩
  · simp only [if_true] at hz
    have hwt : zs.length ≤ 140737488351232 := by
      have hb : Tryz.prog.bytesOf 5 = 1 := by kernel_rfl
      rw [← reach_eq]
      refine hw _ ?_
      rw [hx]
      simp only [DataW.weights, Tryz.underlying26, hb, lits, List.length_map, List.length_take, List.length_drop]
      refine List.mem_cons.2 (.inl ?_)
      omega
    have hw : ∀ i, i < zs.length → 0 ≤ zs.getD i 0 ∧ zs.getD i 0 ≤ 255 := by
      intro i hi
      have := hwz (zs.getD i 0) (by rw [List.getD, List.getElem?_eq_getElem hi]; exact List.getElem_mem hi)
      simpa [Lit.wf, IntKind.min, IntKind.max, IntKind.signed, IntKind.bits] using this
    obtain ⟨b, o, sp⟩ := a
    have hsp : sp = none ∨ c = 0 := by
      rcases Nat.eq_zero_or_pos c with h0 | h0
      · exact .inr h0
      · exact .inl (by simpa [Addr.add] using (lt_of_cell (hcell 0 (by omega))).2)
    let bs := (zs.take l).map fun z => UInt8.ofNat z.toNat
    have hlen : bs.length = l := by simp [bs]; omega
    have hget : ∀ (i : Nat) (e : AVal), (bs.map AVal.byte)[i]? = some e → i < l ∧ e = .int .u8 (zs.getD i 0) := by
      intro i e he
      have hi : i < l := by
        have := (List.getElem?_eq_some_iff.1 he).1
        simpa [hlen] using this
      refine ⟨hi, ?_⟩
      have hiz : i < zs.length := by omega
      have e1 : zs[i]? = some zs[i] := List.getElem?_eq_getElem hiz
      have e2 : zs.getD i 0 = zs[i] := by rw [List.getD, e1]; rfl
      have hb := hw i hiz
      rw [e2] at hb ⊢
      have e3 : (bs.map AVal.byte)[i]? = some (AVal.byte (UInt8.ofNat zs[i].toNat)) := by
        simp only [bs, List.getElem?_map, List.getElem?_take, hi, if_true, e1, Option.map_some]
      rw [e3] at he
      cases he
      unfold AVal.byte
      congr 1
      simp
      omega
    have hcl : ∀ i, i < zs.length → w.cell? ⟨b, o + i, none⟩ = some (.int .u8 (zs.getD i 0)) := by
      intro i hi
      refine cell_add (hcell i hi) ?_
      rcases hsp with h | h
      · exact h
      · omega
    have hcl1 : ∀ i, i < zs.length → w.cell? ⟨b, o + i * 1, none⟩ = some (.int .u8 (zs.getD i 0)) := by
      intro i hi
      rw [Nat.mul_one]
      exact hcl i hi
    have := Rep.view (ι := fun _ => none) (S := fun b => b < w.heap.size) (T := fun _ => False) (w := w) 1 (bs.map AVal.byte) false false b o c sp (fun i _ => .int .u8 (zs.getD i 0)) hsp (by simp [hlen]; omega) (by simp)
      (fun i e he => by
        obtain ⟨hi, rfl⟩ := hget i e he
        exact (lt_of_cell (hcl i (by omega))).1)
      (fun i e he => by
        obtain ⟨hi, rfl⟩ := hget i e he
        rfl)
      (fun i e he => by
        obtain ⟨hi, rfl⟩ := hget i e he
        rfl)
      (fun i e j y he hy => by
        obtain ⟨hi, rfl⟩ := hget i e he
        match j, hy with
        | 0, _ => exact hcl1 i (by omega)
        | j + 1, hy => simp [AVal.cells] at hy)
      (fun i e j y he hy => by
        obtain ⟨hi, rfl⟩ := hget i e he
        match j, hy with
        | 0, hy =>
          simp [AVal.cells] at hy
          subst hy
          exact .int _ _
        | j + 1, hy => simp [AVal.cells] at hy)
    refine ⟨.mk false false bs, _, hcs, ?_, rfl, ?_⟩
    · rw [List.length_map, hlen] at this
      exact this
    · simp only [BS.l, hlen]
      omega
structure EntW (e : Ent) : Prop where
  kind : -9223372036854775808 ≤ e.kind ∧ e.kind ≤ 9223372036854775807
  mode : -9223372036854775808 ≤ e.mode ∧ e.mode ≤ 9223372036854775807
  uid : -9223372036854775808 ≤ e.uid ∧ e.uid ≤ 9223372036854775807
  gid : -9223372036854775808 ≤ e.gid ∧ e.gid ≤ 9223372036854775807
  time : -9223372036854775808 ≤ e.time ∧ e.time ≤ 9223372036854775807
  path : e.path.length ≤ 140737488351232
  link : e.link.length ≤ 140737488351232
  data : e.data.l.length ≤ 140737488351232
  tmp : e.data.isTmp = false
theorem ent_of (hw : Light x.1 36) (h : DataW.trod enc Tryz.prog w 0 (fun _ => true) true n 36 cs = some x) : ∃ e : Ent, cs.length = 8 ∧ EntW e ∧ ∀ (j : Nat) (c : AVal) (v : Value), e.av.cells[j]? = some c → cs[j]? = some v → RepW w c v := by
  obtain ⟨xs, m, _, hx, hl, hxl, hf⟩ := DataW.trod_struct Tryz.underlying36 h
  have h8 : Tryz.prog.cellsOf 36 = 8 := by kernel_rfl
  have h9 : Tryz.prog.cellsOf 9 = 1 := by kernel_rfl
  have h3 : Tryz.prog.cellsOf 3 = 1 := by kernel_rfl
  have h26 : Tryz.prog.cellsOf 26 = 1 := by kernel_rfl
  rw [h8] at hl
  match cs, hl, xs, hxl with
  | [c0, c1, c2, c3, c4, c5, c6, c7], _, [y0, y1, y2, y3, y4, y5, y6, y7], _ =>
    have hws : (DataW.agg [y0.1, y1.1, y2.1, y3.1, y4.1, y5.1, y6.1, y7.1] : DataW H).weights Tryz.prog 36 = y0.1.weights Tryz.prog 9 ++ (y1.1.weights Tryz.prog 3 ++ (y2.1.weights Tryz.prog 3 ++ (y3.1.weights Tryz.prog 3 ++ (y4.1.weights Tryz.prog 3 ++ (y5.1.weights Tryz.prog 3 ++ (y6.1.weights Tryz.prog 9 ++ (y7.1.weights Tryz.prog 26 ++ []))))))) := by
      simp only [DataW.weights, Tryz.underlying36, List.map_cons, List.map_nil, DataW.weightsEach]
    have hw8 : ∀ k ∈ y0.1.weights Tryz.prog 9 ++ (y1.1.weights Tryz.prog 3 ++ (y2.1.weights Tryz.prog 3 ++ (y3.1.weights Tryz.prog 3 ++ (y4.1.weights Tryz.prog 3 ++ (y5.1.weights Tryz.prog 3 ++ (y6.1.weights Tryz.prog 9 ++ (y7.1.weights Tryz.prog 26 ++ []))))))), k ≤ reachBytes := by
      rw [← hws]
      intro k hk
      refine hw k ?_
      rw [hx]
      exact hk
    have w0 : Light y0.1 9 := fun k hk => hw8 k (by simp [hk])
    have w6 : Light y6.1 9 := fun k hk => hw8 k (by simp [hk])
    have w7 : Light y7.1 26 := fun k hk => hw8 k (by simp [hk])
    have g0 := hf 0 _ rfl
    have g1 := hf 1 _ rfl
    have g2 := hf 2 _ rfl
    have g3 := hf 3 _ rfl
    have g4 := hf 4 _ rfl
    have g5 := hf 5 _ rfl
    have g6 := hf 6 _ rfl
    have g7 := hf 7 _ rfl
    simp only [h9, h3, h26, List.drop_zero, List.drop_succ_cons, List.take_succ_cons, List.take_zero, List.getElem?_cons_zero, List.getElem?_cons_succ] at g0 g1 g2 g3 g4 g5 g6 g7
    obtain ⟨p, v0, e0, r0, b0⟩ := str_of w0 g0
    obtain ⟨k, v1, e1, r1, b1⟩ := int_of g1
    obtain ⟨md, v2, e2, r2, b2⟩ := int_of g2
    obtain ⟨u, v3, e3, r3, b3⟩ := int_of g3
    obtain ⟨gd, v4, e4, r4, b4⟩ := int_of g4
    obtain ⟨t, v5, e5, r5, b5⟩ := int_of g5
    obtain ⟨lk, v6, e6, r6, b6⟩ := str_of w6 g6
    obtain ⟨d, v7, e7, r7, b7, b8⟩ := bytes_of w7 g7
    cases e0; cases e1; cases e2; cases e3; cases e4; cases e5; cases e6; cases e7
    refine ⟨⟨p, k, md, u, gd, t, lk, d⟩, rfl, ⟨b1, b2, b3, b4, b5, b0, b6, b8, b7⟩, fun j c v hc hv => ?_⟩
    match j, hc, hv with
    | 0, hc, hv => cases hc; cases hv; exact r0
    | 1, hc, hv => cases hc; cases hv; exact r1
    | 2, hc, hv => cases hc; cases hv; exact r2
    | 3, hc, hv => cases hc; cases hv; exact r3
    | 4, hc, hv => cases hc; cases hv; exact r4
    | 5, hc, hv => cases hc; cases hv; exact r5
    | 6, hc, hv => cases hc; cases hv; exact r6
    | 7, hc, hv => cases hc; cases hv; exact r7
    | j + 8, hc, hv => cases hv
/-- an entry, by value -/
theorem entArg_of {v : Value} {d : DataW H} {p : List MemPlace} {r : Reach} {b0 : Nat} (hw : Light d 36) (hv : Value.okWide Tryz.prog w r b0 36 v) (h : DataW.Trod enc Tryz.prog w 0 (fun _ => true) true 36 v d p) : ∃ e : Ent, EntW e ∧ RepW w e.av v := by
  obtain ⟨cs, rfl, hsz⟩ := okWide_struct Tryz.underlying36 hv
  obtain ⟨m, hm⟩ := h
  obtain ⟨e, h1, h2, h3⟩ := ent_of hw hm
  refine ⟨e, h2, .agg _ _ ?_ fun i c v hc hv => h3 i c v hc (by simpa [Value.cells] using hv)⟩
  simp [Value.cells] at h1
  simp [h1]
instance : Inhabited Ent := ⟨⟨[], 0, 0, 0, 0, 0, [], .nil⟩⟩
/-- a list of entries: nil, or a row -/
def esAv : Option (List Ent) → AVal
  | none => .lit (.slice none 0 0)
  | some t => .view 8 (t.map Ent.av) false false
def esL : Option (List Ent) → List Ent
  | none => []
  | some t => t
theorem weightsAll_mem : ∀ (l : List (DataW H)) (t : TypeId) (d : DataW H), d ∈ l → ∀ k ∈ d.weights Tryz.prog t, k ∈ DataW.weightsAll Tryz.prog t l
  | [], _, d, hd => by cases hd
  | a :: r, t, d, hd => by
    intro k hk
    simp only [DataW.weightsAll, List.mem_append]
    rcases List.mem_cons.1 hd with rfl | hd
    · exact .inl hk
    · exact .inr (weightsAll_mem r t d hd k hk)
theorem ents_of (hw : Light x.1 22) (h : DataW.trod enc Tryz.prog w 0 (fun _ => true) true n 22 cs = some x) : ∃ (t : Option (List Ent)) (v : Value), cs = [v] ∧ RepW w (esAv t) v ∧ (∀ e ∈ esL t, EntW e) ∧ (esL t).length ≤ 140737488351232 := by
  rcases open_slice Tryz.underlying22 h with ⟨hcs, _⟩ | ⟨a, len, cap, m, n', D, Pl, hcs, _, hl, hm, hmm, hx, hi⟩
  · exact ⟨none, _, hcs, .lit _, by simp [esL], by simp [esL]⟩
  · have h8 : Tryz.prog.cellsOf 36 = 8 := by kernel_rfl
    simp only [if_true] at hmm
    subst hmm
    rw [h8] at hi
    have hb : Tryz.prog.bytesOf 36 = 96 := by kernel_rfl
    have hws : x.1.weights Tryz.prog 22 = (((List.range len).map D).length + ((List.range (m - len)).map fun j => D (len + j)).length) * 96 :: (DataW.weightsAll Tryz.prog 36 ((List.range len).map D) ++ DataW.weightsAll Tryz.prog 36 ((List.range (m - len)).map fun j => D (len + j))) := by
      rw [hx]
      simp only [DataW.weights, Tryz.underlying22, hb]
    have hm96 : m * 96 ≤ 140737488351232 := by
      rw [← reach_eq]
      refine hw _ ?_
      rw [hws]
      simp only [List.length_map, List.length_range]
      refine List.mem_cons.2 (.inl ?_)
      congr 1
      omega
    have hwD : ∀ i, i < m → Light (D i) 36 := by
      intro i him k hk
      refine hw k ?_
      rw [hws]
      refine List.mem_cons.2 (.inr (List.mem_append.2 ?_))
      by_cases hil : i < len
      · exact .inl (weightsAll_mem _ _ _ (List.mem_map.2 ⟨i, List.mem_range.2 hil, rfl⟩) k hk)
      · refine .inr (weightsAll_mem _ _ (D i) (List.mem_map.2 ⟨i - len, List.mem_range.2 (by omega), ?_⟩) k hk)
        show D (len + (i - len)) = D i
        congr 1
        omega
    obtain ⟨V, hV⟩ := choose_lt (α := Ent × List Value) (n := m) (p := fun i z => w.cells? 0 (a.add (i * 8)) 8 = some z.2 ∧ z.2.length = 8 ∧ EntW z.1 ∧ ∀ (j : Nat) (c : AVal) (v : Value), z.1.av.cells[j]? = some c → z.2[j]? = some v → RepW w c v) (fun i him => by
      obtain ⟨cs', h1, h2⟩ := hi i him
      obtain ⟨e, e1, e2, e3⟩ := ent_of (hwD i him) h2
      exact ⟨(e, cs'), h1, e1, e2, e3⟩)
    obtain ⟨b, o, sp⟩ := a
    have hsp : sp = none ∨ m = 0 := by
      rcases Nat.eq_zero_or_pos m with h0 | h0
      · exact .inr h0
      · obtain ⟨h1, h2, _⟩ := hV 0 h0
        obtain ⟨_, _, h3⟩ := World.cells?_some h1
        have h4 := h3 0 (by omega)
        rw [List.getElem?_eq_getElem (by omega)] at h4
        exact .inl (by simpa [Addr.add] using (lt_of_cell h4).2)
    let t := (List.range len).map fun i => (V i).1
    have hlen : t.length = len := by simp [t]
    have hget : ∀ (i : Nat) (e : AVal), (t.map Ent.av)[i]? = some e → i < len ∧ e = (V i).1.av := by
      intro i e he
      have hi : i < len := by
        have := (List.getElem?_eq_some_iff.1 he).1
        simpa [hlen] using this
      refine ⟨hi, ?_⟩
      simp [t, hi] at he
      exact he.symm
    have hcell : ∀ (i j : Nat), i < len → j < 8 → w.cell? ⟨b, o + i * 8 + j, none⟩ = some ((V i).2.getD j undef) := by
      intro i j hi hj
      obtain ⟨h1, h2, _⟩ := hV i (by omega)
      obtain ⟨_, _, h3⟩ := World.cells?_some h1
      have h4 := h3 j hj
      have hs : sp = none := by
        rcases hsp with h | h
        · exact h
        · omega
      subst hs
      rw [Addr.add_none, Addr.add_none] at h4
      rw [h4, List.getD, List.getElem?_eq_getElem (by omega)]
      rfl
    have hcn : ∀ e : Ent, e.av.cells.length = 8 := fun _ => rfl
    have := Rep.view (ι := fun _ => none) (S := fun b => b < w.heap.size) (T := fun _ => False) (w := w) 8 (t.map Ent.av) false false b o m sp (fun i j => (V i).2.getD j undef) hsp (by simp [hlen]; omega) (by simp)
      (fun i e he => by
        obtain ⟨hi, rfl⟩ := hget i e he
        exact (lt_of_cell (hcell i 0 hi (by omega))).1)
      (fun i e he => by
        obtain ⟨hi, rfl⟩ := hget i e he
        rfl)
      (fun i e he => by
        obtain ⟨hi, rfl⟩ := hget i e he
        have ht := (hV i (by omega)).2.2.1.tmp
        have hf : (V i).1.data.av.flat = true := by rw [flat_bs, ht]; rfl
        simp only [AVal.closed, cells_ent, List.all_cons, List.all_nil, flat_str, flat_int, hf, Bool.and_true])
      (fun i e j y he hy => by
        obtain ⟨hi, rfl⟩ := hget i e he
        have hj : j < 8 := by
          have := (List.getElem?_eq_some_iff.1 hy).1
          rwa [hcn] at this
        exact hcell i j hi hj)
      (fun i e j y he hy => by
        obtain ⟨hi, rfl⟩ := hget i e he
        have hj : j < 8 := by
          have := (List.getElem?_eq_some_iff.1 hy).1
          rwa [hcn] at this
        obtain ⟨_, h2, _, h4⟩ := hV i (by omega)
        refine h4 j y _ hy ?_
        rw [List.getD, List.getElem?_eq_getElem (by omega)]
        rfl)
    refine ⟨some t, _, hcs, ?_, ?_, ?_⟩
    · rw [List.length_map, hlen] at this
      exact this
    · intro e he
      simp only [esL, t, List.mem_map, List.mem_range] at he
      obtain ⟨i, hi, rfl⟩ := he
      exact (hV i (by omega)).2.2.1
    · simp only [esL, hlen]
      omega
end
end Go.Abs
/- PLAIN: lists that are not large; what arguments' bounds are good for. -/
namespace Go.Abs
open Am
set_option maxRecDepth 10000
set_option linter.unusedSimpArgs false
theorem large_small : ∀ (t : List Ent) (n : Int), 0 ≤ n → largeB n t = false → n + 512 * t.length ≤ 65536 + (if t = [] then n else 0) ∧ ∀ e ∈ t, e.data.l.length ≤ 65536 ∧ e.path.length ≤ 65536 ∧ e.link.length ≤ 65536
  | [], n, _, _ => by simp; omega
  | e :: t, n, h0, h => by
    unfold largeB at h
    by_cases hc : 65536 < n + (512 + (e.data.l.length : Int) + e.path.length + e.link.length)
    · rw [if_pos hc] at h; cases h
    rw [if_neg hc] at h
    obtain ⟨h1, h2⟩ := large_small t _ (by omega) h
    refine ⟨?_, fun x hx => ?_⟩
    · simp only [List.length_cons, reduceCtorEq, if_false]
      split at h1
      · rename_i ht
        subst ht
        simp
        omega
      · omega
    · rcases List.mem_cons.1 hx with rfl | hx
      · omega
      · exact h2 x hx
theorem large_len {t : List Ent} (h : largeB 0 t = false) : t.length ≤ 128 := by
  have := (large_small t 0 (by omega) h).1
  split at this <;> omega
theorem entL_of {e : Ent} (h : EntW e) : EntL e := ⟨h.path, h.link, h.data⟩
theorem entOk_of {e : Ent} (h : EntW e) (h1 : e.data.l.length ≤ 65536 ∧ e.path.length ≤ 65536 ∧ e.link.length ≤ 65536) : EntOk e := ⟨by omega, by omega, by omega, h.tmp⟩
end Go.Abs
