import Derived.Test.YtambgnjkakdoeaaGreatDoorArchives7
import Derived.Lib.TrimAscii
import Derived.Lib.TrimUEq
/- PART OF A PROOF (texts joined by a program): B15 F2 F3 F4 F5 F6 F7 F8 F9 F10. -/
set_option linter.unusedVariables false
set_option linter.unusedSimpArgs false
set_option linter.unusedSectionVars false
namespace Go.Abs
def b83 : AFn := ⟨1, 37, [(2, (some (8, true))), (3, none)], (.seq (rg [oo 1 (.box (.t 0)), oo 2 (.alloc [(.str []), (.int .i64 0), (.int .i64 0), (.int .i64 0), (.int .i64 0), (.int .i64 0), (.str []), (.lit (.slice none 0 0))]), oo 3 (.mov (.c (.lit .nilIface)))]) (.seq (rg [oo 7 (.fa 0 (.t 1)), oo 8 (.ld 1 false (.t 7)), cl 9 128 [(.t 8)], mv 6 9, oo 10 (.ext (.t 6) 0), oo 11 (.ext (.t 6) 1), mv 4 10, mv 5 11]) (.seq (.seq (rg [mv 12 5, oo 13 (.bin .neq (.iface [58]) true (.t 12) (.c (.lit .nilIface)))]) (.cond (.t 13) (.seq (rg [oo 14 (.ld 8 true (.t 1)), mv 15 5, ⟨none, (.st 8 (.t 2) (.t 14)), none⟩, mv 3 15]) .ret) .skip)) (.seq (rg [mv 16 4, oo 17 (.fa 0 (.t 1)), ⟨none, (.st 1 (.t 17) (.t 16)), none⟩]) (.seq (.seq (rg [oo 18 (.fa 1 (.t 1)), oo 19 (.ld 1 false (.t 18)), oo 20 (.bin .eql .other true (.t 19) (ci 4))]) (.cond (.t 20) (.seq (rg [oo 22 (.fa 6 (.t 1)), oo 23 (.ld 1 false (.t 22)), cl 24 128 [(.t 23)], mv 21 24, oo 25 (.ext (.t 21) 0), oo 26 (.ext (.t 21) 1), oo 27 (.fa 6 (.t 1)), ⟨none, (.st 1 (.t 27) (.t 25)), none⟩, mv 5 26]) (.seq (rg [mv 28 5, oo 29 (.bin .neq (.iface [58]) true (.t 28) (.c (.lit .nilIface)))]) (.cond (.t 29) (.seq (rg [oo 30 (.ld 8 true (.t 1)), mv 31 5, ⟨none, (.st 8 (.t 2) (.t 30)), none⟩, mv 3 31]) .ret) .skip))) .skip)) (.seq (rg [oo 32 (.fa 7 (.t 1)), oo 33 (.ld 1 false (.t 32)), cl 34 101 [(.t 33)], oo 35 (.fa 7 (.t 1)), ⟨none, (.st 1 (.t 35) (.t 34)), none⟩]) (.seq (rg [oo 36 (.ld 8 true (.t 1)), ⟨none, (.st 8 (.t 2) (.t 36)), none⟩, oo 3 (.mov (.c (.lit .nilIface)))]) .ret)))))))⟩
theorem fn83 : AA.fn 83 = some b83 := by kernel_rfl
def l49_0 : ACode := (.seq (.seq (rg [mv 59 12, mv 60 4, oo 61 (.len 1 (.t 60)), oo 62 (.bin .lss .other false (.t 59) (.t 61))]) (.cond (.t 62) .skip (.exit 4))) (.seq (.block 5 (.seq (rg [mv 66 4, mv 67 12, oo 68 (.ixa 8 (.t 66) (.t 67)), oo 69 (.fa 0 (.t 68)), oo 70 (.ld 1 false (.t 69)), cl 71 84 [(.t 70)], mv 65 71, oo 72 (.ext (.t 65) 0), oo 73 (.ext (.t 65) 1), mv 13 72, mv 14 73]) (.seq (rg [mv 74 14, mv 75 74, og 76 (.mov (.t 9)) 75 true, og 77 (.mov (.t 13)) 75 true, og 78 (.look 0 (.int .i64 0) (.t 76) (.t 77) false) 75 true, og 79 (.bin .eql .other true (.t 78) (ci 0)) 75 true, oo 80 (.pick (.t 75) (.t 79) (.c (.bool false)))]) (.cond (.t 80) (.seq (rg [mv 81 9, mv 82 13, oo 83 (.look 0 (.int .i64 0) (.t 81) (.t 82) false), oo 84 (.bin .add .other true (.t 83) (ci 1)), ⟨none, (.mupd 0 (.t 81) (.t 82) (.t 84)), none⟩]) (rg [mv 85 4, mv 86 13, oo 87 (.build [(.str []), (.int .i64 0), (.int .i64 0), (.int .i64 0), (.int .i64 0), (.int .i64 0), (.str []), (.lit (.slice none 0 0))] [(0, (1, (.t 86))), (1, (1, (ci 1))), (2, (1, (ci 493)))]), oo 88 (.bslice 8 1 [(.str []), (.int .i64 0), (.int .i64 0), (.int .i64 0), (.int .i64 0), (.int .i64 0), (.str []), (.lit (.slice none 0 0))] [(.t 87)]), oo 89 (.app 96 8 (.t 85) (.t 88)), mv 4 89])) .skip)))) (rg [mv 63 12, oo 64 (.bin .add .other true (.t 63) (ci 1)), mv 12 64])))
def l49_1 : ACode := (.seq (rg [oo 44 (.bin .lss .other false (.t 43) (.t 42))]) (.seq (.cond (.t 44) .skip (.exit 2)) (.seq (.block 3 (.seq (rg [oo 45 (.ixa 8 (.t 41) (.t 43)), oo 46 (.ld 8 true (.t 45)), oo 11 (.alloc [(.str []), (.int .i64 0), (.int .i64 0), (.int .i64 0), (.int .i64 0), (.int .i64 0), (.str []), (.lit (.slice none 0 0))]), ⟨none, (.st 8 (.t 11) (.t 46)), none⟩]) (.seq (.seq (rg [mv 47 9, oo 48 (.fa 0 (.t 11)), oo 49 (.ld 1 false (.t 48)), oo 50 (.look 0 (.int .i64 0) (.t 47) (.t 49) false), oo 51 (.bin .gtr .other true (.t 50) (ci 0))]) (.cond (.t 51) (.seq (rg [oo 52 (.mkif 58 (ci 13)), oo 2 (.mov (.c (.lit (.slice none 0 0)))), mv 3 52]) .ret) .skip)) (rg [mv 53 9, oo 54 (.fa 0 (.t 11)), oo 55 (.ld 1 false (.t 54)), oo 56 (.look 0 (.int .i64 0) (.t 53) (.t 55) false), oo 57 (.bin .add .other true (.t 56) (ci 1)), ⟨none, (.mupd 0 (.t 53) (.t 55) (.t 57)), none⟩])))) (rg [oo 58 (.bin .add .other true (.t 43) (ci 1)), mv 43 58]))))
def l49_2 : ACode := (.seq (rg [oo 24 (.bin .lss .other false (.t 23) (.t 22))]) (.seq (.cond (.t 24) .skip (.exit 0)) (.seq (.block 1 (.seq (rg [oo 25 (.ixa 8 (.t 21) (.t 23)), oo 26 (.ld 8 true (.t 25)), oo 6 (.alloc [(.str []), (.int .i64 0), (.int .i64 0), (.int .i64 0), (.int .i64 0), (.int .i64 0), (.str []), (.lit (.slice none 0 0))]), ⟨none, (.st 8 (.t 6) (.t 26)), none⟩]) (.seq (rg [oo 28 (.ld 8 true (.t 6)), cl 29 83 [(.t 28)], mv 27 29, oo 30 (.ext (.t 27) 0), oo 31 (.ext (.t 27) 1), oo 7 (.alloc [(.str []), (.int .i64 0), (.int .i64 0), (.int .i64 0), (.int .i64 0), (.int .i64 0), (.str []), (.lit (.slice none 0 0))]), ⟨none, (.st 8 (.t 7) (.t 30)), none⟩, mv 8 31]) (.seq (.seq (rg [mv 32 8, oo 33 (.bin .neq (.iface [58]) true (.t 32) (.c (.lit .nilIface)))]) (.cond (.t 33) (.seq (rg [mv 34 8, oo 2 (.mov (.c (.lit (.slice none 0 0)))), mv 3 34]) .ret) .skip)) (rg [mv 35 4, oo 36 (.ld 8 true (.t 7)), oo 37 (.bslice 8 1 [(.str []), (.int .i64 0), (.int .i64 0), (.int .i64 0), (.int .i64 0), (.int .i64 0), (.str []), (.lit (.slice none 0 0))] [(.t 36)]), oo 38 (.app 96 8 (.t 35) (.t 37)), mv 4 38]))))) (rg [oo 39 (.bin .add .other true (.t 23) (ci 1)), mv 23 39]))))
def r49_0 : ACode := (.seq (rg [mv 90 4, oo 91 (.call (.c (.func (.func 85) [])) [(.t 90), (.c (.func (.func 86) []))])]) (.seq (.seq (rg [mv 93 4, cl 94 31 [(.t 93)], mv 92 94, oo 95 (.ext (.t 92) 0), oo 96 (.ext (.t 92) 1), mv 15 95, mv 16 96]) (.seq (rg [mv 97 16, oo 98 (.bin .neq (.iface [58]) true (.t 97) (.c (.lit .nilIface)))]) (.cond (.t 98) (.seq (rg [mv 99 16, oo 2 (.mov (.c (.lit (.slice none 0 0)))), mv 3 99]) .ret) .skip))) (.seq (rg [mv 100 4, mv 2 100, oo 3 (.mov (.c (.lit .nilIface)))]) .ret)))
def r49_1 : ACode := (.seq (.seq (rg [oo 12 (.mov (ci 0))]) (.block 4 (.loop [2, 3, 4, 9, 12] l49_0))) r49_0)
def r49_2 : ACode := (.seq (rg [⟨(some 40), .mkmap, none⟩, mv 9 40]) (.seq (.seq (rg [mv 41 4, oo 42 (.len 1 (.t 41)), oo 43 (.mov (ci 0))]) (.block 2 (.loop [2, 3, 4, 9, 41, 42, 43] l49_1))) r49_1))
def b49 : AFn := ⟨1, 101, [(2, none), (3, none)], (.seq (rg [oo 2 (.mov (.c (.lit (.slice none 0 0)))), oo 3 (.mov (.c (.lit .nilIface)))]) (.seq (.seq (rg [mv 17 0, oo 18 (.len 1 (.t 17)), oo 19 (.bin .gtr .other true (.t 18) (ci 200))]) (.cond (.t 19) (.seq (rg [oo 20 (.mkif 58 (ci 19)), oo 2 (.mov (.c (.lit (.slice none 0 0)))), mv 3 20]) .ret) .skip)) (.seq (rg [oo 4 (.mov (.c (.lit (.slice none 0 0))))]) (.seq (.seq (rg [mv 21 0, oo 22 (.len 1 (.t 21)), oo 23 (.mov (ci 0))]) (.block 0 (.loop [2, 3, 4, 21, 22, 23] l49_2))) r49_2))))⟩
theorem fn49 : AA.fn 49 = some b49 := by kernel_rfl
def l88_0 : ACode := (.seq (.seq (rg [mv 9 6, mv 10 4, oo 11 (.len 1 (.t 10)), oo 12 (.bin .lss .other false (.t 9) (.t 11))]) (.cond (.t 12) .skip (.exit 0))) (.seq (.block 1 (.seq (.seq (rg [mv 15 4, mv 16 6, oo 17 (.ixa 1 (.t 15) (.t 16)), oo 18 (.ld 1 false (.t 17)), oo 19 (.bin .eql .other true (.t 18) (.c (.str []))), mv 20 19, og 21 (.mov (.t 4)) 20 false, og 22 (.mov (.t 6)) 20 false, og 23 (.ixa 1 (.t 21) (.t 22)) 20 false, og 24 (.ld 1 false (.t 23)) 20 false, og 25 (.bin .eql .other true (.t 24) (.c (.str [46]))) 20 false, oo 26 (.pick (.t 20) (.c (.bool true)) (.t 25))]) (.cond (.t 26) (.exit 1) .skip)) (.seq (.seq (rg [mv 27 4, mv 28 6, oo 29 (.ixa 1 (.t 27) (.t 28)), oo 30 (.ld 1 false (.t 29)), oo 31 (.bin .neq .other true (.t 30) (.c (.str [46, 46])))]) (.cond (.t 31) (.seq (rg [mv 32 5, mv 33 4, mv 34 6, oo 35 (.ixa 1 (.t 33) (.t 34)), oo 36 (.ld 1 false (.t 35)), oo 37 (.bslice 1 1 [(.str [])] [(.t 36)]), oo 38 (.app 16 1 (.t 32) (.t 37)), mv 5 38]) (.exit 1)) .skip)) (.seq (.seq (rg [mv 39 5, oo 40 (.len 1 (.t 39)), oo 41 (.bin .eql .other true (.t 40) (ci 0))]) (.cond (.t 41) (.seq (rg [oo 2 (.mov (.c (.str []))), oo 3 (.mov (ci 12))]) .ret) .skip)) (rg [oo 42 (.bslice 1 0 [(.str [])] []), mv 43 5, mv 44 5, oo 45 (.len 1 (.t 44)), oo 46 (.bin .sub .other true (.t 45) (ci 1)), oo 47 (.slc 1 (.t 43) none (some (.t 46)) none), oo 48 (.app 16 1 (.t 42) (.t 47)), mv 5 48]))))) (rg [mv 13 6, oo 14 (.bin .add .other true (.t 13) (ci 1)), mv 6 14])))
def r88_0 : ACode := (.seq (rg [mv 49 5, cl 50 123 [(.t 49)], oo 51 (.ext (.t 50) 0), oo 52 (.ext (.t 50) 1), mv 2 51, mv 3 52]) .ret)
def b88 : AFn := ⟨1, 53, [(2, none), (3, none)], (.seq (rg [oo 2 (.mov (.c (.str []))), oo 3 (.mov (ci 0))]) (.seq (rg [mv 7 0, cl 8 125 [(.t 7)], mv 4 8]) (.seq (rg [oo 5 (.mov (.c (.lit (.slice none 0 0))))]) (.seq (.seq (rg [oo 6 (.mov (ci 0))]) (.block 0 (.loop [2, 3, 4, 5, 6] l88_0))) r88_0))))⟩
theorem fn88 : AA.fn 88 = some b88 := by kernel_rfl
theorem np88 : AA.prim 88 = none := rfl
def l89_0 : ACode := (.seq (.seq (rg [mv 8 7, mv 9 0, oo 10 (.len 1 (.t 9)), oo 11 (.bin .lss .other false (.t 8) (.t 10))]) (.cond (.t 11) .skip (.exit 0))) (.seq (.block 1 (.seq (.seq (.reg true [(4, 5), (4, 6), (4, 7), (4, 8), (3, 9), (4, 9)] [mv 14 6, oo 15 (.un .not (.t 14)), mv 16 15, og 17 (.fa 0 (.t 3)) 16 true, og 18 (.ld 1 false (.t 17)) 16 true, og 19 (.mov (.t 0)) 16 true, og 20 (.mov (.t 7)) 16 true, og 21 (.ixa 8 (.t 19) (.t 20)) 16 true, og 22 (.fa 0 (.t 21)) 16 true, og 23 (.ld 1 false (.t 22)) 16 true, og 24 (.call (.c (.func (.func 78) [])) [(.t 18), (.t 23)]) 16 true, og 25 (.bin .lss .other true (.t 24) (ci 0)) 16 true, oo 26 (.pick (.t 16) (.t 25) (.c (.bool false)))]) (.cond (.t 26) (.seq (rg [mv 27 5, oo 28 (.ld 8 true (.t 3)), oo 29 (.bslice 8 1 [(.str []), (.int .i64 0), (.int .i64 0), (.int .i64 0), (.int .i64 0), (.int .i64 0), (.str []), (.lit (.slice none 0 0))] [(.t 28)]), oo 30 (.app 96 8 (.t 27) (.t 29)), mv 5 30]) (rg [oo 6 (.mov (.c (.bool true)))])) .skip)) (rg [mv 31 5, mv 32 0, mv 33 7, oo 34 (.ixa 8 (.t 32) (.t 33)), oo 35 (.ld 8 true (.t 34)), oo 36 (.bslice 8 1 [(.str []), (.int .i64 0), (.int .i64 0), (.int .i64 0), (.int .i64 0), (.int .i64 0), (.str []), (.lit (.slice none 0 0))] [(.t 35)]), oo 37 (.app 96 8 (.t 31) (.t 36)), mv 5 37]))) (rg [mv 12 7, oo 13 (.bin .add .other true (.t 12) (ci 1)), mv 7 13])))
def r89_0 : ACode := (.seq (.seq (rg [mv 38 6, oo 39 (.un .not (.t 38))]) (.cond (.t 39) (rg [mv 40 5, oo 41 (.ld 8 true (.t 3)), oo 42 (.bslice 8 1 [(.str []), (.int .i64 0), (.int .i64 0), (.int .i64 0), (.int .i64 0), (.int .i64 0), (.str []), (.lit (.slice none 0 0))] [(.t 41)]), oo 43 (.app 96 8 (.t 40) (.t 42)), mv 5 43]) .skip)) (.seq (rg [mv 44 5, mv 4 44]) .ret))
def b89 : AFn := ⟨2, 45, [(4, none)], (.seq (rg [oo 3 (.box (.t 1)), oo 4 (.mov (.c (.lit (.slice none 0 0))))]) (.seq (rg [oo 5 (.mov (.c (.lit (.slice none 0 0))))]) (.seq (rg [oo 6 (.mov (.c (.bool false)))]) (.seq (.seq (rg [oo 7 (.mov (ci 0))]) (.block 0 (.loop [0, 3, 4, 5, 6, 7] l89_0))) r89_0))))⟩
theorem fn89 : AA.fn 89 = some b89 := by kernel_rfl
theorem np89 : AA.prim 89 = none := rfl
def l90_0 : ACode := (.seq (.seq (rg [mv 6 5, mv 7 0, oo 8 (.len 1 (.t 7)), oo 9 (.bin .lss .other false (.t 6) (.t 8))]) (.cond (.t 9) .skip (.exit 0))) (.seq (.block 1 (.seq (rg [mv 12 0, mv 13 5, oo 14 (.ixa 8 (.t 12) (.t 13)), oo 15 (.fa 0 (.t 14)), oo 16 (.ld 1 false (.t 15)), mv 17 1, oo 18 (.bin .eql .other false (.t 16) (.t 17))]) (.cond (.t 18) (.seq (rg [oo 4 (.mov (.c (.bool true)))]) .ret) .skip))) (rg [mv 10 5, oo 11 (.bin .add .other true (.t 10) (ci 1)), mv 5 11])))
def r90_0 : ACode := (.seq (rg [oo 4 (.mov (.c (.bool false)))]) .ret)
def b90 : AFn := ⟨2, 19, [(4, none)], (.seq (rg [oo 4 (.mov (.c (.bool false)))]) (.seq (.seq (rg [oo 5 (.mov (ci 0))]) (.block 0 (.loop [0, 1, 4, 5] l90_0))) r90_0))⟩
theorem fn90 : AA.fn 90 = some b90 := by kernel_rfl
theorem np90 : AA.prim 90 = none := rfl
def l50_0 : ACode := (.seq (.seq (rg [mv 78 12, mv 79 4, oo 80 (.len 1 (.t 79)), oo 81 (.bin .lss .other false (.t 78) (.t 80))]) (.cond (.t 81) .skip (.exit 6))) (.seq (.block 7 (.seq (rg [mv 85 4, mv 86 12, oo 87 (.ixa 8 (.t 85) (.t 86)), oo 88 (.fa 0 (.t 87)), oo 89 (.ld 1 false (.t 88)), cl 90 76 [(.t 89)], mv 84 90, oo 91 (.ext (.t 84) 0), oo 92 (.ext (.t 84) 1), mv 13 91, mv 14 92]) (.seq (rg [mv 93 14, mv 94 93, og 95 (.mov (.t 4)) 94 true, og 96 (.mov (.t 4)) 94 true, og 97 (.len 1 (.t 96)) 94 true, og 98 (.mov (.t 13)) 94 true, og 99 (.call (.c (.func (.func 79) [])) [(.t 95), (.t 97), (.t 98)]) 94 true, og 100 (.bin .eql .other true (.t 99) (ci 0)) 94 true, oo 101 (.pick (.t 94) (.t 100) (.c (.bool false))), mv 102 101, og 103 (.mov (.t 4)) 102 true, og 104 (.mov (.t 13)) 102 true, og 105 (.call (.c (.func (.func 90) [])) [(.t 103), (.t 104)]) 102 true, og 106 (.un .not (.t 105)) 102 true, oo 107 (.pick (.t 102) (.t 106) (.c (.bool false)))]) (.cond (.t 107) (.seq (rg [mv 108 4, mv 109 13, oo 110 (.build [(.str []), (.int .i64 0), (.int .i64 0), (.int .i64 0), (.int .i64 0), (.int .i64 0), (.str []), (.lit (.slice none 0 0))] [(0, (1, (.t 109))), (1, (1, (ci 1))), (2, (1, (ci 493)))]), cl 111 89 [(.t 108), (.t 110)], mv 4 111]) (.seq (rg [oo 11 (.mov (.c (.bool true)))]) (.exit 6))) .skip)))) (rg [mv 82 12, oo 83 (.bin .add .other true (.t 82) (ci 1)), mv 12 83])))
def l50_1 : ACode := (.seq (.seq (rg [mv 77 11]) (.cond (.t 77) .skip (.exit 4))) (.block 5 (.seq (rg [oo 11 (.mov (.c (.bool false)))]) (.seq (rg [oo 12 (.mov (ci 0))]) (.block 6 (.loop [2, 3, 4, 11, 12] l50_0))))))
def l50_2 : ACode := (.seq (.seq (rg [mv 59 10, mv 60 4, oo 61 (.len 1 (.t 60)), oo 62 (.bin .lss .other false (.t 59) (.t 61))]) (.cond (.t 62) .skip (.exit 2))) (.seq (.block 3 (.seq (.reg true [(4, 5), (4, 6), (4, 7), (4, 8), (4, 9), (0, 10), (1, 10), (2, 10), (3, 10), (4, 10)] [mv 65 4, mv 66 10, oo 67 (.ixa 8 (.t 65) (.t 66)), oo 68 (.fa 0 (.t 67)), oo 69 (.ld 1 false (.t 68)), mv 70 4, mv 71 10, oo 72 (.bin .sub .other true (.t 71) (ci 1)), oo 73 (.ixa 8 (.t 70) (.t 72)), oo 74 (.fa 0 (.t 73)), oo 75 (.ld 1 false (.t 74)), oo 76 (.bin .eql .other false (.t 69) (.t 75))]) (.cond (.t 76) (.seq (rg [oo 2 (.mov (.c (.lit (.slice none 0 0)))), oo 3 (.mov (ci 13))]) .ret) .skip))) (rg [mv 63 10, oo 64 (.bin .add .other true (.t 63) (ci 1)), mv 10 64])))
def l50_3 : ACode := (.seq (.seq (rg [mv 22 6, mv 23 5, oo 24 (.len 1 (.t 23)), oo 25 (.bin .lss .other false (.t 22) (.t 24))]) (.cond (.t 25) .skip (.exit 0))) (.seq (.block 1 (.seq (rg [mv 28 5, mv 29 6, oo 30 (.ixa 8 (.t 28) (.t 29)), oo 31 (.ld 8 true (.t 30)), oo 7 (.alloc [(.str []), (.int .i64 0), (.int .i64 0), (.int .i64 0), (.int .i64 0), (.int .i64 0), (.str []), (.lit (.slice none 0 0))]), ⟨none, (.st 8 (.t 7) (.t 31)), none⟩]) (.seq (rg [oo 33 (.fa 0 (.t 7)), oo 34 (.ld 1 false (.t 33)), cl 35 88 [(.t 34)], mv 32 35, oo 36 (.ext (.t 32) 0), oo 37 (.ext (.t 32) 1), mv 8 36, mv 9 37]) (.seq (.seq (rg [mv 38 9, oo 39 (.bin .eql .other true (.t 38) (ci 0)), mv 40 39, og 41 (.fa 1 (.t 7)) 40 true, og 42 (.ld 1 false (.t 41)) 40 true, og 43 (.bin .eql .other true (.t 42) (ci 4)) 40 true, oo 44 (.pick (.t 40) (.t 43) (.c (.bool false)))]) (.cond (.t 44) (rg [oo 46 (.fa 6 (.t 7)), oo 47 (.ld 1 false (.t 46)), cl 48 88 [(.t 47)], mv 45 48, oo 49 (.ext (.t 45) 0), oo 50 (.ext (.t 45) 1), oo 51 (.fa 6 (.t 7)), ⟨none, (.st 1 (.t 51) (.t 49)), none⟩, mv 9 50]) .skip)) (.seq (.seq (rg [mv 52 9, oo 53 (.bin .neq .other true (.t 52) (ci 0))]) (.cond (.t 53) (.seq (rg [oo 2 (.mov (.c (.lit (.slice none 0 0)))), oo 3 (.mov (ci 12))]) .ret) .skip)) (.seq (rg [mv 54 8, oo 55 (.fa 0 (.t 7)), ⟨none, (.st 1 (.t 55) (.t 54)), none⟩]) (rg [mv 56 4, oo 57 (.ld 8 true (.t 7)), cl 58 89 [(.t 56), (.t 57)], mv 4 58]))))))) (rg [mv 26 6, oo 27 (.bin .add .other true (.t 26) (ci 1)), mv 6 27])))
def r50_0 : ACode := (.seq (rg [mv 113 4, cl 114 41 [(.t 113)], mv 112 114, oo 115 (.ext (.t 112) 0), oo 116 (.ext (.t 112) 1), mv 15 115, mv 16 116]) (.seq (.seq (rg [mv 117 16, oo 118 (.bin .neq .other true (.t 117) (ci 0))]) (.cond (.t 118) (.seq (rg [mv 119 16, oo 2 (.mov (.c (.lit (.slice none 0 0)))), mv 3 119]) .ret) .skip)) (.seq (rg [mv 120 4, mv 2 120, oo 3 (.mov (ci 0))]) .ret)))
def r50_1 : ACode := (.seq (.seq (rg [oo 11 (.mov (.c (.bool true)))]) (.block 4 (.loop [2, 3, 4, 11] l50_1))) r50_0)
def r50_2 : ACode := (.seq (.seq (rg [oo 10 (.mov (ci 1))]) (.block 2 (.loop [2, 3, 4, 10] l50_2))) r50_1)
def b50 : AFn := ⟨1, 121, [(2, none), (3, none)], (.seq (rg [oo 2 (.mov (.c (.lit (.slice none 0 0)))), oo 3 (.mov (ci 0))]) (.seq (.seq (rg [mv 17 0, oo 18 (.len 1 (.t 17)), oo 19 (.bin .gtr .other true (.t 18) (ci 200))]) (.cond (.t 19) (.seq (rg [oo 2 (.mov (.c (.lit (.slice none 0 0)))), oo 3 (.mov (ci 19))]) .ret) .skip)) (.seq (rg [oo 4 (.mov (.c (.lit (.slice none 0 0))))]) (.seq (rg [mv 20 0, cl 21 16 [(.t 20)], mv 5 21]) (.seq (.seq (rg [oo 6 (.mov (ci 0))]) (.block 0 (.loop [2, 3, 4, 5, 6] l50_3))) r50_2)))))⟩
theorem fn50 : AA.fn 50 = some b50 := by kernel_rfl
theorem np50 : AA.prim 50 = none := rfl
def b11 : AFn := ⟨1, 71, [(2, none)], (.seq (rg [oo 2 (.mov (.c (.bool false)))]) (.seq (.seq (rg [cl 12 39 [], oo 13 (.un .not (.t 12))]) (.cond (.t 13) (.seq (rg [oo 2 (.mov (.c (.bool false)))]) .ret) .skip)) (.seq (.seq (rg [mv 14 0, cl 15 40 [(.t 14)], oo 16 (.un .not (.t 15))]) (.cond (.t 16) (.seq (rg [oo 2 (.mov (.c (.bool true)))]) .ret) .skip)) (.seq (rg [mv 18 0, cl 19 16 [(.t 18)], cl 20 49 [(.t 19)], mv 17 20, oo 21 (.ext (.t 17) 0), oo 22 (.ext (.t 17) 1), mv 3 21, mv 4 22]) (.seq (.seq (rg [mv 23 4, oo 24 (.bin .neq (.iface [58]) true (.t 23) (.c (.lit .nilIface)))]) (.cond (.t 24) (.seq (rg [mv 26 0, cl 27 50 [(.t 26)], mv 25 27, oo 28 (.ext (.t 25) 0), oo 29 (.ext (.t 25) 1), mv 5 28, mv 6 29]) (.seq (rg [mv 30 4, cl 31 19 [(.t 30)], mv 32 6, oo 33 (.bin .eql .other false (.t 31) (.t 32)), mv 2 33]) .ret)) .skip)) (.seq (rg [mv 35 3, cl 36 17 [(.t 35)], mv 34 36, oo 37 (.ext (.t 34) 0), oo 38 (.ext (.t 34) 1), mv 7 37, mv 4 38]) (.seq (rg [mv 40 7, cl 41 24 [(.t 40)], mv 39 41, oo 42 (.ext (.t 39) 0), oo 43 (.ext (.t 39) 1), mv 8 42, mv 9 43]) (.seq (rg [mv 45 8, cl 46 17 [(.t 45)], mv 44 46, oo 47 (.ext (.t 44) 0), oo 48 (.ext (.t 44) 1), mv 10 47, mv 11 48]) (.seq (rg [mv 49 4, oo 50 (.bin .eql (.iface [58]) true (.t 49) (.c (.lit .nilIface))), mv 51 50, og 52 (.mov (.t 9)) 51 true, og 53 (.bin .eql (.iface [58]) true (.t 52) (.c (.lit .nilIface))) 51 true, oo 54 (.pick (.t 51) (.t 53) (.c (.bool false))), mv 55 54, og 56 (.mov (.t 11)) 55 true, og 57 (.bin .eql (.iface [58]) true (.t 56) (.c (.lit .nilIface))) 55 true, oo 58 (.pick (.t 55) (.t 57) (.c (.bool false))), mv 59 58, og 60 (.mov (.t 8)) 59 true, og 61 (.mov (.t 3)) 59 true, og 62 (.call (.c (.func (.func 37) [])) [(.t 60), (.t 61)]) 59 true, oo 63 (.pick (.t 59) (.t 62) (.c (.bool false))), mv 64 63, og 65 (.mov (.t 7)) 64 true, og 66 (.cvbs (.t 65)) 64 true, og 67 (.mov (.t 10)) 64 true, og 68 (.cvbs (.t 67)) 64 true, og 69 (.bin .eql .other false (.t 66) (.t 68)) 64 true, oo 70 (.pick (.t 64) (.t 69) (.c (.bool false))), mv 2 70]) .ret)))))))))⟩
theorem fn11 : AA.fn 11 = some b11 := by kernel_rfl
end Go.Abs
namespace Go.Abs
open Am
set_option maxRecDepth 10000
def textB (s : List UInt8) (most : Int) : Bool := decide (s ≠ []) && decide ((s.length : Int) ≤ most) && Lib.validD s && decide (Lib.indexByte s 0 < 0)
def partB (s : List UInt8) : Bool := textB s 120 && decide (s ≠ [46]) && decide (s ≠ [46, 46]) && decide (Lib.indexByte s 47 < 0)
theorem s151 (s : List UInt8) (most : Int) (hs : s.length ≤ 1000000) : callT AA 151 [.str s, .int .i64 most] [] = some (.bool (textB s most), []) := by
 refine enter fn151 np151 rfl ?_
 have gg:=trivial;repeat' first|simp (maxSteps:=2000000) (disch:=omega) only [gg,b151,s192,go_sem]|(refine br ?_ ?_<;>intro gg<;>try omega)|(apply And.intro;focus omega)|omega
 (all_goals (first | (simp_all [textB]; done) | (simp_all [textB]; omega) | (simp_all [textB]; intros; omega) | (simp_all [textB]; rw [Bool.eq_iff_iff]; simp; done) | (simp_all [textB]; rw [Bool.eq_iff_iff]; simp; omega)))
theorem s190 (s : List UInt8) (hs : s.length ≤ 1000000) : callT AA 190 [.str s] [] = some (.bool (partB s), []) := by
 have h := s151 s 120 hs
 refine enter fn190 np190 rfl ?_
 have gg:=trivial;repeat' first|simp (maxSteps:=2000000) (disch:=omega) only [gg,b190,h,s225,go_sem]|(refine br ?_ ?_<;>intro gg<;>try omega)|(apply And.intro;focus omega)|omega
 (all_goals (first | (simp_all [partB]; done) | (simp_all [partB]; omega) | (simp_all [partB]; intros; omega) | (simp_all [partB]; rw [Bool.eq_iff_iff]; simp; done) | (simp_all [partB]; rw [Bool.eq_iff_iff]; simp; omega)))
theorem s189 (s : List UInt8) (hs : s.length ≤ 1000000) : callT AA 189 [.str s] [] = some (.bool (!partB s), []) := by
 have h := s190 s hs
 refine enter fn189 np189 rfl ?_
 have gg:=trivial;repeat' first|simp (maxSteps:=2000000) (disch:=omega) only [gg,b189,h,go_sem]|(refine br ?_ ?_<;>intro gg<;>try omega)|(apply And.intro;focus omega)|omega
def badAt (i : Int) : List (List UInt8) → Int
 | [] => -1
 | p :: r => if partB p = true then badAt (i + 1) r else i
theorem badAt_neg : ∀ (ps : List (List UInt8)) (i : Int), 0 ≤ i → (decide (0 ≤ badAt i ps) = !ps.all partB)
 | [], i, _ => by simp [badAt]
 | p :: r, i, h => by
  unfold badAt
  have ih := badAt_neg r (i + 1) (by omega)
  by_cases hp : partB p = true
  ·simp [hp, ih]
  ·simp [hp, h]
theorem h224 (c t : Bool) (ps : List (List UInt8)) (hps : ps.length ≤ 2000000) (hq : ∀ p ∈ ps, p.length ≤ 1000000) (r0 : Int) : ∀ (rest done : List (List UInt8)) (n i : Int), ps = done ++ rest → i = done.length → n = ps.length → r0 = badAt i rest →
  HD AA 0 [0, 1, 4, 7, 8] l224_0 ⟨[.view 1 (ps.map .str) c t, .func (.func 189) [], .junk, .junk, .int .i64 0, .junk, .junk, .int .i64 n, .int .i64 i, .junk, .junk, .junk, .junk, .junk, .junk, .junk, .junk, .junk, .junk], [], 0⟩ [.blk 0, .code r224_0] (Fin [(4, none)] 0 (.int .i64 r0) [])
 | [], done, n, i, h1, h2, h3, h4 => by
  subst h1
  refine hd_of (by unfold l224_0; rfl) ?_
  simp at h3
  have gg:=trivial;repeat' first|simp (maxSteps:=2000000) (disch:=omega) only [gg,r224_0,go_sem]|(refine br ?_ ?_<;>intro gg<;>try omega)|(apply And.intro;focus omega)|omega
  simp [h4, badAt]
 | p :: r, done, n, i, h1, h2, h3, h4 => by
  have hp := s189 p (hq p (by simp [h1]))
  have hg : ps[i.toNat]? = some p := by
   rw [h1]
   simp [h2]
  have hl : i.toNat < ps.length := by rw [h1]; simp; omega
  have ih := h224 c t ps hps hq r0 r (done ++ [p]) n (i + 1) (by simp [h1]) (by first | omega | (simp; omega) | (simp; done)) h3
  refine hd_of (by unfold l224_0; rfl) ?_
  unfold badAt at h4
  by_cases hb : partB p = true
  ·rw [if_pos hb] at h4
   have ih := ih h4
   have gg:=trivial;repeat' first|simp (maxSteps:=2000000) (disch:=omega) only [gg,hp,hg,hb,lp_head,ih,go_sem]|(refine br ?_ ?_<;>intro gg<;>try omega)|(apply And.intro;focus omega)|omega
  ·rw [if_neg hb] at h4
   have hb' : partB p = false := by simpa using hb
   have gg:=trivial;repeat' first|simp (maxSteps:=2000000) (disch:=omega) only [gg,hp,hg,hb',lp_head,go_sem]|(refine br ?_ ?_<;>intro gg<;>try omega)|(apply And.intro;focus omega)|omega
   simp [h4]
theorem s188 (c t : Bool) (ps : List (List UInt8)) (hps : ps.length ≤ 2000000) (hq : ∀ p ∈ ps, p.length ≤ 1000000) : callT AA 188 [.view 1 (ps.map .str) c t, .func (.func 189) []] [] = some (.bool (!ps.all partB), []) := by
 have h : callT AA 224 [.view 1 (ps.map .str) c t, .func (.func 189) []] [] = some (.int .i64 (badAt 0 ps), []) := by
  refine enter fn224 np224 rfl ?_
  have gg:=trivial;repeat' first|simp (maxSteps:=2000000) (disch:=omega) only [gg,b224,lp_head,go_sem]|(refine br ?_ ?_<;>intro gg<;>try omega)|(apply And.intro;focus omega)|omega
  exact h224 c t ps hps hq _ ps [] _ _ rfl rfl rfl rfl
 have e := badAt_neg ps 0 (by omega)
 refine enter fn188 np188 rfl ?_
 have gg:=trivial;repeat' first|simp (maxSteps:=2000000) (disch:=omega) only [gg,b188,h,e,go_sem]|(refine br ?_ ?_<;>intro gg<;>try omega)|(apply And.intro;focus omega)|omega
def splitP (s : List UInt8) : List (List UInt8) := splitOn 47 s
def goodB (s : List UInt8) : Bool := decide (s.length ≤ 400) && (splitP s).all partB
theorem split_short (c : UInt8) : ∀ (s : List UInt8), ∀ p ∈ splitOn c s, p.length ≤ s.length
 | [], p, h => by simp [splitOn] at h; simp [h]
 | x :: r, p, h => by
  rw [splitOn_cons] at h
  have ih := split_short c r
  split at h
  ·rcases List.mem_cons.1 h with rfl | h
   ·simp
   ·have := ih p h; simp; omega
  ·split at h
   ·rename_i he; exact (splitOn_ne c r he).elim
   ·rename_i q qs he
    rcases List.mem_cons.1 h with rfl | h
    ·have := ih q (by simp [he]); simp; omega
    ·have := ih p (by simp [he, h]); simp; omega
theorem s112 (s : List UInt8) (hs : s.length ≤ 1000000) : callT AA 112 [.str s] [] = some (.bool (goodB s), []) := by
 have h187 := s187 s 47 hs
 have h188 := fun c t => s188 c t (splitOn 47 s) (by rw [split_length]; have := count_le s 47; omega) (fun p hp => Nat.le_trans (split_short 47 s p hp) hs)
 have hn : 0 < (splitOn 47 s).length := by rw [split_length]; omega
 have h149 : s.length ≤ 400 ∧ (splitOn 47 s).all partB = true → callT AA 149 [.str s] [] = some (.own 0 1 0 (splitOn 47 s).length false, [(0, .row ((splitOn 47 s).map .str) 1)]) := by
  rintro ⟨h1, h2⟩
  refine enter fn149 np149 rfl ?_
  have gg:=trivial;repeat' first|simp (maxSteps:=2000000) (disch:=omega) only [gg,b149,h187,h188,h2,go_sem]|(refine br ?_ ?_<;>intro gg<;>try omega)|(apply And.intro;focus omega)|omega
 have h149' : ¬ (s.length ≤ 400 ∧ (splitOn 47 s).all partB = true) → callT AA 149 [.str s] [] = some (.nilS, []) := by
  intro h1
  by_cases h2 : s.length ≤ 400
  ·have h3 : (splitOn 47 s).all partB = false := by
    cases hx : (splitOn 47 s).all partB with
    | false => rfl
    | true => exact (h1 ⟨h2, hx⟩).elim
   refine enter fn149 np149 rfl ?_
   have gg:=trivial;repeat' first|simp (maxSteps:=2000000) (disch:=omega) only [gg,b149,h187,h188,h3,go_sem]|(refine br ?_ ?_<;>intro gg<;>try omega)|(apply And.intro;focus omega)|omega
  ·refine enter fn149 np149 rfl ?_
   have gg:=trivial;repeat' first|simp (maxSteps:=2000000) (disch:=omega) only [gg,b149,h187,h188,go_sem]|(refine br ?_ ?_<;>intro gg<;>try omega)|(apply And.intro;focus omega)|omega
 refine enter fn112 np112 rfl ?_
 by_cases hg : s.length ≤ 400 ∧ (splitOn 47 s).all partB = true
 ·have h := h149 hg
  have e : goodB s = true := by simp [goodB, splitP, hg]
  have gg:=trivial;repeat' first|simp (maxSteps:=2000000) (disch:=omega) only [gg,b112,h,e,go_sem]|(refine br ?_ ?_<;>intro gg<;>try omega)|(apply And.intro;focus omega)|omega
 ·have h := h149' hg
  have e : goodB s = false := by
   unfold goodB splitP
   by_cases h1 : s.length ≤ 400
   ·have : (splitOn 47 s).all partB = false := by
     cases hx : (splitOn 47 s).all partB with
     | false => rfl
     | true => exact (hg ⟨h1, hx⟩).elim
    simp [this]
   ·simp [h1]
  have gg:=trivial;repeat' first|simp (maxSteps:=2000000) (disch:=omega) only [gg,b112,h,e,go_sem]|(refine br ?_ ?_<;>intro gg<;>try omega)|(apply And.intro;focus omega)|omega
def lastAt (c : UInt8) : Nat → List UInt8 → Int
 | 0, _ => -1
 | k + 1, s => if s[k]? = some c then k else lastAt c k s
theorem h164 (s : List UInt8) (c : UInt8) (hs : s.length ≤ 1000000) (r0 : Int) : ∀ (k : Nat) (i : Int), k ≤ s.length → i = (k : Int) - 1 → r0 = lastAt c k s →
  HD AA 0 [0, 1, 4, 5] l164_0 ⟨[.str s, .int .u8 c.toNat, .junk, .junk, .int .i64 0, .int .i64 i, .junk, .junk, .junk, .junk, .junk, .junk, .junk, .junk, .junk, .junk, .junk, .junk, .junk], [], 0⟩ [.blk 0, .code r164_0] (Fin [(4, none)] 0 (.int .i64 r0) [])
 | 0, i, h1, h2, h3 => by
  refine hd_of (by unfold l164_0; rfl) ?_
  have gg:=trivial;repeat' first|simp (maxSteps:=2000000) (disch:=omega) only [gg,r164_0,go_sem]|(refine br ?_ ?_<;>intro gg<;>try omega)|(apply And.intro;focus omega)|omega
  simp [h3, lastAt]
 | k + 1, i, h1, h2, h3 => by
  have hk : k < s.length := h1
  have hi : i.toNat = k := by omega
  have hik : i = k := by omega
  have hg : s[k]? = some s[k] := List.getElem?_eq_getElem hk
  have ih := h164 s c hs r0 k (i - 1) (by omega) (by omega)
  refine hd_of (by unfold l164_0; rfl) ?_
  unfold lastAt at h3
  rw [hg] at h3
  by_cases hb : s[k] = c
  ·rw [if_pos (by rw [hb])] at h3
   have gg:=trivial;repeat' first|simp (maxSteps:=2000000) (disch:=omega) only [gg,hi,hg,lp_head,hb,go_sem]|(refine br ?_ ?_<;>intro gg<;>try omega)|(apply And.intro;focus omega)|omega
   simp [h3, hik]
  ·rw [if_neg (by simpa using hb)] at h3
   have hn : ¬ ((s[k].toNat : Int) = (c.toNat : Int)) := fun h => hb (UInt8.toNat_inj.1 (by omega))
   have ih := ih h3
   have gg:=trivial;repeat' first|simp (maxSteps:=2000000) (disch:=omega) only [gg,hi,hg,lp_head,hn,ih,go_sem]|(refine br ?_ ?_<;>intro gg<;>try omega)|(apply And.intro;focus omega)|omega
def lastB (c : UInt8) (s : List UInt8) : Int := lastAt c s.length s
theorem s129 (s : List UInt8) (c : UInt8) (hs : s.length ≤ 1000000) : callT AA 129 [.str s, .int .u8 c.toNat] [] = some (.int .i64 (lastB c s), []) := by
 have h : callT AA 164 [.str s, .int .u8 c.toNat] [] = some (.int .i64 (lastB c s), []) := by
  refine enter fn164 np164 rfl ?_
  have gg:=trivial;repeat' first|simp (maxSteps:=2000000) (disch:=omega) only [gg,b164,lp_head,go_sem]|(refine br ?_ ?_<;>intro gg<;>try omega)|(apply And.intro;focus omega)|omega
  exact h164 s c hs _ s.length _ (Nat.le_refl _) rfl rfl
 refine enter fn129 np129 rfl ?_
 have gg:=trivial;repeat' first|simp (maxSteps:=2000000) (disch:=omega) only [gg,b129,h,go_sem]|(refine br ?_ ?_<;>intro gg<;>try omega)|(apply And.intro;focus omega)|omega
end Go.Abs
namespace Go.Abs
open Am
set_option maxRecDepth 10000
theorem lastAt_lt (c : UInt8) (s : List UInt8) : ∀ k : Nat, lastAt c k s < k ∧ -1 ≤ lastAt c k s
 | 0 => by simp [lastAt]
 | k + 1 => by
  have := lastAt_lt c s k
  unfold lastAt
  split <;> omega
def parentP (s : List UInt8) : List UInt8 × Bool := if 0 ≤ lastB 47 s ∧ goodB s = true then (s.take (lastB 47 s).toNat, true) else ([], false)
theorem s84 (s : List UInt8) (hs : s.length ≤ 1000000) : callT AA 84 [.str s] [] = some (.tuple [.str (parentP s).1, .bool (parentP s).2], []) := by
 have h1 := s129 s 47 hs
 have h2 := s112 s hs
 have h3 := lastAt_lt 47 s s.length
 have h4 : lastB 47 s = lastAt 47 s.length s := rfl
 have e47 : ((47 : UInt8).toNat : Int) = 47 := rfl
 rw [e47] at h1
 refine enter fn84 np84 rfl ?_
 unfold parentP
 by_cases hl : lastB 47 s < 0
 ·have hx : ¬ (0 ≤ lastB 47 s ∧ goodB s = true) := by omega
  rw [if_neg hx]
  have gg:=trivial;repeat' first|simp (maxSteps:=2000000) (disch:=omega) only [gg,b84,h1,h2,go_sem]|(refine br ?_ ?_<;>intro gg<;>try omega)|(apply And.intro;focus omega)|omega
 ·cases hg : goodB s with
  | true =>
   rw [if_pos ⟨by omega, rfl⟩]
   rw [hg] at h2
   have gg:=trivial;repeat' first|simp (maxSteps:=2000000) (disch:=omega) only [gg,b84,h1,h2,go_sem]|(refine br ?_ ?_<;>intro gg<;>try omega)|(apply And.intro;focus omega)|omega
  | false =>
   rw [if_neg (by simp)]
   rw [hg] at h2
   have gg:=trivial;repeat' first|simp (maxSteps:=2000000) (disch:=omega) only [gg,b84,h1,h2,go_sem]|(refine br ?_ ?_<;>intro gg<;>try omega)|(apply And.intro;focus omega)|omega
def cutB (c : UInt8) (s : List UInt8) : List UInt8 × List UInt8 × Bool := if 0 ≤ Lib.indexByte s c then (s.take (Lib.indexByte s c).toNat, s.drop ((Lib.indexByte s c).toNat + 1), true) else (s, [], false)
theorem s119 (s : List UInt8) (c : UInt8) (hs : s.length ≤ 1000000) : callT AA 119 [.str s, .str [c]] [] = some (.tuple [.str (cutB c s).1, .str (cutB c s).2.1, .bool (cutB c s).2.2], []) := by
 have h1 := s202 s c
 have h3 := Lib.indexByte_ge s c
 have h4 := @indexByte_lt s c
 have h : callT AA 155 [.str s, .str [c]] [] = some (.tuple [.str (cutB c s).1, .str (cutB c s).2.1, .bool (cutB c s).2.2], []) := by
  refine enter fn155 np155 rfl ?_
  unfold cutB
  by_cases hl : 0 ≤ Lib.indexByte s c
  ·rw [if_pos hl]
   have gg:=trivial;repeat' first|simp (maxSteps:=2000000) (disch:=omega) only [gg,b155,h1,go_sem]|(refine br ?_ ?_<;>intro gg<;>try omega)|(apply And.intro;focus omega)|omega
  ·rw [if_neg hl]
   have gg:=trivial;repeat' first|simp (maxSteps:=2000000) (disch:=omega) only [gg,b155,h1,go_sem]|(refine br ?_ ?_<;>intro gg<;>try omega)|(apply And.intro;focus omega)|omega
 refine enter fn119 np119 rfl ?_
 have gg:=trivial;repeat' first|simp (maxSteps:=2000000) (disch:=omega) only [gg,b119,h,go_sem]|(refine br ?_ ?_<;>intro gg<;>try omega)|(apply And.intro;focus omega)|omega
theorem s132 (s t : List UInt8) : callT AA 132 [.str s, .str t] [] = some (.int .i64 (Lib.compareBytes s t), []) := by
 have h : callT AA 175 [.str s, .str t] [] = some (.int .i64 (Lib.compareBytes s t), []) := by
  refine enter fn175 np175 rfl ?_
  have gg:=trivial;repeat' first|simp (maxSteps:=2000000) (disch:=omega) only [gg,b175,go_sem]|(refine br ?_ ?_<;>intro gg<;>try omega)|(apply And.intro;focus omega)|omega
 refine enter fn132 np132 rfl ?_
 have gg:=trivial;repeat' first|simp (maxSteps:=2000000) (disch:=omega) only [gg,b132,h,go_sem]|(refine br ?_ ?_<;>intro gg<;>try omega)|(apply And.intro;focus omega)|omega
def cmpParts : List (List UInt8) → List (List UInt8) → Int
 | x :: xs, y :: ys => if Lib.compareBytes x y ≠ 0 then Lib.compareBytes x y else match xs, ys with
  | [], [] => 0
  | [], _ => -1
  | _, [] => 1
  | xs, ys => cmpParts xs ys
 | _, _ => 0
def cmpPath (a b : List UInt8) : Int := cmpParts (splitP a) (splitP b)
theorem cut_yes {c : UInt8} {s : List UInt8} (h : 0 ≤ Lib.indexByte s c) : cutB c s = (s.take (Lib.indexByte s c).toNat, s.drop ((Lib.indexByte s c).toNat + 1), true) ∧ splitOn c s = (cutB c s).1 :: splitOn c (cutB c s).2.1 := by
 have e : cutB c s = (s.take (Lib.indexByte s c).toNat, s.drop ((Lib.indexByte s c).toNat + 1), true) := if_pos h
 refine ⟨e, ?_⟩
 rw [e]
 exact (split_some h).1
theorem cut_no {c : UInt8} {s : List UInt8} (h : ¬ 0 ≤ Lib.indexByte s c) : cutB c s = (s, [], false) ∧ splitOn c s = [s] := ⟨if_neg h, (split_none (by omega)).1⟩
theorem cmp_yy {x y : List UInt8} {xs ys : List (List UInt8)} (h1 : xs ≠ []) (h2 : ys ≠ []) : cmpParts (x :: xs) (y :: ys) = if Lib.compareBytes x y ≠ 0 then Lib.compareBytes x y else cmpParts xs ys := by
 cases xs with
 | nil => exact (h1 rfl).elim
 | cons a ar => cases ys with
  | nil => exact (h2 rfl).elim
  | cons b br => rfl
theorem cmp_yn {x y : List UInt8} {xs : List (List UInt8)} (h1 : xs ≠ []) : cmpParts (x :: xs) [y] = if Lib.compareBytes x y ≠ 0 then Lib.compareBytes x y else 1 := by
 cases xs with
 | nil => exact (h1 rfl).elim
 | cons a ar => rfl
theorem cmp_ny {x y : List UInt8} {ys : List (List UInt8)} (h1 : ys ≠ []) : cmpParts [x] (y :: ys) = if Lib.compareBytes x y ≠ 0 then Lib.compareBytes x y else -1 := by
 cases ys with
 | nil => exact (h1 rfl).elim
 | cons a ar => rfl
theorem cmp_nn {x y : List UInt8} : cmpParts [x] [y] = if Lib.compareBytes x y ≠ 0 then Lib.compareBytes x y else 0 := rfl
theorem h87 (s t : List UInt8) (r0 : Int) (hs : s.length ≤ 1000000) (ht : t.length ≤ 1000000) (hr : r0 = cmpParts (splitP s) (splitP t)) :
  HD AA 0 [0, 1, 4] l87_0 ⟨[.str s, .str t, .junk, .junk, .int .i64 0, .junk, .junk, .junk, .junk, .junk, .junk, .junk, .junk, .junk, .junk, .junk, .junk, .junk, .junk, .junk, .junk, .junk, .junk, .junk, .junk, .junk, .junk, .junk, .junk, .junk, .junk, .junk, .junk, .junk, .junk, .junk, .junk, .junk, .junk, .junk, .junk, .junk, .junk, .junk, .junk, .junk], [], 0⟩ [.blk 0] (Fin [(4, none)] 0 (.int .i64 r0) []) := by
 have c1 := s119 s 47 hs
 have c2 := s119 t 47 ht
 unfold splitP at hr
 refine hd_of (by unfold l87_0; rfl) ?_
 by_cases hs' : 0 ≤ Lib.indexByte s 47
 ·obtain ⟨a1, a2⟩ := cut_yes hs'
  have a3 : (cutB 47 s).2.2 = true := by rw [a1]
  have a4 : (cutB 47 s).2.1.length < s.length := by
   rw [a1]
   have := @indexByte_lt s 47
   simp
   omega
  have an := splitOn_ne 47 (cutB 47 s).2.1
  rw [a3] at c1
  rw [a2] at hr
  by_cases ht' : 0 ≤ Lib.indexByte t 47
  ·obtain ⟨b1, b2⟩ := cut_yes ht'
   have b3 : (cutB 47 t).2.2 = true := by rw [b1]
   have b4 : (cutB 47 t).2.1.length < t.length := by
    rw [b1]
    have := @indexByte_lt t 47
    simp
    omega
   have bn := splitOn_ne 47 (cutB 47 t).2.1
   rw [b3] at c2
   rw [b2, cmp_yy an bn] at hr
   by_cases hc : Lib.compareBytes (cutB 47 s).1 (cutB 47 t).1 = 0
   ·rw [if_neg (by simpa using hc)] at hr
    have ih := h87 (cutB 47 s).2.1 (cutB 47 t).2.1 r0 (by omega) (by omega) hr
    have gg:=trivial;repeat' first|simp (maxSteps:=2000000) (disch:=omega) only [gg,c1,c2,s132,hc,lp_head,ih,go_sem]|(refine br ?_ ?_<;>intro gg<;>try omega)|(apply And.intro;focus omega)|omega
   ·rw [if_pos hc] at hr
    have gg:=trivial;repeat' first|simp (maxSteps:=2000000) (disch:=omega) only [gg,c1,c2,s132,hc,lp_head,hr,go_sem]|(refine br ?_ ?_<;>intro gg<;>try omega)|(apply And.intro;focus omega)|omega
  ·obtain ⟨b1, b2⟩ := cut_no ht'
   have b3 : (cutB 47 t).2.2 = false := by rw [b1]
   have b4 : (cutB 47 t).1 = t := by rw [b1]
   rw [b3, b4] at c2
   rw [b2, cmp_yn an] at hr
   by_cases hc : Lib.compareBytes (cutB 47 s).1 t = 0
   ·rw [if_neg (by simpa using hc)] at hr
    have gg:=trivial;repeat' first|simp (maxSteps:=2000000) (disch:=omega) only [gg,c1,c2,s132,hc,lp_head,hr,go_sem]|(refine br ?_ ?_<;>intro gg<;>try omega)|(apply And.intro;focus omega)|omega
   ·rw [if_pos hc] at hr
    have gg:=trivial;repeat' first|simp (maxSteps:=2000000) (disch:=omega) only [gg,c1,c2,s132,hc,lp_head,hr,go_sem]|(refine br ?_ ?_<;>intro gg<;>try omega)|(apply And.intro;focus omega)|omega
 ·obtain ⟨a1, a2⟩ := cut_no hs'
  have a3 : (cutB 47 s).2.2 = false := by rw [a1]
  have a4 : (cutB 47 s).1 = s := by rw [a1]
  rw [a3, a4] at c1
  rw [a2] at hr
  by_cases ht' : 0 ≤ Lib.indexByte t 47
  ·obtain ⟨b1, b2⟩ := cut_yes ht'
   have b3 : (cutB 47 t).2.2 = true := by rw [b1]
   have bn := splitOn_ne 47 (cutB 47 t).2.1
   rw [b3] at c2
   rw [b2, cmp_ny bn] at hr
   by_cases hc : Lib.compareBytes s (cutB 47 t).1 = 0
   ·rw [if_neg (by simpa using hc)] at hr
    have gg:=trivial;repeat' first|simp (maxSteps:=2000000) (disch:=omega) only [gg,c1,c2,s132,hc,lp_head,hr,go_sem]|(refine br ?_ ?_<;>intro gg<;>try omega)|(apply And.intro;focus omega)|omega
   ·rw [if_pos hc] at hr
    have gg:=trivial;repeat' first|simp (maxSteps:=2000000) (disch:=omega) only [gg,c1,c2,s132,hc,lp_head,hr,go_sem]|(refine br ?_ ?_<;>intro gg<;>try omega)|(apply And.intro;focus omega)|omega
  ·obtain ⟨b1, b2⟩ := cut_no ht'
   have b3 : (cutB 47 t).2.2 = false := by rw [b1]
   have b4 : (cutB 47 t).1 = t := by rw [b1]
   rw [b3, b4] at c2
   rw [b2, cmp_nn] at hr
   by_cases hc : Lib.compareBytes s t = 0
   ·rw [if_neg (by simpa using hc)] at hr
    have gg:=trivial;repeat' first|simp (maxSteps:=2000000) (disch:=omega) only [gg,c1,c2,s132,hc,lp_head,hr,go_sem]|(refine br ?_ ?_<;>intro gg<;>try omega)|(apply And.intro;focus omega)|omega
   ·rw [if_pos hc] at hr
    have gg:=trivial;repeat' first|simp (maxSteps:=2000000) (disch:=omega) only [gg,c1,c2,s132,hc,lp_head,hr,go_sem]|(refine br ?_ ?_<;>intro gg<;>try omega)|(apply And.intro;focus omega)|omega
termination_by s.length
theorem s87 (s t : List UInt8) (hs : s.length ≤ 1000000) (ht : t.length ≤ 1000000) : callT AA 87 [.str s, .str t] [] = some (.int .i64 (cmpPath s t), []) := by
 refine enter fn87 np87 rfl ?_
 have gg:=trivial;repeat' first|simp (maxSteps:=2000000) (disch:=omega) only [gg,b87,lp_head,go_sem]|(refine br ?_ ?_<;>intro gg<;>try omega)|(apply And.intro;focus omega)|omega
 exact h87 s t _ hs ht rfl
end Go.Abs
namespace Go.Abs
open Am
set_option maxRecDepth 10000
def metaB (n least : Int) : Bool := decide (least ≤ n) && decide (n ≤ 1099511627776)
theorem s150 (n least : Int) : callT AA 150 [.int .i64 n, .int .i64 least] [] = some (.bool (metaB n least), []) := by
 refine enter fn150 np150 rfl ?_
 have gg:=trivial;repeat' first|simp (maxSteps:=2000000) (disch:=omega) only [gg,b150,go_sem]|(refine br ?_ ?_<;>intro gg<;>try omega)|(apply And.intro;focus omega)|omega
 (all_goals (first | (simp_all [metaB]; done) | (simp_all [metaB]; omega) | (simp_all [metaB]; intros; omega) | (simp_all [metaB]; rw [Bool.eq_iff_iff]; simp; done) | (simp_all [metaB]; rw [Bool.eq_iff_iff]; simp; omega)))
def fieldsB (e : Ent) : Bool :=
 if e.mode < 0 ∨ 4095 < e.mode then false else
 if metaB e.uid 0 = false ∨ metaB e.gid 0 = false ∨ metaB e.time (-1099511627776) = false then false else
 if e.kind = 1 then decide (e.link = []) && decide (e.data.l.length = 0) else
 if e.kind = 2 then decide (e.link = []) && decide (e.data.l.length ≤ 65536) else
 if e.kind = 3 then textB e.link 400 && decide (e.data.l.length = 0) else
 if e.kind = 4 then goodB e.link && decide (e.data.l.length = 0) && decide (e.mode = 0) && decide (e.uid = 0) && decide (e.gid = 0) && decide (e.time = 0) else false
set_option maxHeartbeats 1000000 in
theorem s113 (e : Ent) (hl : e.link.length ≤ 1000000) : callT AA 113 [e.av] [] = some (.bool (fieldsB e), []) := by
 have h1 := s151 e.link 400 hl
 have h2 := s112 e.link hl
 have hd : (e.data.l.length : Int) = 0 ↔ e.data.l = [] := by
  constructor
  ·intro h; exact List.eq_nil_of_length_eq_zero (by omega)
  ·intro h; simp [h]
 refine enter fn113 np113 rfl ?_
 have gg:=trivial;repeat' first|simp (maxSteps:=2000000) (disch:=omega) only [gg,b113,s150,h1,h2,go_sem]|(refine br ?_ ?_<;>intro gg<;>try omega)|(apply And.intro;focus omega)|omega
 all_goals (clear h1 h2 hl)
 (all_goals (first | (simp_all [fieldsB]; done) | (simp_all [fieldsB]; omega) | (simp_all [fieldsB]; intros; omega) | (simp_all [fieldsB]; rw [Bool.eq_iff_iff]; simp; done) | (simp_all [fieldsB]; rw [Bool.eq_iff_iff]; simp; omega)))
structure Ck where
 ks : Kinds
 last : List UInt8
 size : Int
def Ck.heap (c : Ck) : Heap := [(0, .var [.mapr 1, .str c.last, .int .i64 c.size]), (1, .map (c.ks.map kv))]
attribute [go_sem] Ck.heap
def entryE (c : Ck) (e : Ent) : Int × Ck :=
 if goodB e.path = false then (12, c) else
 if fieldsB e = false then (13, c) else
 if 0 < c.ks.length ∧ 0 ≤ cmpPath c.last e.path then (13, c) else
 if (parentP e.path).2 = true ∧ lk (parentP e.path).1 c.ks ≠ 1 then (13, c) else
 if e.kind = 4 ∧ lk e.link c.ks ≠ 2 then (13, c) else
 if 1048576 < c.size + e.data.l.length then (18, { c with size := c.size + e.data.l.length }) else
 (0, { ks := putK e.path e.kind c.ks, last := e.path, size := c.size + e.data.l.length })
set_option maxHeartbeats 2000000 in
theorem s67 (c : Ck) (e : Ent) (hl : e.link.length ≤ 1000000) (hp : e.path.length ≤ 1000000) (hc : c.last.length ≤ 1000000) (hs : 0 ≤ c.size ∧ c.size ≤ 1048576) (hd : e.data.l.length ≤ 281474976710656) :
  callT AA 67 [.ptr 0 0, e.av] c.heap = some (errV (entryE c e).1, (entryE c e).2.heap) := by
 have h1 := s112 e.path hp
 have h2 := s113 e hl
 have h3 := s87 c.last e.path hc hp
 have h4 := s84 e.path hp
 simp only [Ent.av] at h2
 have e12 : errV 12 = .iface 58 (.int .i64 12) := rfl
 have e13 : errV 13 = .iface 58 (.int .i64 13) := rfl
 have e18 : errV 18 = .iface 58 (.int .i64 18) := rfl
 have e0 : errV 0 = .lit .nilIface := rfl
 refine enter fn67 np67 rfl ?_
 cases g1 : goodB e.path with
 | false =>
  have he : entryE c e = (12, c) := by simp [entryE, g1]
  rw [g1] at h1
  rw [he, e12]
  have gg:=trivial;repeat' first|simp (maxSteps:=2000000) (disch:=omega) only [gg,b67,h1,go_sem]|(refine br ?_ ?_<;>intro gg<;>try omega)|(apply And.intro;focus omega)|omega
 | true =>
  rw [g1] at h1
  cases g2 : fieldsB e with
  | false =>
   have he : entryE c e = (13, c) := by simp [entryE, g1, g2]
   rw [g2] at h2
   rw [he, e13]
   have gg:=trivial;repeat' first|simp (maxSteps:=2000000) (disch:=omega) only [gg,b67,h1,h2,go_sem]|(refine br ?_ ?_<;>intro gg<;>try omega)|(apply And.intro;focus omega)|omega
  | true =>
   rw [g2] at h2
   by_cases g3 : 0 < c.ks.length ∧ 0 ≤ cmpPath c.last e.path
   ·have he : entryE c e = (13, c) := by simp [entryE, g1, g2, g3]
    obtain ⟨g3a, g3b⟩ := g3
    rw [he, e13]
    have gg:=trivial;repeat' first|simp (maxSteps:=2000000) (disch:=omega) only [gg,b67,h1,h2,h3,go_sem]|(refine br ?_ ?_<;>intro gg<;>try omega)|(apply And.intro;focus omega)|omega
   ·by_cases g4 : (parentP e.path).2 = true ∧ lk (parentP e.path).1 c.ks ≠ 1
    ·have he : entryE c e = (13, c) := by
      unfold entryE
      rw [if_neg (by simp [g1]), if_neg (by simp [g2]), if_neg g3, if_pos g4]
     obtain ⟨g4a, g4b⟩ := g4
     rw [g4a] at h4
     rw [he, e13]
     have gg:=trivial;repeat' first|simp (maxSteps:=2000000) (disch:=omega) only [gg,b67,h1,h2,h3,h4,go_sem]|(refine br ?_ ?_<;>intro gg<;>try omega)|(apply And.intro;focus omega)|omega
    ·by_cases g5 : e.kind = 4 ∧ lk e.link c.ks ≠ 2
     ·have he : entryE c e = (13, c) := by
       unfold entryE
       rw [if_neg (by simp [g1]), if_neg (by simp [g2]), if_neg g3, if_neg g4, if_pos g5]
      obtain ⟨g5a, g5b⟩ := g5
      rw [he, e13]
      have gg:=trivial;repeat' first|simp (maxSteps:=2000000) (disch:=omega) only [gg,b67,h1,h2,h3,h4,go_sem]|(refine br ?_ ?_<;>intro gg<;>try omega)|(apply And.intro;focus omega)|omega
      (all_goals (first | (simp_all []; done) | (simp_all []; omega) | (simp_all []; intros; omega) | (simp_all []; rw [Bool.eq_iff_iff]; simp; done) | (simp_all []; rw [Bool.eq_iff_iff]; simp; omega)))
     ·by_cases g6 : 1048576 < c.size + e.data.l.length
      ·have he : entryE c e = (18, { c with size := c.size + e.data.l.length }) := by
        unfold entryE
        rw [if_neg (by simp [g1]), if_neg (by simp [g2]), if_neg g3, if_neg g4, if_neg g5, if_pos g6]
       rw [he, e18]
       have gg:=trivial;repeat' first|simp (maxSteps:=2000000) (disch:=omega) only [gg,b67,h1,h2,h3,h4,go_sem]|(refine br ?_ ?_<;>intro gg<;>try omega)|(apply And.intro;focus omega)|omega
       (all_goals (first | (simp_all []; done) | (simp_all []; omega) | (simp_all []; intros; omega) | (simp_all []; rw [Bool.eq_iff_iff]; simp; done) | (simp_all []; rw [Bool.eq_iff_iff]; simp; omega)))
      ·have he : entryE c e = (0, { ks := putK e.path e.kind c.ks, last := e.path, size := c.size + e.data.l.length }) := by
        unfold entryE
        rw [if_neg (by simp [g1]), if_neg (by simp [g2]), if_neg g3, if_neg g4, if_neg g5, if_neg g6]
       rw [he, e0]
       have gg:=trivial;repeat' first|simp (maxSteps:=2000000) (disch:=omega) only [gg,b67,h1,h2,h3,h4,go_sem]|(refine br ?_ ?_<;>intro gg<;>try omega)|(apply And.intro;focus omega)|omega
       (all_goals (first | (simp_all []; done) | (simp_all []; omega) | (simp_all []; intros; omega) | (simp_all []; rw [Bool.eq_iff_iff]; simp; done) | (simp_all []; rw [Bool.eq_iff_iff]; simp; omega)))
end Go.Abs
namespace Go.Abs
open Am
set_option maxRecDepth 10000
def checkL (c : Ck) (i : Int) : List Ent → Int × Int
 | [] => (-1, 0)
 | e :: r => if (entryE c e).1 = 0 then checkL (entryE c e).2 (i + 1) r else (i, (entryE c e).1)
def checkT (t : List Ent) : Int × Int := if 200 < t.length then (t.length, 19) else checkL ⟨[], [], 0⟩ 0 t
def EntOk (e : Ent) : Prop := e.link.length ≤ 1000000 ∧ e.path.length ≤ 1000000 ∧ e.data.l.length ≤ 281474976710656 ∧ e.data.isTmp = false
theorem entryE_err (c : Ck) (e : Ent) : (entryE c e).1 = 0 ∨ 0 < (entryE c e).1 := by
 unfold entryE
 repeat' split
 all_goals simp
theorem entryE_ok {c : Ck} {e : Ent} (h : (entryE c e).1 = 0) : (entryE c e).2.last = e.path ∧ (entryE c e).2.size ≤ 1048576 ∧ (entryE c e).2.size = c.size + e.data.l.length := by
 unfold entryE at h ⊢
 by_cases g1 : goodB e.path = false
 ·rw [if_pos g1] at h; simp at h
 rw [if_neg g1] at h ⊢
 by_cases g2 : fieldsB e = false
 ·rw [if_pos g2] at h; simp at h
 rw [if_neg g2] at h ⊢
 by_cases g3 : 0 < c.ks.length ∧ 0 ≤ cmpPath c.last e.path
 ·rw [if_pos g3] at h; simp at h
 rw [if_neg g3] at h ⊢
 by_cases g4 : (parentP e.path).2 = true ∧ lk (parentP e.path).1 c.ks ≠ 1
 ·rw [if_pos g4] at h; simp at h
 rw [if_neg g4] at h ⊢
 by_cases g5 : e.kind = 4 ∧ lk e.link c.ks ≠ 2
 ·rw [if_pos g5] at h; simp at h
 rw [if_neg g5] at h ⊢
 by_cases g6 : 1048576 < c.size + e.data.l.length
 ·rw [if_pos g6] at h; simp at h
 rw [if_neg g6]
 exact ⟨rfl, by show c.size + e.data.l.length ≤ 1048576; omega, rfl⟩
theorem h31 (cl tmp : Bool) (t : List Ent) (ht : t.length ≤ 200) (hq : ∀ e ∈ t, EntOk e) (r0 : Int × Int) : ∀ (rest done : List Ent) (c : Ck) (n i : Int), t = done ++ rest → i = done.length → n = t.length → c.last.length ≤ 1000000 → (0 ≤ c.size ∧ c.size ≤ 1048576) → r0 = checkL c i rest →
  HD AA 0 [2, 3, 4, 17, 18, 19] l31_0 ⟨[.junk, .junk, .int .i64 0, .lit .nilIface, .ptr 0 0, .junk, .junk, .junk, .junk, .junk, .junk, .junk, .junk, .junk, .junk, .junk, .junk, .view 8 (t.map Ent.av) cl tmp, .int .i64 n, .int .i64 i, .junk, .junk, .junk, .junk, .junk, .junk, .junk, .junk, .junk, .junk, .junk, .junk], c.heap, 2⟩ [.blk 0, .code r31_0] (Fin [(2, none), (3, none)] 0 (.tuple [.int .i64 r0.1, errV r0.2]) [])
 | [], done, c, n, i, h1, h2, h3, h4, h5, h6 => by
  subst h1
  refine hd_of (by unfold l31_0; rfl) ?_
  simp at h3
  have e0 : errV 0 = .lit .nilIface := rfl
  have gg:=trivial;repeat' first|simp (maxSteps:=2000000) (disch:=omega) only [gg,r31_0,go_sem]|(refine br ?_ ?_<;>intro gg<;>try omega)|(apply And.intro;focus omega)|omega
  simp [h6, checkL, errV]
 | e :: r, done, c, n, i, h1, h2, h3, h4, h5, h6 => by
  obtain ⟨q1, q2, q3, q4⟩ := hq e (by simp [h1])
  have hp := s67 c e q1 q2 h4 h5 q3
  simp only [Ent.av] at hp
  have hg : t[i.toNat]? = some e := by
   rw [h1]
   simp [h2]
  have hl : i.toNat < t.length := by rw [h1]; simp; omega
  refine hd_of (by unfold l31_0; rfl) ?_
  unfold checkL at h6
  rcases entryE_err c e with he | he
  ·rw [if_pos he] at h6
   obtain ⟨k1, k2, k3⟩ := entryE_ok he
   have ih := h31 cl tmp t ht hq r0 r (done ++ [e]) (entryE c e).2 n (i + 1) (by simp [h1]) (by first | omega | (simp; omega) | (simp; done)) h3 (by rw [k1]; exact q2) ⟨by omega, k2⟩ h6
   have e0 : errV (entryE c e).1 = .lit .nilIface := by rw [he]; rfl
   rw [e0] at hp
   simp only [Ck.heap] at hp ih
   have gg:=trivial;repeat' first|simp (maxSteps:=2000000) (disch:=omega) only [gg,hp,hg,lp_head,ih,go_sem]|(refine br ?_ ?_<;>intro gg<;>try omega)|(apply And.intro;focus omega)|omega
  ·rw [if_neg (by omega)] at h6
   have e0 : errV (entryE c e).1 = .iface 58 (.int .i64 (entryE c e).1) := by unfold errV; rw [if_neg (by omega)]
   rw [e0] at hp
   simp only [Ck.heap] at hp
   have gg:=trivial;repeat' first|simp (maxSteps:=2000000) (disch:=omega) only [gg,hp,hg,lp_head,go_sem]|(refine br ?_ ?_<;>intro gg<;>try omega)|(apply And.intro;focus omega)|omega
   simp [h6, e0]
theorem s31 (cl tmp : Bool) (t : List Ent) (hq : ∀ e ∈ t, EntOk e) (hl : t.length ≤ 1000000000) : callT AA 31 [.view 8 (t.map Ent.av) cl tmp] [] = some (.tuple [.int .i64 (checkT t).1, errV (checkT t).2], []) := by
 refine enter fn31 np31 rfl ?_
 unfold checkT
 by_cases ht : 200 < t.length
 ·rw [if_pos ht]
  have e0 : errV 19 = .iface 58 (.int .i64 19) := rfl
  have gg:=trivial;repeat' first|simp (maxSteps:=2000000) (disch:=omega) only [gg,b31,e0,go_sem]|(refine br ?_ ?_<;>intro gg<;>try omega)|(apply And.intro;focus omega)|omega
 ·rw [if_neg ht]
  have gg:=trivial;repeat' first|simp (maxSteps:=2000000) (disch:=omega) only [gg,b31,lp_head,go_sem]|(refine br ?_ ?_<;>intro gg<;>try omega)|(apply And.intro;focus omega)|omega
  exact h31 cl tmp t (by omega) hq _ t [] ⟨[], [], 0⟩ _ _ rfl rfl rfl (by simp) (by simp) rfl
theorem s31n : callT AA 31 [.lit (.slice none 0 0)] [] = some (.tuple [.int .i64 (-1), .lit .nilIface], []) := by
 refine enter fn31 np31 rfl ?_
 have gg:=trivial;repeat' first|simp (maxSteps:=2000000) (disch:=omega) only [gg,b31,lp_head,go_sem]|(refine br ?_ ?_<;>intro gg<;>try omega)|(apply And.intro;focus omega)|omega
 refine hd_of (by unfold l31_0; rfl) ?_
 have gg:=trivial;repeat' first|simp (maxSteps:=2000000) (disch:=omega) only [gg,r31_0,go_sem]|(refine br ?_ ?_<;>intro gg<;>try omega)|(apply And.intro;focus omega)|omega
theorem s101 (c t : Bool) (l : List UInt8) (hl : l.length ≤ 281474976710656 / 4) : callT AA 101 [(BS.mk c t l).av] [] = some (.own 0 1 0 l.length false, [(0, .row (l.map .byte) 1)]) := by
 refine enter fn101 np101 rfl ?_
 have gg:=trivial;repeat' first|simp (maxSteps:=2000000) (disch:=omega) only [gg,b101,BS.isNil,go_sem]|(refine br ?_ ?_<;>intro gg<;>try omega)|(apply And.intro;focus omega)|omega
theorem s101n : callT AA 101 [.lit (.slice none 0 0)] [] = some (.lit (.slice none 0 0), []) := by
 refine enter fn101 np101 rfl ?_
 have gg:=trivial;repeat' first|simp (maxSteps:=2000000) (disch:=omega) only [gg,b101,BS.isNil,go_sem]|(refine br ?_ ?_<;>intro gg<;>try omega)|(apply And.intro;focus omega)|omega
theorem s108 (e : Ent) (c t : Bool) (l : List UInt8) (he : e.data = .mk c t l) (hl : l.length ≤ 281474976710656 / 4) : callT AA 108 [e.av] [] = some (.agg [.str e.path, .int .i64 e.kind, .int .i64 e.mode, .int .i64 e.uid, .int .i64 e.gid, .int .i64 e.time, .str e.link, .own 0 1 0 l.length false], [(0, .row (l.map .byte) 1)]) := by
 have h := s101 c t l hl
 refine enter fn108 np108 rfl ?_
 have gg:=trivial;repeat' first|simp (maxSteps:=2000000) (disch:=omega) only [gg,b108,h,he,go_sem]|(refine br ?_ ?_<;>intro gg<;>try omega)|(apply And.intro;focus omega)|omega
theorem s108n (e : Ent) (he : e.data = .nil) : callT AA 108 [e.av] [] = some (e.av, []) := by
 refine enter fn108 np108 rfl ?_
 have gg:=trivial;repeat' first|simp (maxSteps:=2000000) (disch:=omega) only [gg,b108,s101n,he,go_sem]|(refine br ?_ ?_<;>intro gg<;>try omega)|(apply And.intro;focus omega)|omega
theorem h65 (c tmp : Bool) (t : List Ent) (ht : t.length ≤ 1000000) (hq : ∀ e ∈ t, e.data.l.length ≤ 281474976710656 / 4) : ∀ (rest done : List Ent) (n i : Int) (q : Nat), t = done ++ rest → i = done.length → n = t.length → q = done.length →
  HD AA 0 [2, 3, 6, 7, 8] l65_0 ⟨[.junk, .junk, .lit (.slice none 0 0), .own 0 8 0 q false, .junk, .junk, .view 8 (t.map Ent.av) c tmp, .int .i64 n, .int .i64 i, .junk, .junk, .junk, .junk, .junk, .junk, .junk, .junk, .junk, .junk], [(0, .row (done.map Ent.cav) 8)], 1⟩ [.blk 0, .code r65_0] (Fin [(2, none)] 0 (.own 0 8 0 t.length false) [(0, .row (t.map Ent.cav) 8)])
 | [], done, n, i, q, h1, h2, h3, h4 => by
  subst h1
  refine hd_of (by unfold l65_0; rfl) ?_
  simp at h3
  have gg:=trivial;repeat' first|simp (maxSteps:=2000000) (disch:=omega) only [gg,r65_0,go_sem]|(refine br ?_ ?_<;>intro gg<;>try omega)|(apply And.intro;focus omega)|omega
  simp [h4]
 | e :: r, done, n, i, q, h1, h2, h3, h4 => by
  have hg : t[i.toNat]? = some e := by
   rw [h1]
   simp [h2]
  have hl : i.toNat < t.length := by rw [h1]; simp; omega
  have he := hq e (by simp [h1])
  have ih := h65 c tmp t ht hq r (done ++ [e]) n (i + 1) (q + 1) (by simp [h1]) (by first | omega | (simp; omega) | (simp; done)) h3 (by first | omega | (simp; omega) | (simp; done))
  refine hd_of (by unfold l65_0; rfl) ?_
  subst h4
  cases hd : e.data with
  | nil =>
   have hp := s108n e hd
   simp only [Ent.av, hd, av_nil] at hp
   simp only [List.map_append, List.map_cons, List.map_nil, Ent.cav, hd, cp_nil, av_nil] at ih
   have gg:=trivial;repeat' first|simp (maxSteps:=2000000) (disch:=omega) only [gg,hp,hg,hd,lp_head,go_sem]|(refine br ?_ ?_<;>intro gg<;>try omega)|(apply And.intro;focus omega)|omega
  | mk cc tt l =>
   rw [hd] at he
   have hp := s108 e cc tt l hd he
   simp only [Ent.av, hd] at hp
   simp only [List.map_append, List.map_cons, List.map_nil, Ent.cav, hd, cp_mk, mk_av] at ih
   have gg:=trivial;repeat' first|simp (maxSteps:=2000000) (disch:=omega) only [gg,hp,hg,hd,lp_head,go_sem]|(refine br ?_ ?_<;>intro gg<;>try omega)|(apply And.intro;focus omega)|omega
theorem s65n : callT AA 65 [.lit (.slice none 0 0)] [] = some (.lit (.slice none 0 0), []) := by
 refine enter fn65 np65 rfl ?_
 have gg:=trivial;repeat' first|simp (maxSteps:=2000000) (disch:=omega) only [gg,b65,lp_head,go_sem]|(refine br ?_ ?_<;>intro gg<;>try omega)|(apply And.intro;focus omega)|omega
 refine hd_of (by unfold l65_0; rfl) ?_
 have gg:=trivial;repeat' first|simp (maxSteps:=2000000) (disch:=omega) only [gg,r65_0,go_sem]|(refine br ?_ ?_<;>intro gg<;>try omega)|(apply And.intro;focus omega)|omega
theorem s65 (c tmp : Bool) (e : Ent) (r : List Ent) (ht : (e :: r).length ≤ 1000000) (hq : ∀ x ∈ e :: r, x.data.l.length ≤ 281474976710656 / 4) : callT AA 65 [.view 8 ((e :: r).map Ent.av) c tmp] [] = some (.own 0 8 0 (e :: r).length false, [(0, .row ((e :: r).map Ent.cav) 8)]) := by
 have he := hq e (by simp)
 have ih := h65 c tmp (e :: r) ht hq r [e] (e :: r).length 1 1 rfl rfl rfl rfl
 refine enter fn65 np65 rfl ?_
 generalize ht' : e :: r = t at *
 have hg : t[0]? = some e := by rw [← ht']; rfl
 have hl : 0 < t.length := by rw [← ht']; simp
 have gg:=trivial;repeat' first|simp (maxSteps:=2000000) (disch:=omega) only [gg,b65,lp_head,go_sem]|(refine br ?_ ?_<;>intro gg<;>try omega)|(apply And.intro;focus omega)|omega
 refine hd_of (by unfold l65_0; rfl) ?_
 cases hd : e.data with
 | nil =>
  have hp := s108n e hd
  simp only [Ent.av, hd, av_nil] at hp
  simp only [List.map_append, List.map_cons, List.map_nil, Ent.cav, hd, cp_nil, av_nil] at ih
  have gg:=trivial;repeat' first|simp (maxSteps:=2000000) (disch:=omega) only [gg,hp,hg,hd,lp_head,go_sem]|(refine br ?_ ?_<;>intro gg<;>try omega)|(apply And.intro;focus omega)|omega
 | mk cc tt l =>
  rw [hd] at he
  have hp := s108 e cc tt l hd he
  simp only [Ent.av, hd] at hp
  simp only [List.map_append, List.map_cons, List.map_nil, Ent.cav, hd, cp_mk, mk_av] at ih
  have gg:=trivial;repeat' first|simp (maxSteps:=2000000) (disch:=omega) only [gg,hp,hg,hd,lp_head,go_sem]|(refine br ?_ ?_<;>intro gg<;>try omega)|(apply And.intro;focus omega)|omega
end Go.Abs
namespace Go.Abs
open Am
set_option maxRecDepth 10000
theorem s46 (n : Int) : callT AA 46 [.int .i64 n] [] = some (.bool (decide (0 ≤ n ∧ n < 2097152)), []) := by
 refine enter fn46 np46 rfl ?_
 have gg:=trivial;repeat' first|simp (maxSteps:=2000000) (disch:=omega) only [gg,b46,go_sem]|(refine br ?_ ?_<;>intro gg<;>try omega)|(apply And.intro;focus omega)|omega
 (all_goals (first | (simp_all []; done) | (simp_all []; omega) | (simp_all []; intros; omega) | (simp_all []; rw [Bool.eq_iff_iff]; simp; done) | (simp_all []; rw [Bool.eq_iff_iff]; simp; omega)))
theorem s48 (n : Int) : callT AA 48 [.int .i64 n] [] = some (.bool (decide (0 ≤ n ∧ n < 8589934592)), []) := by
 refine enter fn48 np48 rfl ?_
 have gg:=trivial;repeat' first|simp (maxSteps:=2000000) (disch:=omega) only [gg,b48,go_sem]|(refine br ?_ ?_<;>intro gg<;>try omega)|(apply And.intro;focus omega)|omega
 (all_goals (first | (simp_all []; done) | (simp_all []; omega) | (simp_all []; intros; omega) | (simp_all []; rw [Bool.eq_iff_iff]; simp; done) | (simp_all []; rw [Bool.eq_iff_iff]; simp; omega)))
theorem s127 (n : Int) : callT AA 127 [.int .i32 n] [] = some (.bool (decide (n = 0 ∨ 127 < n)), []) := by
 refine enter fn127 np127 rfl ?_
 have gg:=trivial;repeat' first|simp (maxSteps:=2000000) (disch:=omega) only [gg,b127,go_sem]|(refine br ?_ ?_<;>intro gg<;>try omega)|(apply And.intro;focus omega)|omega
 (all_goals (first | (simp_all []; done) | (simp_all []; omega) | (simp_all []; intros; omega) | (simp_all []; rw [Bool.eq_iff_iff]; simp; done) | (simp_all []; rw [Bool.eq_iff_iff]; simp; omega)))
def okByte (b : UInt8) : Bool := decide (b.toNat ≠ 0 ∧ b.toNat < 128)
theorem decode_high (b : UInt8) (t : List UInt8) (h : 128 ≤ b.toNat) : 128 ≤ (Lib.decodeL (b :: t)).1 := by
 rw [Lib.decodeL_N]
 have h0 : ((b :: t).getD 0 0).toNat = b.toNat := rfl
 rw [h0]
 have hb := b.toNat_lt
 unfold Lib.decodeN
 repeat' split
 all_goals (simp only []; omega)
def badByte : Int → List UInt8 → Int
 | _, [] => -1
 | i, b :: r => if okByte b = true then badByte (i + 1) r else i
theorem badByte_neg : ∀ (s : List UInt8) (i : Int), 0 ≤ i → (decide (badByte i s < 0) = s.all okByte)
 | [], i, _ => by simp [badByte]
 | b :: r, i, h => by
  unfold badByte
  have ih := badByte_neg r (i + 1) (by omega)
  by_cases hp : okByte b = true
  ·simp [hp, ih]
  ·simp [hp]; omega
theorem h161 (s : List UInt8) (hs : s.length ≤ 1000000) (r0 : Int) : ∀ (rest done : List UInt8) (pos : Nat), s = done ++ rest → pos = done.length → r0 = badByte pos rest →
  HD AA 0 [1, 2, 6, 10] l161_0 ⟨[.junk, .func (.func 127) [], .bool true, .junk, .junk, .junk, .int .i64 0, .junk, .junk, .junk, .ptr 0 0, .junk, .junk, .junk, .junk, .junk, .junk, .junk, .junk, .junk, .junk], [(0, .iter s pos)], 1⟩ [.blk 0, .code r161_0] (Fin [(6, none)] 0 (.int .i64 r0) [])
 | [], done, pos, h1, h2, h3 => by
  subst h1
  have hn : ¬ pos < done.length := by omega
  refine hd_of (by unfold l161_0; rfl) ?_
  have gg:=trivial;repeat' first|simp (maxSteps:=2000000) (disch:=omega) only [gg,r161_0,List.append_nil,hn,go_sem]|(refine br ?_ ?_<;>intro gg<;>try omega)|(apply And.intro;focus omega)|omega
  simp [h3, badByte]
 | b :: r, done, pos, h1, h2, h3 => by
  have hp : pos < s.length := by rw [h1, h2]; simp
  have hd : Utf8.decode ⟨s.toArray⟩ pos = Lib.decodeL (b :: r) := by
   rw [← Lib.decodeL_drop]
   have : (ByteArray.mk s.toArray).data.toList.drop pos = b :: r := by
    rw [h1, h2]; simp
   rw [this]
  refine hd_of (by unfold l161_0; rfl) ?_
  unfold badByte at h3
  by_cases hb : b.toNat < 128
  ·have ha := Lib.decodeL_ascii b r hb
   rw [ha] at hd
   by_cases hz : b.toNat = 0
   ·rw [if_neg (by simp [okByte, hz])] at h3
    have hf := s127 (b.toNat : Int)
    rw [decide_eq_true (by omega)] at hf
    have gg:=trivial;repeat' first|simp (maxSteps:=2000000) (disch:=omega) only [gg,hp,hd,hf,lp_head,go_sem]|(refine br ?_ ?_<;>intro gg<;>try omega)|(apply And.intro;focus omega)|omega
    simp [h3]
   ·rw [if_pos (by simp [okByte, hz, hb])] at h3
    have ih := h161 s hs r0 r (done ++ [b]) (pos + 1) (by simp [h1]) (by first | omega | (simp; omega) | (simp; done)) (by rw [h3]; simp)
    have hf := s127 (b.toNat : Int)
    rw [decide_eq_false (by omega)] at hf
    have gg:=trivial;repeat' first|simp (maxSteps:=2000000) (disch:=omega) only [gg,hp,hd,hf,lp_head,go_sem]|(refine br ?_ ?_<;>intro gg<;>try omega)|(apply And.intro;focus omega)|omega
  ·rw [if_neg (by simp [okByte]; omega)] at h3
   have hh := decode_high b r (by omega)
   generalize Lib.decodeL (b :: r) = dd at hd hh
   obtain ⟨d1, d2⟩ := dd
   simp only at hh
   have hf := s127 (d1 : Int)
   rw [decide_eq_true (by omega)] at hf
   have gg:=trivial;repeat' first|simp (maxSteps:=2000000) (disch:=omega) only [gg,hp,hd,hf,lp_head,go_sem]|(refine br ?_ ?_<;>intro gg<;>try omega)|(apply And.intro;focus omega)|omega
   simp [h3]
def asciiB (s : List UInt8) : Bool := s.all okByte
theorem s82 (s : List UInt8) (hs : s.length ≤ 1000000) : callT AA 82 [.str s] [] = some (.bool (asciiB s), []) := by
 have h1 : callT AA 161 [.str s, .func (.func 127) [], .bool true] [] = some (.int .i64 (badByte 0 s), []) := by
  refine enter fn161 np161 rfl ?_
  have gg:=trivial;repeat' first|simp (maxSteps:=2000000) (disch:=omega) only [gg,b161,lp_head,go_sem]|(refine br ?_ ?_<;>intro gg<;>try omega)|(apply And.intro;focus omega)|omega
  exact h161 s hs _ s [] 0 rfl rfl rfl
 have h2 : callT AA 126 [.str s, .func (.func 127) []] [] = some (.int .i64 (badByte 0 s), []) := by
  refine enter fn126 np126 rfl ?_
  have gg:=trivial;repeat' first|simp (maxSteps:=2000000) (disch:=omega) only [gg,b126,h1,go_sem]|(refine br ?_ ?_<;>intro gg<;>try omega)|(apply And.intro;focus omega)|omega
 have h3 := badByte_neg s 0 (by omega)
 refine enter fn82 np82 rfl ?_
 have gg:=trivial;repeat' first|simp (maxSteps:=2000000) (disch:=omega) only [gg,b82,h2,h3,asciiB,go_sem]|(refine br ?_ ?_<;>intro gg<;>try omega)|(apply And.intro;focus omega)|omega
theorem s45 (s : List UInt8) (hs : s.length ≤ 1000000) : callT AA 45 [.str s] [] = some (.bool (decide (s ≠ []) && decide ((s.length : Int) ≤ 100) && asciiB s), []) := by
 have h1 := s82 s hs
 refine enter fn45 np45 rfl ?_
 have gg:=trivial;repeat' first|simp (maxSteps:=2000000) (disch:=omega) only [gg,b45,h1,go_sem]|(refine br ?_ ?_<;>intro gg<;>try omega)|(apply And.intro;focus omega)|omega
 (all_goals (first | (simp_all []; done) | (simp_all []; omega) | (simp_all []; intros; omega) | (simp_all []; rw [Bool.eq_iff_iff]; simp; done) | (simp_all []; rw [Bool.eq_iff_iff]; simp; omega)))
end Go.Abs
namespace Go.Abs
open Am
set_option maxRecDepth 10000
def spOk (p : List UInt8) (i : Nat) : Bool := decide (p[i]? = some 47) && decide (1 ≤ i) && decide (i ≤ 155) && decide (i + 2 ≤ p.length) && decide (p.length ≤ i + 101)
def spAt (p : List UInt8) : Nat → Nat → List UInt8 × List UInt8 × Bool
 | 0, _ => ([], [], false)
 | k + 1, i => if spOk p i = true then (p.take i, p.drop (i + 1), true) else spAt p k (i + 1)
def splitN (p : List UInt8) : List UInt8 × List UInt8 × Bool :=
 if p = [] ∨ asciiB p = false then ([], [], false) else if p.length ≤ 100 then ([], p, true) else spAt p p.length 0
theorem h81 (p : List UInt8) (hp : p.length ≤ 1000000) (r0 : List UInt8 × List UInt8 × Bool) : ∀ (k i : Nat) (n j : Int), i + k = p.length → j = i → n = p.length → r0 = spAt p k i →
  HD AA 0 [0, 2, 3, 4, 18, 19] l81_0 ⟨[.str p, .junk, .str [], .str [], .bool false, .junk, .junk, .junk, .junk, .junk, .junk, .junk, .junk, .junk, .junk, .junk, .junk, .junk, .int .i64 n, .int .i64 j, .junk, .junk, .junk, .junk, .junk, .junk, .junk, .junk, .junk, .junk, .junk, .junk, .junk, .junk, .junk, .junk, .junk, .junk, .junk, .junk, .junk, .junk, .junk, .junk, .junk, .junk, .junk, .junk, .junk, .junk, .junk, .junk, .junk, .junk, .junk, .junk, .junk, .junk], [], 0⟩ [.blk 0, .code r81_0] (Fin [(2, none), (3, none), (4, none)] 0 (.tuple [.str r0.1, .str r0.2.1, .bool r0.2.2]) [])
 | 0, i, n, j, h1, h2, h3, h4 => by
  refine hd_of (by unfold l81_0; rfl) ?_
  have gg:=trivial;repeat' first|simp (maxSteps:=2000000) (disch:=omega) only [gg,r81_0,go_sem]|(refine br ?_ ?_<;>intro gg<;>try omega)|(apply And.intro;focus omega)|omega
  simp [h4, spAt]
 | k + 1, i, n, j, h1, h2, h3, h4 => by
  have hl : i < p.length := by omega
  have hg : p[i]? = some p[i] := List.getElem?_eq_getElem hl
  have hj : j.toNat = i := by omega
  refine hd_of (by unfold l81_0; rfl) ?_
  unfold spAt at h4
  by_cases hok : spOk p i = true
  ·rw [if_pos hok] at h4
   simp only [spOk, hg, Bool.and_eq_true, decide_eq_true_eq, Option.some.injEq] at hok
   have h47 : (p[i].toNat : Int) = 47 := by rw [hok.1.1.1.1]; rfl
   have gg:=trivial;repeat' first|simp (maxSteps:=2000000) (disch:=omega) only [gg,hg,hj,h47,go_sem]|(refine br ?_ ?_<;>intro gg<;>try omega)|(apply And.intro;focus omega)|omega
   simp [h4]
  ·rw [if_neg hok] at h4
   have ih := h81 p hp r0 k (i + 1) n (j + 1) (by first | omega | (simp; omega) | (simp; done)) (by first | omega | (simp; omega) | (simp; done)) h3 h4
   simp only [spOk, hg, Bool.and_eq_true, decide_eq_true_eq, Option.some.injEq] at hok
   have hne : ¬ ((p[i].toNat : Int) = 47 ∧ 1 ≤ i ∧ i ≤ 155 ∧ i + 2 ≤ p.length ∧ p.length ≤ i + 101) := by
    rintro ⟨a, b⟩
    refine hok ⟨⟨⟨⟨UInt8.toNat_inj.1 (by rw [show (47 : UInt8).toNat = 47 from rfl]; omega), b.1⟩, b.2.1⟩, b.2.2.1⟩, b.2.2.2⟩
   have gg:=trivial;repeat' first|simp (maxSteps:=2000000) (disch:=omega) only [gg,hg,hj,lp_head,go_sem]|(refine br ?_ ?_<;>intro gg<;>try omega)|(apply And.intro;focus omega)|omega
theorem s81 (p : List UInt8) (hp : p.length ≤ 1000000) : callT AA 81 [.str p] [] = some (.tuple [.str (splitN p).1, .str (splitN p).2.1, .bool (splitN p).2.2], []) := by
 have h1 := s82 p hp
 refine enter fn81 np81 rfl ?_
 unfold splitN
 by_cases h0 : p = [] ∨ asciiB p = false
 ·rw [if_pos h0]
  by_cases he : p = []
  ·have gg:=trivial;repeat' first|simp (maxSteps:=2000000) (disch:=omega) only [gg,b81,h1,he,go_sem]|(refine br ?_ ?_<;>intro gg<;>try omega)|(apply And.intro;focus omega)|omega
  ·have ha : asciiB p = false := by simpa [he] using h0
   have gg:=trivial;repeat' first|simp (maxSteps:=2000000) (disch:=omega) only [gg,b81,h1,he,ha,go_sem]|(refine br ?_ ?_<;>intro gg<;>try omega)|(apply And.intro;focus omega)|omega
 ·rw [if_neg h0]
  have he : ¬ p = [] := fun h => h0 (.inl h)
  have ha : asciiB p = true := by
   cases hx : asciiB p with
   | true => rfl
   | false => exact (h0 (.inr hx)).elim
  by_cases hl : p.length ≤ 100
  ·rw [if_pos hl]
   have gg:=trivial;repeat' first|simp (maxSteps:=2000000) (disch:=omega) only [gg,b81,h1,he,ha,go_sem]|(refine br ?_ ?_<;>intro gg<;>try omega)|(apply And.intro;focus omega)|omega
  ·rw [if_neg hl]
   have gg:=trivial;repeat' first|simp (maxSteps:=2000000) (disch:=omega) only [gg,b81,h1,he,ha,lp_head,go_sem]|(refine br ?_ ?_<;>intro gg<;>try omega)|(apply And.intro;focus omega)|omega
   exact h81 p hp _ p.length 0 _ _ (by omega) rfl rfl rfl
theorem s44 (p : List UInt8) (hp : p.length ≤ 1000000) : callT AA 44 [.str p] [] = some (.bool (splitN p).2.2, []) := by
 have h1 := s81 p hp
 refine enter fn44 np44 rfl ?_
 have gg:=trivial;repeat' first|simp (maxSteps:=2000000) (disch:=omega) only [gg,b44,h1,go_sem]|(refine br ?_ ?_<;>intro gg<;>try omega)|(apply And.intro;focus omega)|omega
def idB (n : Int) : Bool := decide (0 ≤ n ∧ n < 2097152)
def timeB (n : Int) : Bool := decide (0 ≤ n ∧ n < 8589934592)
def linkB (s : List UInt8) : Bool := decide (s ≠ []) && decide ((s.length : Int) ≤ 100) && asciiB s
theorem i46 (n : Int) : callT AA 46 [.int .i64 n] [] = some (.bool (idB n), []) := s46 n
theorem i48 (n : Int) : callT AA 48 [.int .i64 n] [] = some (.bool (timeB n), []) := s48 n
theorem i45 (s : List UInt8) (hs : s.length ≤ 1000000) : callT AA 45 [.str s] [] = some (.bool (linkB s), []) := s45 s hs
theorem idB_iff {n : Int} : idB n = true ↔ 0 ≤ n ∧ n < 2097152 := by simp [idB]
theorem timeB_iff {n : Int} : timeB n = true ↔ 0 ≤ n ∧ n < 8589934592 := by simp [timeB]
attribute [irreducible] idB timeB linkB
def fitsB (h : Hd) : Bool :=
 idB h.mode && idB h.uid && idB h.gid && timeB h.size && timeB h.time &&
 (if h.type = 49 ∨ h.type = 50 then linkB h.link && decide (h.size = 0) else
  if h.type = 53 then decide (h.link = []) && decide (h.size = 0) else
  if h.type = 48 ∨ h.type = 120 then decide (h.link = []) else false)
theorem ty_eq (t : UInt8) (n : Nat) (hn : n < 256) : ((t.toNat : Int) = n) = (t = UInt8.ofNat n) := by
 apply propext
 constructor
 ·intro h
  have : t.toNat = n := by omega
  rw [← this]; simp
 ·rintro rfl
  simp; omega
theorem s115 (h : Hd) (hl : h.link.length ≤ 1000000) : callT AA 115 [h.av] [] = some (.bool (fitsB h), []) := by
 have h1 := i45 h.link hl
 have t49 : ((h.type.toNat : Int) = 49) = (h.type = 49) := ty_eq _ 49 (by omega)
 have t50 : ((h.type.toNat : Int) = 50) = (h.type = 50) := ty_eq _ 50 (by omega)
 have t53 : ((h.type.toNat : Int) = 53) = (h.type = 53) := ty_eq _ 53 (by omega)
 have t48 : ((h.type.toNat : Int) = 48) = (h.type = 48) := ty_eq _ 48 (by omega)
 have t120 : ((h.type.toNat : Int) = 120) = (h.type = 120) := ty_eq _ 120 (by omega)
 refine enter fn115 np115 rfl ?_
 have gg:=trivial;repeat' first|simp (maxSteps:=2000000) (disch:=omega) only [gg,b115,h1,i46,i48,t49,t50,t53,t48,t120,go_sem]|(refine br ?_ ?_<;>intro gg<;>try omega)|(apply And.intro;focus omega)|omega
 all_goals (clear h1 t49 t50 t53 t48 t120)
 (all_goals (first | (simp_all [fitsB]; done) | (simp_all [fitsB]; omega) | (simp_all [fitsB]; intros; omega) | (simp_all [fitsB]; rw [Bool.eq_iff_iff]; simp; done) | (simp_all [fitsB]; rw [Bool.eq_iff_iff]; simp; omega)))
end Go.Abs
namespace Go.Abs
open Am
set_option maxRecDepth 10000
@[go_sem high] theorem aBin_and7 {e : EqK} {c : Bool} {x : Int} (h0 : 0 ≤ x) (h1 : x ≤ 9223372036854775807) : aBin .and e c (.int .i64 x) (.int .i64 7) = some (.int .i64 (x % 8)) := by
 rw [aBin_and]
 have e : ((BitVec.ofInt IntKind.i64.bits x &&& BitVec.ofInt IntKind.i64.bits 7).toNat : Int) = x % 8 := and7 h0 h1
 rw [e, wrap_i64 (by omega) (by omega)]
def octW (bs : List UInt8) (pos : Nat) : Nat → Int → List UInt8
 | 0, _ => bs
 | k + 1, n => octW (bs.set (pos + k) (UInt8.ofNat (48 + n % 8).toNat)) pos k (n / 8)
theorem octW_length (pos : Nat) : ∀ (k : Nat) (bs : List UInt8) (n : Int), (octW bs pos k n).length = bs.length
 | 0, bs, n => rfl
 | k + 1, bs, n => by
  unfold octW
  rw [octW_length pos k]
  simp
theorem h116 (pos : Nat) (r0 : List UInt8) : ∀ (k : Nat) (bs : List UInt8) (q : Nat) (n i p : Int), p = pos → i = (k : Int) - 1 → q = bs.length → bs.length ≤ 1000000 → pos + k ≤ bs.length → 0 ≤ n → n ≤ 9223372036854775807 → r0 = octW bs pos k n →
  HD AA 1 [0, 1, 3, 8] l116_0 ⟨[.own 0 1 0 q false, .int .i64 p, .junk, .int .i64 n, .junk, .junk, .junk, .junk, .int .i64 i, .junk, .junk, .junk, .junk, .junk, .junk, .junk, .junk, .junk, .junk, .junk, .junk, .junk, .junk, .junk, .junk, .junk], [(0, .row (bs.map .byte) 1)], 2⟩ [.blk 0] (Fin [] 1 (.tuple []) [(0, .row (r0.map .byte) 1)])
 | 0, bs, q, n, i, p, h1, h2, h3, h4, h5, h6, h7, h8 => by
  refine hd_of (by unfold l116_0; rfl) ?_
  have gg:=trivial;repeat' first|simp (maxSteps:=2000000) (disch:=omega) only [gg,go_sem]|(refine br ?_ ?_<;>intro gg<;>try omega)|(apply And.intro;focus omega)|omega
  simp [h8, octW]
 | k + 1, bs, q, n, i, p, h1, h2, h3, h4, h5, h6, h7, h8 => by
  have ih := h116 pos r0 k (bs.set (pos + k) (UInt8.ofNat (48 + n % 8).toNat)) q (n / 8) (i - 1) p h1 (by first | omega | (simp; omega) | (simp; done)) (by simp [h3]) (by simp [h4]) (by simp; omega) (by omega) (by omega) h8
  have hi : (p + i).toNat = pos + k := by omega
  refine hd_of (by unfold l116_0; rfl) ?_
  have gg:=trivial;repeat' first|simp (maxSteps:=2000000) (disch:=omega) only [gg,and7,hi,lp_head,go_sem]|(refine br ?_ ?_<;>intro gg<;>try omega)|(apply And.intro;focus omega)|omega
theorem s116 (bs : List UInt8) (p digits n : Int) (pos k q : Nat) (h1 : p = pos) (h2 : digits = k) (h3 : q = bs.length) (h4 : bs.length ≤ 1000000) (h5 : pos + k ≤ bs.length) (h6 : 0 ≤ n) (h7 : n ≤ 9223372036854775807) :
  callT AA 116 [.own 0 1 0 q false, .int .i64 p, .int .i64 digits, .int .i64 n] [(0, .row (bs.map .byte) 1)] = some (.tuple [], [(0, .row ((octW bs pos k n).map .byte) 1)]) := by
 refine enter fn116 np116 rfl ?_
 have gg:=trivial;repeat' first|simp (maxSteps:=2000000) (disch:=omega) only [gg,b116,lp_head,go_sem]|(refine br ?_ ?_<;>intro gg<;>try omega)|(apply And.intro;focus omega)|omega
 exact h116 pos _ k bs q n (digits - 1) p h1 (by omega) h3 h4 h5 h6 h7 rfl
def sumL : Nat → List UInt8 → Int
 | _, [] => 0
 | i, c :: r => (if i < 148 ∨ 156 ≤ i then (c.toNat : Int) else 0) + sumL (i + 1) r
theorem sumL_le : ∀ (r : List UInt8) (i : Nat), 0 ≤ sumL i r ∧ sumL i r ≤ 255 * r.length
 | [], i => by simp [sumL]
 | c :: r, i => by
  have ih := sumL_le r (i + 1)
  have hc := c.toNat_lt
  unfold sumL
  simp only [List.length_cons]
  split <;> omega
theorem h117 (c t : Bool) (bs : List UInt8) (hb : bs.length ≤ 1000000) (r0 : Int) : ∀ (rest done : List UInt8) (acc n i : Int), bs = done ++ rest → i = done.length → n = bs.length → (0 ≤ acc ∧ acc ≤ 256 + 255 * done.length) → r0 = acc + sumL done.length rest →
  HD AA 0 [2, 3, 6, 7, 8] l117_0 ⟨[.junk, .junk, .int .i64 0, .int .i64 acc, .junk, .junk, .view 1 (bs.map .byte) c t, .int .i64 n, .int .i64 i, .junk, .junk, .junk, .junk, .junk, .junk, .junk, .junk, .junk, .junk, .junk, .junk, .junk, .junk, .junk, .junk], [], 0⟩ [.blk 0, .code r117_0] (Fin [(2, none)] 0 (.int .i64 r0) [])
 | [], done, acc, n, i, h1, h2, h3, h4, h5 => by
  subst h1
  simp at h3
  refine hd_of (by unfold l117_0; rfl) ?_
  have gg:=trivial;repeat' first|simp (maxSteps:=2000000) (disch:=omega) only [gg,r117_0,go_sem]|(refine br ?_ ?_<;>intro gg<;>try omega)|(apply And.intro;focus omega)|omega
  simp [h5, sumL]
 | x :: r, done, acc, n, i, h1, h2, h3, h4, h5 => by
  have hg : bs[i.toNat]? = some x := by
   rw [h1]
   simp [h2]
  have hl : i.toNat < bs.length := by rw [h1]; simp; omega
  have hx := x.toNat_lt
  refine hd_of (by unfold l117_0; rfl) ?_
  unfold sumL at h5
  by_cases hs : done.length < 148 ∨ 156 ≤ done.length
  ·rw [if_pos hs] at h5
   have ih := h117 c t bs hb r0 r (done ++ [x]) (acc + x.toNat) n (i + 1) (by simp [h1]) (by first | omega | (simp; omega) | (simp; done)) h3 (by first | omega | (simp; omega) | (simp; done)) (by rw [h5]; simp; omega)
   have gg:=trivial;repeat' first|simp (maxSteps:=2000000) (disch:=omega) only [gg,hg,lp_head,go_sem]|(refine br ?_ ?_<;>intro gg<;>try omega)|(apply And.intro;focus omega)|omega
  ·rw [if_neg hs] at h5
   have ih := h117 c t bs hb r0 r (done ++ [x]) acc n (i + 1) (by simp [h1]) (by first | omega | (simp; omega) | (simp; done)) h3 (by first | omega | (simp; omega) | (simp; done)) (by rw [h5]; simp)
   have gg:=trivial;repeat' first|simp (maxSteps:=2000000) (disch:=omega) only [gg,hg,lp_head,go_sem]|(refine br ?_ ?_<;>intro gg<;>try omega)|(apply And.intro;focus omega)|omega
theorem s117 (c t : Bool) (bs : List UInt8) (hb : bs.length ≤ 1000000) : callT AA 117 [.view 1 (bs.map .byte) c t] [] = some (.int .i64 (256 + sumL 0 bs), []) := by
 refine enter fn117 np117 rfl ?_
 have gg:=trivial;repeat' first|simp (maxSteps:=2000000) (disch:=omega) only [gg,b117,lp_head,go_sem]|(refine br ?_ ?_<;>intro gg<;>try omega)|(apply And.intro;focus omega)|omega
 exact h117 c t bs hb _ bs [] _ _ _ rfl rfl rfl (by simp) rfl
end Go.Abs
namespace Go.Abs
open Am
set_option maxRecDepth 10000
def putA (bs : List UInt8) (off n : Nat) (xs : List UInt8) : List UInt8 := bs.take off ++ xs.take (min xs.length n) ++ bs.drop (off + min xs.length n)
theorem putA_length {bs xs : List UInt8} {off n : Nat} (h : off + n ≤ bs.length) : (putA bs off n xs).length = bs.length := by
 unfold putA
 simp
 omega
@[go_sem high] theorem row_put {off n : Nat} {bs xs : List UInt8} : List.take off (bs.map AVal.byte) ++ List.take (min xs.length n) (xs.map AVal.byte) ++ List.drop (off + min xs.length n) (bs.map AVal.byte) = (putA bs off n xs).map .byte := by
 simp [putA]
@[go_sem high] theorem row_put0 {n : Nat} {bs xs : List UInt8} : List.take (min xs.length n) (xs.map AVal.byte) ++ List.drop (min xs.length n) (bs.map AVal.byte) = (putA bs 0 n xs).map .byte := by
 simp [putA]
def zeros512 : List UInt8 := List.replicate 512 0
theorem zeros512_eq : List.replicate 512 (0 : UInt8) = zeros512 := rfl
theorem zeros512_length : zeros512.length = 512 := by simp [zeros512]
def magicB : List UInt8 := [117, 115, 116, 97, 114, 0, 48, 48]
theorem magic_eq : AVal.str [117, 115, 116, 97, 114, 0, 48, 48] = AVal.str magicB := rfl
def encH (h : Hd) (pre name : List UInt8) : List UInt8 :=
 let b1 := putA zeros512 0 512 name
 let b2 := octW b1 100 7 h.mode
 let b3 := octW b2 108 7 h.uid
 let b4 := octW b3 116 7 h.gid
 let b5 := octW b4 124 11 h.size
 let b6 := octW b5 136 11 h.time
 let b7 := b6.set 156 h.type
 let b8 := putA b7 157 355 h.link
 let b9 := putA b8 257 255 magicB
 let b10 := octW b9 329 7 0
 let b11 := octW b10 337 7 0
 putA b11 345 167 pre
def encB (h : Hd) : List UInt8 :=
 let b := encH h (splitN h.path).1 (splitN h.path).2.1
 (octW b 148 6 (256 + sumL 0 b)).set 155 32
def encOk (h : Hd) : Bool := (splitN h.path).2.2 && fitsB h
set_option maxHeartbeats 2000000 in
theorem s70 (h : Hd) (hp : h.path.length ≤ 1000000) (hl : h.link.length ≤ 1000000) (hok : encOk h = true) : callT AA 70 [h.av] [] = some (.tuple [.own 0 1 0 512 false, .lit .nilIface], [(0, .row ((encB h).map .byte) 1)]) := by
 have h1 := s81 h.path hp
 have h2 := s115 h hl
 simp only [encOk, Bool.and_eq_true] at hok
 obtain ⟨k1, k2⟩ := hok
 rw [k1] at h1
 rw [k2] at h2
 simp only [Hd.av] at h2
 have f : idB h.mode = true ∧ idB h.uid = true ∧ idB h.gid = true ∧ timeB h.size = true ∧ timeB h.time = true := by
  simp only [fitsB, Bool.and_eq_true] at k2
  exact ⟨k2.1.1.1.1.1, k2.1.1.1.1.2, k2.1.1.1.2, k2.1.1.2, k2.1.2⟩
 simp only [idB_iff, timeB_iff] at f
 obtain ⟨f1, f2, f3, f4, f5⟩ := f
 unfold encB encH
 simp only []
 generalize (splitN h.path).1 = pre at *
 generalize (splitN h.path).2.1 = name at *
 have l0 := zeros512_length
 generalize e1 : putA zeros512 0 512 name = b1
 have l1 : b1.length = 512 := by rw [← e1, putA_length (by omega)]; exact l0
 have c2 := s116 b1 100 7 h.mode 100 7 512 rfl rfl l1.symm (by omega) (by omega) f1.1 (by omega)
 generalize e2 : octW b1 100 7 h.mode = b2 at c2
 have l2 : b2.length = 512 := by rw [← e2, octW_length]; exact l1
 have c3 := s116 b2 108 7 h.uid 108 7 512 rfl rfl l2.symm (by omega) (by omega) f2.1 (by omega)
 generalize e3 : octW b2 108 7 h.uid = b3 at c3
 have l3 : b3.length = 512 := by rw [← e3, octW_length]; exact l2
 have c4 := s116 b3 116 7 h.gid 116 7 512 rfl rfl l3.symm (by omega) (by omega) f3.1 (by omega)
 generalize e4 : octW b3 116 7 h.gid = b4 at c4
 have l4 : b4.length = 512 := by rw [← e4, octW_length]; exact l3
 have c5 := s116 b4 124 11 h.size 124 11 512 rfl rfl l4.symm (by omega) (by omega) f4.1 (by omega)
 generalize e5 : octW b4 124 11 h.size = b5 at c5
 have l5 : b5.length = 512 := by rw [← e5, octW_length]; exact l4
 have c6 := s116 b5 136 11 h.time 136 11 512 rfl rfl l5.symm (by omega) (by omega) f5.1 (by omega)
 generalize e6 : octW b5 136 11 h.time = b6 at c6
 have l6 : b6.length = 512 := by rw [← e6, octW_length]; exact l5
 generalize e7 : b6.set 156 h.type = b7
 have l7 : b7.length = 512 := by rw [← e7, List.length_set]; exact l6
 generalize e8 : putA b7 157 355 h.link = b8
 have l8 : b8.length = 512 := by rw [← e8, putA_length (by omega)]; exact l7
 generalize e9 : putA b8 257 255 magicB = b9
 have l9 : b9.length = 512 := by rw [← e9, putA_length (by omega)]; exact l8
 have c10 := s116 b9 329 7 0 329 7 512 rfl rfl l9.symm (by omega) (by omega) (by omega) (by omega)
 generalize e10 : octW b9 329 7 0 = b10 at c10
 have l10 : b10.length = 512 := by rw [← e10, octW_length]; exact l9
 have c11 := s116 b10 337 7 0 337 7 512 rfl rfl l10.symm (by omega) (by omega) (by omega) (by omega)
 generalize e11 : octW b10 337 7 0 = b11 at c11
 have l11 : b11.length = 512 := by rw [← e11, octW_length]; exact l10
 generalize e12 : putA b11 345 167 pre = b12
 have l12 : b12.length = 512 := by rw [← e12, putA_length (by omega)]; exact l11
 have hs := sumL_le b12 0
 have c12 := fun c t => s117 c t b12 (by omega)
 have c13 := s116 b12 148 6 (256 + sumL 0 b12) 148 6 512 rfl rfl l12.symm (by omega) (by omega) (by omega) (by omega)
 generalize e13 : octW b12 148 6 (256 + sumL 0 b12) = b13 at c13
 have l13 : b13.length = 512 := by rw [← e13, octW_length]; exact l12
 have ht := h.type.toNat_lt
 have t8 : UInt8.ofNat (h.type.toNat : Int).toNat = h.type := by simp
 have t12 : (b12.map AVal.byte).take 512 = b12.map AVal.byte := List.take_of_length_le (by simp; omega)
 refine enter fn70 np70 rfl ?_
 have gg:=trivial;repeat' first|simp (maxSteps:=2000000) (disch:=omega) only [gg,b70,h1,h2,t12,magic_eq,zeros512_eq,e1,c2,c3,c4,c5,c6,t8,e7,e8,e9,c10,c11,e12,c12,c13,go_sem]|(refine br ?_ ?_<;>intro gg<;>try omega)|(apply And.intro;focus omega)|omega
 rfl
theorem s70no (h : Hd) (hp : h.path.length ≤ 1000000) (hl : h.link.length ≤ 1000000) (hok : encOk h = false) : callT AA 70 [h.av] [] = some (.tuple [.lit (.slice none 0 0), .iface 58 (.int .i64 14)], []) := by
 have h1 := s81 h.path hp
 have h2 := s115 h hl
 simp only [Hd.av] at h2
 unfold encOk at hok
 refine enter fn70 np70 rfl ?_
 cases hk : (splitN h.path).2.2 with
 | false =>
  rw [hk] at h1
  have gg:=trivial;repeat' first|simp (maxSteps:=2000000) (disch:=omega) only [gg,b70,h1,h2,go_sem]|(refine br ?_ ?_<;>intro gg<;>try omega)|(apply And.intro;focus omega)|omega
 | true =>
  rw [hk] at h1
  have hf : fitsB h = false := by simpa [hk] using hok
  rw [hf] at h2
  have gg:=trivial;repeat' first|simp (maxSteps:=2000000) (disch:=omega) only [gg,b70,h1,h2,go_sem]|(refine br ?_ ?_<;>intro gg<;>try omega)|(apply And.intro;focus omega)|omega
end Go.Abs
namespace Go.Abs
open Am
set_option maxRecDepth 10000
@[go_sem high] theorem aBin_saddc {e : EqK} {c : Bool} {s t : List UInt8} (h : s.length + t.length ≤ 4611686018427387904) : aBin .add e c (.str s) (.str t) = some (.str (s ++ t)) := by
 rw [aBin_sadd]
 exact if_pos h
theorem s56 (n : Int) (h1 : -9223372036854775808 ≤ n) (h2 : n ≤ 9223372036854775807) : callT AA 56 [.int .i64 n] [] = some (.str (Lib.itoa n), []) := by
 have h := call98 h1 h2
 refine enter fn56 np56 rfl ?_
 have gg:=trivial;repeat' first|simp (maxSteps:=2000000) (disch:=omega) only [gg,b56,h,go_sem]|(refine br ?_ ?_<;>intro gg<;>try omega)|(apply And.intro;focus omega)|omega
theorem itoa_length {n : Int} (h : 0 ≤ n) : (Lib.itoa n).length = Lib.nDigits n.toNat := by
 unfold Lib.itoa
 rw [if_neg (by omega), Lib.decDigits_length]
theorem nDigits_mono : ∀ {u v : Nat}, u ≤ v → Lib.nDigits u ≤ Lib.nDigits v := by
 intro u
 induction u using Nat.strongRecOn with
 | _ u ih =>
  intro v h
  by_cases hu : u < 10
  ·rw [Lib.nDigits_small hu]
   exact Lib.nDigits_pos v
  ·rw [Lib.nDigits_big hu, Lib.nDigits_big (by omega : ¬ v < 10)]
   have := ih (u / 10) (by omega) (v := v / 10) (by omega)
   omega
theorem nDigits_le7 {u : Nat} (h : u < 10000000) : Lib.nDigits u ≤ 7 := by
 have h1 := nDigits_mono (u := u) (v := 9999999) (by omega)
 have h2 : Lib.nDigits 9999999 = 7 := Lib.nDigits_unique 6 9999999 (by decide) (by decide)
 omega
def digs (n : Int) : Int := ((Lib.itoa n).length : Int)
theorem digs_pos {n : Int} (h : 0 ≤ n) : 1 ≤ digs n := by
 have := Lib.nDigits_pos n.toNat
 rw [digs, itoa_length h]
 omega
theorem digs_mono {a b : Int} (h : 0 ≤ a) (h' : a ≤ b) : digs a ≤ digs b := by
 have := nDigits_mono (u := a.toNat) (v := b.toNat) (by omega)
 rw [digs, digs, itoa_length h, itoa_length (by omega)]
 omega
theorem digs_le7 {a : Int} (h : 0 ≤ a) (h' : a < 10000000) : digs a ≤ 7 := by
 have := nDigits_le7 (u := a.toNat) (by omega)
 rw [digs, itoa_length h]
 omega
def lenF (rest : Int) : Nat → Int → Int
 | 0, n => n
 | k + 1, n => if n = rest + digs n then n else lenF rest k (rest + digs n)
def paxLen (rest : Int) : Int := lenF rest 6 (rest + 1)
theorem h158 (rest : Int) (hr : 0 ≤ rest) (hr' : rest ≤ 1000000) (r0 : Int) : ∀ (k : Nat) (n d : Int), n = rest + d → 7 ≤ d + k → 1 ≤ d → d ≤ 7 → d ≤ digs n → r0 = lenF rest k n →
  HD AA 0 [0, 2, 3] l158_0 ⟨[.int .i64 rest, .junk, .int .i64 0, .int .i64 n, .junk, .junk, .junk, .junk, .junk, .junk, .junk, .junk, .junk, .junk, .junk, .junk, .junk, .junk, .junk], [], 0⟩ [.blk 0, .code r158_0] (Fin [(2, none)] 0 (.int .i64 r0) [])
 | 0, n, d, h1, h2, h3, h3', h4, h5 => by
  have h6 := digs_le7 (a := n) (by omega) (by omega)
  have hs := s56 n (by omega) (by omega)
  have h7 : ((Lib.itoa n).length : Int) = digs n := rfl
  refine hd_of (by unfold l158_0; rfl) ?_
  have gg:=trivial;repeat' first|simp (maxSteps:=2000000) (disch:=omega) only [gg,hs,h7,r158_0,go_sem]|(refine br ?_ ?_<;>intro gg<;>try omega)|(apply And.intro;focus omega)|omega
  simp [h5, lenF]
 | k + 1, n, d, h1, h2, h3, h3', h4, h5 => by
  have h6 := digs_le7 (a := n) (by omega) (by omega)
  have hs := s56 n (by omega) (by omega)
  have h7 : ((Lib.itoa n).length : Int) = digs n := rfl
  refine hd_of (by unfold l158_0; rfl) ?_
  unfold lenF at h5
  by_cases hn : n = rest + digs n
  ·rw [if_pos hn] at h5
   have gg:=trivial;repeat' first|simp (maxSteps:=2000000) (disch:=omega) only [gg,hs,h7,r158_0,go_sem]|(refine br ?_ ?_<;>intro gg<;>try omega)|(apply And.intro;focus omega)|omega
   simp [h5]
  ·rw [if_neg hn] at h5
   have hd : d < digs n := by omega
   have hm := digs_mono (a := n) (b := rest + digs n) (by omega) (by omega)
   have ih := h158 rest hr hr' r0 k (rest + digs n) (digs n) rfl (by omega) (by omega) h6 hm h5
   have gg:=trivial;repeat' first|simp (maxSteps:=2000000) (disch:=omega) only [gg,hs,h7,lp_head,go_sem]|(refine br ?_ ?_<;>intro gg<;>try omega)|(apply And.intro;focus omega)|omega
theorem s158 (rest : Int) (hr : 0 ≤ rest) (hr' : rest ≤ 1000000) : callT AA 158 [.int .i64 rest] [] = some (.int .i64 (paxLen rest), []) := by
 have h1 := digs_pos (n := rest + 1) (by omega)
 refine enter fn158 np158 rfl ?_
 have gg:=trivial;repeat' first|simp (maxSteps:=2000000) (disch:=omega) only [gg,b158,lp_head,go_sem]|(refine br ?_ ?_<;>intro gg<;>try omega)|(apply And.intro;focus omega)|omega
 exact h158 rest hr hr' _ 6 (rest + 1) 1 rfl (by omega) (by omega) (by omega) h1 rfl
theorem lenF_le (rest : Int) (hr : 0 ≤ rest) (hr' : rest ≤ 1000000) : ∀ (k : Nat) (n d : Int), n = rest + d → 1 ≤ d → d ≤ 7 → rest < lenF rest k n ∧ lenF rest k n ≤ rest + 7
 | 0, n, d, h1, h2, h3 => by
  unfold lenF
  omega
 | k + 1, n, d, h1, h2, h3 => by
  have h4 := digs_pos (n := n) (by omega)
  have h5 := digs_le7 (a := n) (by omega) (by omega)
  have ih := lenF_le rest hr hr' k (rest + digs n) (digs n) rfl h4 h5
  unfold lenF
  split
  ·omega
  ·exact ih
theorem paxLen_le {rest : Int} (hr : 0 ≤ rest) (hr' : rest ≤ 1000000) : rest < paxLen rest ∧ paxLen rest ≤ rest + 7 := lenF_le rest hr hr' 6 _ 1 rfl (by omega) (by omega)
def kwByte (b : UInt8) : Bool := decide (33 ≤ (b.toNat : Int)) && decide ((b.toNat : Int) ≤ 126) && decide ((b.toNat : Int) ≠ 61)
def kwB (s : List UInt8) : Bool := decide (s ≠ []) && decide (s.length ≤ 100) && s.all kwByte
theorem h157 (s : List UInt8) (hs : s.length ≤ 1000000) (r0 : Bool) : ∀ (rest done : List UInt8) (n i : Int), s = done ++ rest → i = done.length → n = s.length → r0 = rest.all kwByte →
  HD AA 0 [0, 2, 12, 13] l157_0 ⟨[.str s, .junk, .bool false, .junk, .junk, .junk, .junk, .junk, .junk, .junk, .junk, .junk, .int .i64 n, .int .i64 i, .junk, .junk, .junk, .junk, .junk, .junk, .junk, .junk, .junk, .junk, .junk, .junk, .junk, .junk, .junk, .junk, .junk, .junk, .junk], [], 0⟩ [.blk 0, .code r157_0] (Fin [(2, none)] 0 (.bool r0) [])
 | [], done, n, i, h1, h2, h3, h4 => by
  subst h1
  simp at h3
  refine hd_of (by unfold l157_0; rfl) ?_
  have gg:=trivial;repeat' first|simp (maxSteps:=2000000) (disch:=omega) only [gg,r157_0,go_sem]|(refine br ?_ ?_<;>intro gg<;>try omega)|(apply And.intro;focus omega)|omega
  simp [h4]
 | x :: r, done, n, i, h1, h2, h3, h4 => by
  have hg0 : s[i.toNat]? = some x := by
   rw [h1]
   simp [h2]
  have hl : i.toNat < s.length := by rw [h1]; simp; omega
  have hx := x.toNat_lt
  refine hd_of (by unfold l157_0; rfl) ?_
  rw [List.all_cons] at h4
  cases hk : kwByte x with
  | true =>
   rw [hk, Bool.true_and] at h4
   simp only [kwByte, Bool.and_eq_true, decide_eq_true_eq] at hk
   have ih := h157 s hs r0 r (done ++ [x]) n (i + 1) (by simp [h1]) (by first | omega | (simp; omega) | (simp; done)) h3 h4
   have gg:=trivial;repeat' first|simp (maxSteps:=2000000) (disch:=omega) only [gg,hg0,lp_head,go_sem]|(refine br ?_ ?_<;>intro gg<;>try omega)|(apply And.intro;focus omega)|omega
  | false =>
   rw [hk, Bool.false_and] at h4
   simp only [kwByte, Bool.and_eq_false_iff, decide_eq_false_iff_not] at hk
   have gg:=trivial;repeat' first|simp (maxSteps:=2000000) (disch:=omega) only [gg,hg0,lp_head,go_sem]|(refine br ?_ ?_<;>intro gg<;>try omega)|(apply And.intro;focus omega)|omega
   all_goals simp [h4]
theorem s157 (s : List UInt8) (hs : s.length ≤ 1000000) : callT AA 157 [.str s] [] = some (.bool (kwB s), []) := by
 refine enter fn157 np157 rfl ?_
 unfold kwB
 by_cases h0 : s = []
 ·subst h0
  have gg:=trivial;repeat' first|simp (maxSteps:=2000000) (disch:=omega) only [gg,b157,go_sem]|(refine br ?_ ?_<;>intro gg<;>try omega)|(apply And.intro;focus omega)|omega
  simp
 ·by_cases h1 : s.length ≤ 100
  ·have gg:=trivial;repeat' first|simp (maxSteps:=2000000) (disch:=omega) only [gg,b157,h0,lp_head,go_sem]|(refine br ?_ ?_<;>intro gg<;>try omega)|(apply And.intro;focus omega)|omega
   refine h157 s hs _ s [] _ _ rfl rfl rfl ?_
   simp [h0, h1]
  ·have gg:=trivial;repeat' first|simp (maxSteps:=2000000) (disch:=omega) only [gg,b157,h0,lp_head,go_sem]|(refine br ?_ ?_<;>intro gg<;>try omega)|(apply And.intro;focus omega)|omega
def restP (k v : List UInt8) : List UInt8 := 32 :: (k ++ [61] ++ v ++ [10])
def lineB (k v : List UInt8) : List UInt8 := Lib.itoa (paxLen (restP k v).length) ++ restP k v
def lineOk (k v : List UInt8) : Bool := kwB k && decide (v.length ≤ 65536) && decide (paxLen (restP k v).length ≤ 65536)
theorem restP_length {k v : List UInt8} : (restP k v).length = k.length + v.length + 3 := by
 simp [restP]
 omega
theorem restP_eq {k v : List UInt8} : 32 :: (k ++ [61] ++ v ++ [10]) = restP k v := rfl
theorem s121 (k v : List UInt8) (hk : k.length ≤ 1000000) (hv : v.length ≤ 1000000) : callT AA 121 [.str k, .str v] [] = some (if lineOk k v = true then .tuple [.str (lineB k v), .lit .nilIface] else .tuple [.str [], .iface 58 (.int .i64 15)], []) := by
 have h1 := s157 k hk
 have hl := restP_length (k := k) (v := v)
 refine enter fn121 np121 rfl ?_
 unfold lineOk
 by_cases h2 : kwB k = true
 ·have h3 : k.length ≤ 100 := by
   simp only [kwB, Bool.and_eq_true, decide_eq_true_eq] at h2
   exact h2.1.2
  by_cases h4 : v.length ≤ 65536
  ·have h5 := s158 ((restP k v).length : Int) (by omega) (by omega)
   have h6 := paxLen_le (rest := ((restP k v).length : Int)) (by omega) (by omega)
   have h7 := s56 (paxLen (restP k v).length) (by omega) (by omega)
   have h9 : (Lib.itoa (paxLen (restP k v).length)).length ≤ 7 := by
    have := digs_le7 (a := paxLen (restP k v).length) (by omega) (by omega)
    unfold digs at this
    omega
   rw [h2]
   by_cases h8 : paxLen (restP k v).length ≤ 65536
   ·have e : (if (true && decide (v.length ≤ 65536) && decide (paxLen (restP k v).length ≤ 65536)) = true then AVal.tuple [.str (lineB k v), .lit .nilIface] else .tuple [.str [], .iface 58 (.int .i64 15)]) = .tuple [.str (lineB k v), .lit .nilIface] := if_pos (by simp [h4, h8])
    rw [e]
    simp only [lineB]
    rw [h2] at h1
    generalize hq : paxLen (restP k v).length = q at *
    generalize hR : restP k v = R at *
    have gg:=trivial;repeat' first|simp (maxSteps:=2000000) (disch:=omega) only [gg,b121,h1,restP_eq,hR,h5,h7,go_sem]|(refine br ?_ ?_<;>intro gg<;>try omega)|(apply And.intro;focus omega)|omega
   ·have e : (if (true && decide (v.length ≤ 65536) && decide (paxLen (restP k v).length ≤ 65536)) = true then AVal.tuple [.str (lineB k v), .lit .nilIface] else .tuple [.str [], .iface 58 (.int .i64 15)]) = .tuple [.str [], .iface 58 (.int .i64 15)] := if_neg (by simp [h8])
    rw [e]
    rw [h2] at h1
    generalize hq : paxLen (restP k v).length = q at *
    generalize hR : restP k v = R at *
    have gg:=trivial;repeat' first|simp (maxSteps:=2000000) (disch:=omega) only [gg,b121,h1,restP_eq,hR,h5,h7,go_sem]|(refine br ?_ ?_<;>intro gg<;>try omega)|(apply And.intro;focus omega)|omega
  ·have e : (if (kwB k && decide (v.length ≤ 65536) && decide (paxLen (restP k v).length ≤ 65536)) = true then AVal.tuple [.str (lineB k v), .lit .nilIface] else .tuple [.str [], .iface 58 (.int .i64 15)]) = .tuple [.str [], .iface 58 (.int .i64 15)] := if_neg (by simp [h4])
   rw [e]
   rw [h2] at h1
   have gg:=trivial;repeat' first|simp (maxSteps:=2000000) (disch:=omega) only [gg,b121,h1,go_sem]|(refine br ?_ ?_<;>intro gg<;>try omega)|(apply And.intro;focus omega)|omega
 ·have h2' : kwB k = false := by simpa using h2
  have e : (if (kwB k && decide (v.length ≤ 65536) && decide (paxLen (restP k v).length ≤ 65536)) = true then AVal.tuple [.str (lineB k v), .lit .nilIface] else .tuple [.str [], .iface 58 (.int .i64 15)]) = .tuple [.str [], .iface 58 (.int .i64 15)] := if_neg (by simp [h2'])
  rw [e]
  rw [h2'] at h1
  have gg:=trivial;repeat' first|simp (maxSteps:=2000000) (disch:=omega) only [gg,b121,h1,go_sem]|(refine br ?_ ?_<;>intro gg<;>try omega)|(apply And.intro;focus omega)|omega
theorem lineB_length {k v : List UInt8} (hk : k.length ≤ 100) (hv : v.length ≤ 65536) : (lineB k v).length ≤ k.length + v.length + 10 := by
 have hl := restP_length (k := k) (v := v)
 have h6 := paxLen_le (rest := ((restP k v).length : Int)) (by omega) (by omega)
 have := digs_le7 (a := paxLen (restP k v).length) (by omega) (by omega)
 unfold digs at this
 unfold lineB
 rw [List.length_append]
 omega
end Go.Abs
