import Derived.Test.YtambgnjkakdoeaaGreatDoorArchives8
/- PART OF A PROOF (texts joined by a program): F11 F12 F13 F14 F15 B2. -/
set_option linter.unusedVariables false
set_option linter.unusedSimpArgs false
set_option linter.unusedSectionVars false
namespace Go.Abs
open Am
set_option maxRecDepth 10000
structure Rcd where
 key : List UInt8
 value : List UInt8
def Rcd.av (r : Rcd) : AVal := .agg [.str r.key, .str r.value]
attribute [go_sem] Rcd.av
theorem s55a (k v : List UInt8) : callT AA 55 [.bool true, .str k, .str v, .ptr 0 0] [(0, .var [.lit (.slice none 0 0)])] = some (.tuple [], [(0, .var [.lit (.slice none 0 0)])]) := by
 refine enter fn55 np55 rfl ?_
 have gg:=trivial;repeat' first|simp (maxSteps:=2000000) (disch:=omega) only [gg,b55,go_sem]|(refine br ?_ ?_<;>intro gg<;>try omega)|(apply And.intro;focus omega)|omega
theorem s55b (k v : List UInt8) : callT AA 55 [.bool false, .str k, .str v, .ptr 0 0] [(0, .var [.lit (.slice none 0 0)])] = some (.tuple [], [(0, .var [.own 1 2 0 1 false]), (1, .row [.agg [.str k, .str v]] 2)]) := by
 refine enter fn55 np55 rfl ?_
 have gg:=trivial;repeat' first|simp (maxSteps:=2000000) (disch:=omega) only [gg,b55,go_sem]|(refine br ?_ ?_<;>intro gg<;>try omega)|(apply And.intro;focus omega)|omega
theorem s55c (k v : List UInt8) (n : Nat) (rs : List AVal) : callT AA 55 [.bool true, .str k, .str v, .ptr 0 0] [(0, .var [.own 1 2 0 n false]), (1, .row rs 2)] = some (.tuple [], [(0, .var [.own 1 2 0 n false]), (1, .row rs 2)]) := by
 refine enter fn55 np55 rfl ?_
 have gg:=trivial;repeat' first|simp (maxSteps:=2000000) (disch:=omega) only [gg,b55,go_sem]|(refine br ?_ ?_<;>intro gg<;>try omega)|(apply And.intro;focus omega)|omega
theorem s55d (k v : List UInt8) (n : Nat) (rs : List AVal) (hn : n = rs.length) (hl : n ≤ 10000) : callT AA 55 [.bool false, .str k, .str v, .ptr 0 0] [(0, .var [.own 1 2 0 n false]), (1, .row rs 2)] = some (.tuple [], [(0, .var [.own 2 2 0 (n + 1) false]), (2, .row (rs ++ [.agg [.str k, .str v]]) 2)]) := by
 have h : rs.take n = rs := List.take_of_length_le (by omega)
 refine enter fn55 np55 rfl ?_
 have gg:=trivial;repeat' first|simp (maxSteps:=2000000) (disch:=omega) only [gg,b55,h,go_sem]|(refine br ?_ ?_<;>intro gg<;>try omega)|(apply And.intro;focus omega)|omega
def gidB : List UInt8 := [103, 105, 100]
def linkpathB : List UInt8 := [108, 105, 110, 107, 112, 97, 116, 104]
def mtimeB : List UInt8 := [109, 116, 105, 109, 101]
def pathB : List UInt8 := [112, 97, 116, 104]
def uidB : List UInt8 := [117, 105, 100]
theorem gidB_eq : AVal.str [103, 105, 100] = .str gidB := rfl
theorem linkpathB_eq : AVal.str [108, 105, 110, 107, 112, 97, 116, 104] = .str linkpathB := rfl
theorem mtimeB_eq : AVal.str [109, 116, 105, 109, 101] = .str mtimeB := rfl
theorem pathB_eq : AVal.str [112, 97, 116, 104] = .str pathB := rfl
theorem uidB_eq : AVal.str [117, 105, 100] = .str uidB := rfl
def recIf (f : Bool) (k v : List UInt8) : List Rcd := if f then [] else [⟨k, v⟩]
def linkE (l : List UInt8) : Bool := decide (l = []) || linkB l
def EntB (e : Ent) : Prop := -9223372036854775808 ≤ e.gid ∧ e.gid ≤ 9223372036854775807 ∧ -9223372036854775808 ≤ e.uid ∧ e.uid ≤ 9223372036854775807 ∧ -9223372036854775808 ≤ e.time ∧ e.time ≤ 9223372036854775807 ∧ e.link.length ≤ 1000000 ∧ e.path.length ≤ 1000000
def recV (l : List Rcd) : AVal := if l = [] then .lit (.slice none 0 0) else .own 0 2 0 l.length false
def recH (l : List Rcd) : Heap := if l = [] then [] else [(0, .row (l.map Rcd.av) 2)]
def FinR (l : List Rcd) : FinP := Fin [(2, none)] 0 (recV l) (recH l)
theorem FinR_ne {l : List Rcd} (h : l ≠ []) : FinR l = Fin [(2, none)] 0 (.own 0 2 0 l.length false) [(0, .row (l.map Rcd.av) 2)] := by
 simp [FinR, recV, recH, h]
def p21_9 : ACode := .ret
def p21_8 : ACode := .seq (.reg false [] [⟨(some 49), (.ld 1 false (.t 3)), none⟩, ⟨(some 2), (.mov (.t 49)), none⟩]) p21_9
def p21_7 : ACode := .seq (.reg true [(0, 2), (0, 3), (2, 4), (3, 4), (0, 5), (1, 5), (2, 5), (3, 5), (0, 6)] [⟨(some 41), (.mov (.t 4)), none⟩, ⟨(some 42), (.fa 3 (.t 1)), none⟩, ⟨(some 43), (.ld 1 false (.t 42)), none⟩, ⟨(some 44), (.call (.c (.func (.func 46) [])) [(.t 43)]), none⟩, ⟨(some 45), (.fa 3 (.t 1)), none⟩, ⟨(some 46), (.ld 1 false (.t 45)), none⟩, ⟨(some 47), (.call (.c (.func (.func 56) [])) [(.t 46)]), none⟩, ⟨(some 48), (.call (.t 41) [(.t 44), (.c (.str [117, 105, 100])), (.t 47)]), none⟩]) p21_8
def p21_6 : ACode := .seq (.reg true [(0, 2), (0, 3), (2, 4), (3, 4), (0, 5), (1, 5), (2, 5), (3, 5)] [⟨(some 34), (.mov (.t 4)), none⟩, ⟨(some 35), (.fa 0 (.t 1)), none⟩, ⟨(some 36), (.ld 1 false (.t 35)), none⟩, ⟨(some 37), (.call (.c (.func (.func 44) [])) [(.t 36)]), none⟩, ⟨(some 38), (.fa 0 (.t 1)), none⟩, ⟨(some 39), (.ld 1 false (.t 38)), none⟩, ⟨(some 40), (.call (.t 34) [(.t 37), (.c (.str [112, 97, 116, 104])), (.t 39)]), none⟩]) p21_7
def p21_5 : ACode := .seq (.reg true [(0, 2), (0, 3), (2, 4), (3, 4), (0, 5), (1, 5), (2, 5), (3, 5), (0, 6)] [⟨(some 26), (.mov (.t 4)), none⟩, ⟨(some 27), (.fa 5 (.t 1)), none⟩, ⟨(some 28), (.ld 1 false (.t 27)), none⟩, ⟨(some 29), (.call (.c (.func (.func 48) [])) [(.t 28)]), none⟩, ⟨(some 30), (.fa 5 (.t 1)), none⟩, ⟨(some 31), (.ld 1 false (.t 30)), none⟩, ⟨(some 32), (.call (.c (.func (.func 56) [])) [(.t 31)]), none⟩, ⟨(some 33), (.call (.t 26) [(.t 29), (.c (.str [109, 116, 105, 109, 101])), (.t 32)]), none⟩]) p21_6
def p21_4 : ACode := .seq (.reg true [(0, 2), (0, 6), (0, 7), (2, 9), (6, 9), (7, 9), (0, 10), (1, 10), (2, 10), (3, 10), (4, 10), (5, 10), (6, 10), (7, 10), (8, 10)] [⟨(some 14), (.mov (.t 4)), none⟩, ⟨(some 15), (.fa 6 (.t 1)), none⟩, ⟨(some 16), (.ld 1 false (.t 15)), none⟩, ⟨(some 17), (.bin .eql .other true (.t 16) (.c (.str []))), none⟩, ⟨(some 18), (.mov (.t 17)), none⟩, ⟨(some 19), (.fa 6 (.t 1)), (some (18, false))⟩, ⟨(some 20), (.ld 1 false (.t 19)), (some (18, false))⟩, ⟨(some 21), (.call (.c (.func (.func 45) [])) [(.t 20)]), (some (18, false))⟩, ⟨(some 22), (.pick (.t 18) (.c (.bool true)) (.t 21)), none⟩, ⟨(some 23), (.fa 6 (.t 1)), none⟩, ⟨(some 24), (.ld 1 false (.t 23)), none⟩, ⟨(some 25), (.call (.t 14) [(.t 22), (.c (.str [108, 105, 110, 107, 112, 97, 116, 104])), (.t 24)]), none⟩]) p21_5
def p21_3 : ACode := .seq (.reg true [(0, 2), (0, 3), (2, 4), (3, 4), (0, 5), (1, 5), (2, 5), (3, 5), (0, 6)] [⟨(some 6), (.mov (.t 4)), none⟩, ⟨(some 7), (.fa 4 (.t 1)), none⟩, ⟨(some 8), (.ld 1 false (.t 7)), none⟩, ⟨(some 9), (.call (.c (.func (.func 46) [])) [(.t 8)]), none⟩, ⟨(some 10), (.fa 4 (.t 1)), none⟩, ⟨(some 11), (.ld 1 false (.t 10)), none⟩, ⟨(some 12), (.call (.c (.func (.func 56) [])) [(.t 11)]), none⟩, ⟨(some 13), (.call (.t 6) [(.t 9), (.c (.str [103, 105, 100])), (.t 12)]), none⟩]) p21_4
def p21_2 : ACode := .seq (.reg false [] [⟨(some 5), (.mkfn (.func 55) [(.t 3)]), none⟩, ⟨(some 4), (.mov (.t 5)), none⟩]) p21_3
def p21_1 : ACode := .seq (.reg false [] [⟨(some 3), (.alloc [(.lit (.slice none 0 0))]), none⟩]) p21_2
def p21_0 : ACode := .seq (.reg false [] [⟨(some 1), (.box (.t 0)), none⟩, ⟨(some 2), (.mov (.c (.lit (.slice none 0 0)))), none⟩]) p21_1
theorem b21_p : b21 = ⟨1, 50, [(2, none)], p21_0⟩ := rfl
def rst7 (e : Ent) : List Rcd := recIf (idB e.uid) uidB (Lib.itoa e.uid)
def rst6 (e : Ent) : List Rcd := recIf (splitN e.path).2.2 pathB e.path ++ rst7 e
def rst5 (e : Ent) : List Rcd := recIf (timeB e.time) mtimeB (Lib.itoa e.time) ++ rst6 e
def rst4 (e : Ent) : List Rcd := recIf (linkE e.link) linkpathB e.link ++ rst5 e
def rst3 (e : Ent) : List Rcd := recIf (idB e.gid) gidB (Lib.itoa e.gid) ++ rst4 e
def recsE (e : Ent) : List Rcd := rst3 e
theorem q21_8_own (e : Ent) (hb : EntB e) (l0 rs : List Rcd) (es : List AVal) (n r : Nat) (hr : 64 < r) (hn : n = rs.length) (he : es = rs.map Rcd.av) (hl : rs.length ≤ 8) (hne : rs ≠ []) (h : l0 = rs ++ []) :
  ∀ x5 x6 x7 x8 x9 x10 x11 x12 x13 x14 x15 x16 x17 x18 x19 x20 x21 x22 x23 x24 x25 x26 x27 x28 x29 x30 x31 x32 x33 x34 x35 x36 x37 x38 x39 x40 x41 x42 x43 x44 x45 x46 x47 x48 : AVal, EX AA 0 p21_8 ⟨[e.av, .ptr 0 0, .lit (.slice none 0 0), .ptr 64 0, .func (.func 55) [.ptr 64 0], x5, x6, x7, x8, x9, x10, x11, x12, x13, x14, x15, x16, x17, x18, x19, x20, x21, x22, x23, x24, x25, x26, x27, x28, x29, x30, x31, x32, x33, x34, x35, x36, x37, x38, x39, x40, x41, x42, x43, x44, x45, x46, x47, x48, .lit Go.undef], [(0, .var e.av.cells), (64, .var [.own r 2 0 n false]), (r, .row es 2)], 1536⟩ [] (FinR l0) := by
 intro x5 x6 x7 x8 x9 x10 x11 x12 x13 x14 x15 x16 x17 x18 x19 x20 x21 x22 x23 x24 x25 x26 x27 x28 x29 x30 x31 x32 x33 x34 x35 x36 x37 x38 x39 x40 x41 x42 x43 x44 x45 x46 x47 x48
 have a0 : (0 = r) = False := by simp; omega
 have b0 : (0 == r) = false := by simp; omega
 have a1 : (r = 0) = False := by simp; omega
 have b1 : (r == 0) = false := by simp; omega
 have a2 : (64 = r) = False := by simp; omega
 have b2 : (64 == r) = false := by simp; omega
 have a3 : (r = 64) = False := by simp; omega
 have b3 : (r == 64) = false := by simp; omega
 have h0 : FinR l0 = Fin [(2, none)] 0 (.own 0 2 0 n false) [(0, .row es 2)] := by
  have hl0 : l0 = rs := by rw [h, List.append_nil]
  rw [FinR_ne (by rw [hl0]; exact hne), hl0, hn, he]
 have h1 : n = es.length := by rw [he, hn, List.length_map]
 rw [h0]
 have gg:=trivial;repeat' first|simp (maxSteps:=2000000) (disch:=omega) only [gg,p21_8,p21_9,a0,a1,a2,a3,b0,b1,b2,b3,beq_self_eq_true,go_sem]|(refine br ?_ ?_<;>intro gg<;>try omega)|(apply And.intro;focus omega)|omega
theorem q21_8_nil (e : Ent) (hb : EntB e) (l0 : List Rcd) (h : l0 = []) :
  ∀ x5 x6 x7 x8 x9 x10 x11 x12 x13 x14 x15 x16 x17 x18 x19 x20 x21 x22 x23 x24 x25 x26 x27 x28 x29 x30 x31 x32 x33 x34 x35 x36 x37 x38 x39 x40 x41 x42 x43 x44 x45 x46 x47 x48 : AVal, EX AA 0 p21_8 ⟨[e.av, .ptr 0 0, .lit (.slice none 0 0), .ptr 64 0, .func (.func 55) [.ptr 64 0], x5, x6, x7, x8, x9, x10, x11, x12, x13, x14, x15, x16, x17, x18, x19, x20, x21, x22, x23, x24, x25, x26, x27, x28, x29, x30, x31, x32, x33, x34, x35, x36, x37, x38, x39, x40, x41, x42, x43, x44, x45, x46, x47, x48, .lit Go.undef], [(0, .var e.av.cells), (64, .var [.lit (.slice none 0 0)])], 1536⟩ [] (FinR l0) := by
 intro x5 x6 x7 x8 x9 x10 x11 x12 x13 x14 x15 x16 x17 x18 x19 x20 x21 x22 x23 x24 x25 x26 x27 x28 x29 x30 x31 x32 x33 x34 x35 x36 x37 x38 x39 x40 x41 x42 x43 x44 x45 x46 x47 x48
 have h0 : FinR l0 = Fin [(2, none)] 0 (.lit (.slice none 0 0)) [] := by rw [h]; rfl
 rw [h0]
 have gg:=trivial;repeat' first|simp (maxSteps:=2000000) (disch:=omega) only [gg,p21_8,p21_9,go_sem]|(refine br ?_ ?_<;>intro gg<;>try omega)|(apply And.intro;focus omega)|omega
theorem q21_7_own (e : Ent) (hb : EntB e) (l0 rs : List Rcd) (es : List AVal) (n r : Nat) (hr : 64 < r) (hn : n = rs.length) (he : es = rs.map Rcd.av) (hl : rs.length ≤ 7) (hne : rs ≠ []) (h : l0 = rs ++ rst7 e) :
  ∀ x5 x6 x7 x8 x9 x10 x11 x12 x13 x14 x15 x16 x17 x18 x19 x20 x21 x22 x23 x24 x25 x26 x27 x28 x29 x30 x31 x32 x33 x34 x35 x36 x37 x38 x39 x40 : AVal, EX AA 0 p21_7 ⟨[e.av, .ptr 0 0, .lit (.slice none 0 0), .ptr 64 0, .func (.func 55) [.ptr 64 0], x5, x6, x7, x8, x9, x10, x11, x12, x13, x14, x15, x16, x17, x18, x19, x20, x21, x22, x23, x24, x25, x26, x27, x28, x29, x30, x31, x32, x33, x34, x35, x36, x37, x38, x39, x40, .lit Go.undef, .lit Go.undef, .lit Go.undef, .lit Go.undef, .lit Go.undef, .lit Go.undef, .lit Go.undef, .lit Go.undef, .lit Go.undef], [(0, .var e.av.cells), (64, .var [.own r 2 0 n false]), (r, .row es 2)], 1280⟩ [] (FinR l0) := by
 intro x5 x6 x7 x8 x9 x10 x11 x12 x13 x14 x15 x16 x17 x18 x19 x20 x21 x22 x23 x24 x25 x26 x27 x28 x29 x30 x31 x32 x33 x34 x35 x36 x37 x38 x39 x40
 have a0 : (0 = r) = False := by simp; omega
 have b0 : (0 == r) = false := by simp; omega
 have a1 : (r = 0) = False := by simp; omega
 have b1 : (r == 0) = false := by simp; omega
 have a2 : (64 = r) = False := by simp; omega
 have b2 : (64 == r) = false := by simp; omega
 have a3 : (r = 64) = False := by simp; omega
 have b3 : (r == 64) = false := by simp; omega
 have c := i46 e.uid
 have d := s56 e.uid hb.2.2.1 hb.2.2.2.1
 have w := s55d uidB (Lib.itoa e.uid) n es (by rw [he, hn, List.length_map]) (by omega)
 unfold rst7 at h
 cases hf : (idB e.uid) with
 | true =>
  rw [hf] at c h
  have ih := q21_8_own e hb l0 rs es n r hr hn he (by omega) hne (by rw [h]; simp [recIf])
  have gg:=trivial;repeat' first|simp (maxSteps:=2000000) (disch:=omega) only [gg,p21_7,c,d,a0,a1,a2,a3,b0,b1,b2,b3,beq_self_eq_true,s55c,uidB_eq,go_sem]|(refine br ?_ ?_<;>intro gg<;>try omega)|(apply And.intro;focus omega)|omega
  apply ih
 | false =>
  rw [hf] at c h
  have ih := fun r hr => q21_8_own e hb l0 (rs ++ [⟨uidB, (Lib.itoa e.uid)⟩]) (es ++ [.agg [.str uidB, .str (Lib.itoa e.uid)]]) (n + 1) r hr (by simp [hn]) (by simp [he, Rcd.av]) (by simp; omega) (by simp) (by rw [h]; simp [recIf])
  have gg:=trivial;repeat' first|simp (maxSteps:=2000000) (disch:=omega) only [gg,p21_7,c,d,a0,a1,a2,a3,b0,b1,b2,b3,beq_self_eq_true,w,uidB_eq,go_sem]|(refine br ?_ ?_<;>intro gg<;>try omega)|(apply And.intro;focus omega)|omega
  apply ih
  omega
theorem q21_7_nil (e : Ent) (hb : EntB e) (l0 : List Rcd) (h : l0 = rst7 e) :
  ∀ x5 x6 x7 x8 x9 x10 x11 x12 x13 x14 x15 x16 x17 x18 x19 x20 x21 x22 x23 x24 x25 x26 x27 x28 x29 x30 x31 x32 x33 x34 x35 x36 x37 x38 x39 x40 : AVal, EX AA 0 p21_7 ⟨[e.av, .ptr 0 0, .lit (.slice none 0 0), .ptr 64 0, .func (.func 55) [.ptr 64 0], x5, x6, x7, x8, x9, x10, x11, x12, x13, x14, x15, x16, x17, x18, x19, x20, x21, x22, x23, x24, x25, x26, x27, x28, x29, x30, x31, x32, x33, x34, x35, x36, x37, x38, x39, x40, .lit Go.undef, .lit Go.undef, .lit Go.undef, .lit Go.undef, .lit Go.undef, .lit Go.undef, .lit Go.undef, .lit Go.undef, .lit Go.undef], [(0, .var e.av.cells), (64, .var [.lit (.slice none 0 0)])], 1280⟩ [] (FinR l0) := by
 intro x5 x6 x7 x8 x9 x10 x11 x12 x13 x14 x15 x16 x17 x18 x19 x20 x21 x22 x23 x24 x25 x26 x27 x28 x29 x30 x31 x32 x33 x34 x35 x36 x37 x38 x39 x40
 have c := i46 e.uid
 have d := s56 e.uid hb.2.2.1 hb.2.2.2.1
 have w := s55b uidB (Lib.itoa e.uid)
 unfold rst7 at h
 cases hf : (idB e.uid) with
 | true =>
  rw [hf] at c h
  have ih := q21_8_nil e hb l0 (by rw [h]; simp [recIf])
  have gg:=trivial;repeat' first|simp (maxSteps:=2000000) (disch:=omega) only [gg,p21_7,c,d,s55a,go_sem]|(refine br ?_ ?_<;>intro gg<;>try omega)|(apply And.intro;focus omega)|omega
  apply ih
 | false =>
  rw [hf] at c h
  have ih := fun r hr => q21_8_own e hb l0 [⟨uidB, (Lib.itoa e.uid)⟩] [.agg [.str uidB, .str (Lib.itoa e.uid)]] 1 r hr rfl rfl (by simp) (by simp) (by rw [h]; simp [recIf])
  have gg:=trivial;repeat' first|simp (maxSteps:=2000000) (disch:=omega) only [gg,p21_7,c,d,w,uidB_eq,go_sem]|(refine br ?_ ?_<;>intro gg<;>try omega)|(apply And.intro;focus omega)|omega
  apply ih
  omega
theorem q21_6_own (e : Ent) (hb : EntB e) (l0 rs : List Rcd) (es : List AVal) (n r : Nat) (hr : 64 < r) (hn : n = rs.length) (he : es = rs.map Rcd.av) (hl : rs.length ≤ 6) (hne : rs ≠ []) (h : l0 = rs ++ rst6 e) :
  ∀ x5 x6 x7 x8 x9 x10 x11 x12 x13 x14 x15 x16 x17 x18 x19 x20 x21 x22 x23 x24 x25 x26 x27 x28 x29 x30 x31 x32 x33 : AVal, EX AA 0 p21_6 ⟨[e.av, .ptr 0 0, .lit (.slice none 0 0), .ptr 64 0, .func (.func 55) [.ptr 64 0], x5, x6, x7, x8, x9, x10, x11, x12, x13, x14, x15, x16, x17, x18, x19, x20, x21, x22, x23, x24, x25, x26, x27, x28, x29, x30, x31, x32, x33, .lit Go.undef, .lit Go.undef, .lit Go.undef, .lit Go.undef, .lit Go.undef, .lit Go.undef, .lit Go.undef, .lit Go.undef, .lit Go.undef, .lit Go.undef, .lit Go.undef, .lit Go.undef, .lit Go.undef, .lit Go.undef, .lit Go.undef, .lit Go.undef], [(0, .var e.av.cells), (64, .var [.own r 2 0 n false]), (r, .row es 2)], 1056⟩ [] (FinR l0) := by
 intro x5 x6 x7 x8 x9 x10 x11 x12 x13 x14 x15 x16 x17 x18 x19 x20 x21 x22 x23 x24 x25 x26 x27 x28 x29 x30 x31 x32 x33
 have a0 : (0 = r) = False := by simp; omega
 have b0 : (0 == r) = false := by simp; omega
 have a1 : (r = 0) = False := by simp; omega
 have b1 : (r == 0) = false := by simp; omega
 have a2 : (64 = r) = False := by simp; omega
 have b2 : (64 == r) = false := by simp; omega
 have a3 : (r = 64) = False := by simp; omega
 have b3 : (r == 64) = false := by simp; omega
 have c := s44 e.path hb.2.2.2.2.2.2.2
 have w := s55d pathB e.path n es (by rw [he, hn, List.length_map]) (by omega)
 unfold rst6 at h
 cases hf : (splitN e.path).2.2 with
 | true =>
  rw [hf] at c h
  have ih := q21_7_own e hb l0 rs es n r hr hn he (by omega) hne (by rw [h]; simp [recIf])
  have gg:=trivial;repeat' first|simp (maxSteps:=2000000) (disch:=omega) only [gg,p21_6,c,a0,a1,a2,a3,b0,b1,b2,b3,beq_self_eq_true,s55c,pathB_eq,go_sem]|(refine br ?_ ?_<;>intro gg<;>try omega)|(apply And.intro;focus omega)|omega
  apply ih
 | false =>
  rw [hf] at c h
  have ih := fun r hr => q21_7_own e hb l0 (rs ++ [⟨pathB, e.path⟩]) (es ++ [.agg [.str pathB, .str e.path]]) (n + 1) r hr (by simp [hn]) (by simp [he, Rcd.av]) (by simp; omega) (by simp) (by rw [h]; simp [recIf])
  have gg:=trivial;repeat' first|simp (maxSteps:=2000000) (disch:=omega) only [gg,p21_6,c,a0,a1,a2,a3,b0,b1,b2,b3,beq_self_eq_true,w,pathB_eq,go_sem]|(refine br ?_ ?_<;>intro gg<;>try omega)|(apply And.intro;focus omega)|omega
  apply ih
  omega
theorem q21_6_nil (e : Ent) (hb : EntB e) (l0 : List Rcd) (h : l0 = rst6 e) :
  ∀ x5 x6 x7 x8 x9 x10 x11 x12 x13 x14 x15 x16 x17 x18 x19 x20 x21 x22 x23 x24 x25 x26 x27 x28 x29 x30 x31 x32 x33 : AVal, EX AA 0 p21_6 ⟨[e.av, .ptr 0 0, .lit (.slice none 0 0), .ptr 64 0, .func (.func 55) [.ptr 64 0], x5, x6, x7, x8, x9, x10, x11, x12, x13, x14, x15, x16, x17, x18, x19, x20, x21, x22, x23, x24, x25, x26, x27, x28, x29, x30, x31, x32, x33, .lit Go.undef, .lit Go.undef, .lit Go.undef, .lit Go.undef, .lit Go.undef, .lit Go.undef, .lit Go.undef, .lit Go.undef, .lit Go.undef, .lit Go.undef, .lit Go.undef, .lit Go.undef, .lit Go.undef, .lit Go.undef, .lit Go.undef, .lit Go.undef], [(0, .var e.av.cells), (64, .var [.lit (.slice none 0 0)])], 1056⟩ [] (FinR l0) := by
 intro x5 x6 x7 x8 x9 x10 x11 x12 x13 x14 x15 x16 x17 x18 x19 x20 x21 x22 x23 x24 x25 x26 x27 x28 x29 x30 x31 x32 x33
 have c := s44 e.path hb.2.2.2.2.2.2.2
 have w := s55b pathB e.path
 unfold rst6 at h
 cases hf : (splitN e.path).2.2 with
 | true =>
  rw [hf] at c h
  have ih := q21_7_nil e hb l0 (by rw [h]; simp [recIf])
  have gg:=trivial;repeat' first|simp (maxSteps:=2000000) (disch:=omega) only [gg,p21_6,c,s55a,go_sem]|(refine br ?_ ?_<;>intro gg<;>try omega)|(apply And.intro;focus omega)|omega
  apply ih
 | false =>
  rw [hf] at c h
  have ih := fun r hr => q21_7_own e hb l0 [⟨pathB, e.path⟩] [.agg [.str pathB, .str e.path]] 1 r hr rfl rfl (by simp) (by simp) (by rw [h]; simp [recIf])
  have gg:=trivial;repeat' first|simp (maxSteps:=2000000) (disch:=omega) only [gg,p21_6,c,w,pathB_eq,go_sem]|(refine br ?_ ?_<;>intro gg<;>try omega)|(apply And.intro;focus omega)|omega
  apply ih
  omega
theorem q21_5_own (e : Ent) (hb : EntB e) (l0 rs : List Rcd) (es : List AVal) (n r : Nat) (hr : 64 < r) (hn : n = rs.length) (he : es = rs.map Rcd.av) (hl : rs.length ≤ 5) (hne : rs ≠ []) (h : l0 = rs ++ rst5 e) :
  ∀ x5 x6 x7 x8 x9 x10 x11 x12 x13 x14 x15 x16 x17 x18 x19 x20 x21 x22 x23 x24 x25 : AVal, EX AA 0 p21_5 ⟨[e.av, .ptr 0 0, .lit (.slice none 0 0), .ptr 64 0, .func (.func 55) [.ptr 64 0], x5, x6, x7, x8, x9, x10, x11, x12, x13, x14, x15, x16, x17, x18, x19, x20, x21, x22, x23, x24, x25, .lit Go.undef, .lit Go.undef, .lit Go.undef, .lit Go.undef, .lit Go.undef, .lit Go.undef, .lit Go.undef, .lit Go.undef, .lit Go.undef, .lit Go.undef, .lit Go.undef, .lit Go.undef, .lit Go.undef, .lit Go.undef, .lit Go.undef, .lit Go.undef, .lit Go.undef, .lit Go.undef, .lit Go.undef, .lit Go.undef, .lit Go.undef, .lit Go.undef, .lit Go.undef, .lit Go.undef], [(0, .var e.av.cells), (64, .var [.own r 2 0 n false]), (r, .row es 2)], 800⟩ [] (FinR l0) := by
 intro x5 x6 x7 x8 x9 x10 x11 x12 x13 x14 x15 x16 x17 x18 x19 x20 x21 x22 x23 x24 x25
 have a0 : (0 = r) = False := by simp; omega
 have b0 : (0 == r) = false := by simp; omega
 have a1 : (r = 0) = False := by simp; omega
 have b1 : (r == 0) = false := by simp; omega
 have a2 : (64 = r) = False := by simp; omega
 have b2 : (64 == r) = false := by simp; omega
 have a3 : (r = 64) = False := by simp; omega
 have b3 : (r == 64) = false := by simp; omega
 have c := i48 e.time
 have d := s56 e.time hb.2.2.2.2.1 hb.2.2.2.2.2.1
 have w := s55d mtimeB (Lib.itoa e.time) n es (by rw [he, hn, List.length_map]) (by omega)
 unfold rst5 at h
 cases hf : (timeB e.time) with
 | true =>
  rw [hf] at c h
  have ih := q21_6_own e hb l0 rs es n r hr hn he (by omega) hne (by rw [h]; simp [recIf])
  have gg:=trivial;repeat' first|simp (maxSteps:=2000000) (disch:=omega) only [gg,p21_5,c,d,a0,a1,a2,a3,b0,b1,b2,b3,beq_self_eq_true,s55c,mtimeB_eq,go_sem]|(refine br ?_ ?_<;>intro gg<;>try omega)|(apply And.intro;focus omega)|omega
  apply ih
 | false =>
  rw [hf] at c h
  have ih := fun r hr => q21_6_own e hb l0 (rs ++ [⟨mtimeB, (Lib.itoa e.time)⟩]) (es ++ [.agg [.str mtimeB, .str (Lib.itoa e.time)]]) (n + 1) r hr (by simp [hn]) (by simp [he, Rcd.av]) (by simp; omega) (by simp) (by rw [h]; simp [recIf])
  have gg:=trivial;repeat' first|simp (maxSteps:=2000000) (disch:=omega) only [gg,p21_5,c,d,a0,a1,a2,a3,b0,b1,b2,b3,beq_self_eq_true,w,mtimeB_eq,go_sem]|(refine br ?_ ?_<;>intro gg<;>try omega)|(apply And.intro;focus omega)|omega
  apply ih
  omega
theorem q21_5_nil (e : Ent) (hb : EntB e) (l0 : List Rcd) (h : l0 = rst5 e) :
  ∀ x5 x6 x7 x8 x9 x10 x11 x12 x13 x14 x15 x16 x17 x18 x19 x20 x21 x22 x23 x24 x25 : AVal, EX AA 0 p21_5 ⟨[e.av, .ptr 0 0, .lit (.slice none 0 0), .ptr 64 0, .func (.func 55) [.ptr 64 0], x5, x6, x7, x8, x9, x10, x11, x12, x13, x14, x15, x16, x17, x18, x19, x20, x21, x22, x23, x24, x25, .lit Go.undef, .lit Go.undef, .lit Go.undef, .lit Go.undef, .lit Go.undef, .lit Go.undef, .lit Go.undef, .lit Go.undef, .lit Go.undef, .lit Go.undef, .lit Go.undef, .lit Go.undef, .lit Go.undef, .lit Go.undef, .lit Go.undef, .lit Go.undef, .lit Go.undef, .lit Go.undef, .lit Go.undef, .lit Go.undef, .lit Go.undef, .lit Go.undef, .lit Go.undef, .lit Go.undef], [(0, .var e.av.cells), (64, .var [.lit (.slice none 0 0)])], 800⟩ [] (FinR l0) := by
 intro x5 x6 x7 x8 x9 x10 x11 x12 x13 x14 x15 x16 x17 x18 x19 x20 x21 x22 x23 x24 x25
 have c := i48 e.time
 have d := s56 e.time hb.2.2.2.2.1 hb.2.2.2.2.2.1
 have w := s55b mtimeB (Lib.itoa e.time)
 unfold rst5 at h
 cases hf : (timeB e.time) with
 | true =>
  rw [hf] at c h
  have ih := q21_6_nil e hb l0 (by rw [h]; simp [recIf])
  have gg:=trivial;repeat' first|simp (maxSteps:=2000000) (disch:=omega) only [gg,p21_5,c,d,s55a,go_sem]|(refine br ?_ ?_<;>intro gg<;>try omega)|(apply And.intro;focus omega)|omega
  apply ih
 | false =>
  rw [hf] at c h
  have ih := fun r hr => q21_6_own e hb l0 [⟨mtimeB, (Lib.itoa e.time)⟩] [.agg [.str mtimeB, .str (Lib.itoa e.time)]] 1 r hr rfl rfl (by simp) (by simp) (by rw [h]; simp [recIf])
  have gg:=trivial;repeat' first|simp (maxSteps:=2000000) (disch:=omega) only [gg,p21_5,c,d,w,mtimeB_eq,go_sem]|(refine br ?_ ?_<;>intro gg<;>try omega)|(apply And.intro;focus omega)|omega
  apply ih
  omega
theorem q21_4_own (e : Ent) (hb : EntB e) (l0 rs : List Rcd) (es : List AVal) (n r : Nat) (hr : 64 < r) (hn : n = rs.length) (he : es = rs.map Rcd.av) (hl : rs.length ≤ 4) (hne : rs ≠ []) (h : l0 = rs ++ rst4 e) :
  ∀ x5 x6 x7 x8 x9 x10 x11 x12 x13 : AVal, EX AA 0 p21_4 ⟨[e.av, .ptr 0 0, .lit (.slice none 0 0), .ptr 64 0, .func (.func 55) [.ptr 64 0], x5, x6, x7, x8, x9, x10, x11, x12, x13, .lit Go.undef, .lit Go.undef, .lit Go.undef, .lit Go.undef, .lit Go.undef, .lit Go.undef, .lit Go.undef, .lit Go.undef, .lit Go.undef, .lit Go.undef, .lit Go.undef, .lit Go.undef, .lit Go.undef, .lit Go.undef, .lit Go.undef, .lit Go.undef, .lit Go.undef, .lit Go.undef, .lit Go.undef, .lit Go.undef, .lit Go.undef, .lit Go.undef, .lit Go.undef, .lit Go.undef, .lit Go.undef, .lit Go.undef, .lit Go.undef, .lit Go.undef, .lit Go.undef, .lit Go.undef, .lit Go.undef, .lit Go.undef, .lit Go.undef, .lit Go.undef, .lit Go.undef, .lit Go.undef], [(0, .var e.av.cells), (64, .var [.own r 2 0 n false]), (r, .row es 2)], 416⟩ [] (FinR l0) := by
 intro x5 x6 x7 x8 x9 x10 x11 x12 x13
 have a0 : (0 = r) = False := by simp; omega
 have b0 : (0 == r) = false := by simp; omega
 have a1 : (r = 0) = False := by simp; omega
 have b1 : (r == 0) = false := by simp; omega
 have a2 : (64 = r) = False := by simp; omega
 have b2 : (64 == r) = false := by simp; omega
 have a3 : (r = 64) = False := by simp; omega
 have b3 : (r == 64) = false := by simp; omega
 have c := i45 e.link hb.2.2.2.2.2.2.1
 have w := s55d linkpathB e.link n es (by rw [he, hn, List.length_map]) (by omega)
 unfold rst4 at h
 unfold linkE at h
 by_cases hz : e.link = []
 ·have ih := q21_5_own e hb l0 rs es n r hr hn he (by omega) hne (by rw [h]; simp [recIf, hz])
  have gg:=trivial;repeat' first|simp (maxSteps:=2000000) (disch:=omega) only [gg,p21_4,c,a0,a1,a2,a3,b0,b1,b2,b3,beq_self_eq_true,s55c,w,decide_eq_true hz,linkpathB_eq,go_sem]|(refine br ?_ ?_<;>intro gg<;>try omega)|(apply And.intro;focus omega)|omega
  apply ih
 have hz2 : decide (e.link = []) = false := decide_eq_false hz
 rw [hz2, Bool.false_or] at h
 cases hf : linkB e.link with
 | true =>
  rw [hf] at c h
  have ih := q21_5_own e hb l0 rs es n r hr hn he (by omega) hne (by rw [h]; simp [recIf])
  have gg:=trivial;repeat' first|simp (maxSteps:=2000000) (disch:=omega) only [gg,p21_4,c,a0,a1,a2,a3,b0,b1,b2,b3,beq_self_eq_true,s55c,hz,linkpathB_eq,go_sem]|(refine br ?_ ?_<;>intro gg<;>try omega)|(apply And.intro;focus omega)|omega
  apply ih
 | false =>
  rw [hf] at c h
  have ih := fun r hr => q21_5_own e hb l0 (rs ++ [⟨linkpathB, e.link⟩]) (es ++ [.agg [.str linkpathB, .str e.link]]) (n + 1) r hr (by simp [hn]) (by simp [he, Rcd.av]) (by simp; omega) (by simp) (by rw [h]; simp [recIf])
  have gg:=trivial;repeat' first|simp (maxSteps:=2000000) (disch:=omega) only [gg,p21_4,c,a0,a1,a2,a3,b0,b1,b2,b3,beq_self_eq_true,w,hz,linkpathB_eq,go_sem]|(refine br ?_ ?_<;>intro gg<;>try omega)|(apply And.intro;focus omega)|omega
  apply ih
  omega
theorem q21_4_nil (e : Ent) (hb : EntB e) (l0 : List Rcd) (h : l0 = rst4 e) :
  ∀ x5 x6 x7 x8 x9 x10 x11 x12 x13 : AVal, EX AA 0 p21_4 ⟨[e.av, .ptr 0 0, .lit (.slice none 0 0), .ptr 64 0, .func (.func 55) [.ptr 64 0], x5, x6, x7, x8, x9, x10, x11, x12, x13, .lit Go.undef, .lit Go.undef, .lit Go.undef, .lit Go.undef, .lit Go.undef, .lit Go.undef, .lit Go.undef, .lit Go.undef, .lit Go.undef, .lit Go.undef, .lit Go.undef, .lit Go.undef, .lit Go.undef, .lit Go.undef, .lit Go.undef, .lit Go.undef, .lit Go.undef, .lit Go.undef, .lit Go.undef, .lit Go.undef, .lit Go.undef, .lit Go.undef, .lit Go.undef, .lit Go.undef, .lit Go.undef, .lit Go.undef, .lit Go.undef, .lit Go.undef, .lit Go.undef, .lit Go.undef, .lit Go.undef, .lit Go.undef, .lit Go.undef, .lit Go.undef, .lit Go.undef, .lit Go.undef], [(0, .var e.av.cells), (64, .var [.lit (.slice none 0 0)])], 416⟩ [] (FinR l0) := by
 intro x5 x6 x7 x8 x9 x10 x11 x12 x13
 have c := i45 e.link hb.2.2.2.2.2.2.1
 have w := s55b linkpathB e.link
 unfold rst4 at h
 unfold linkE at h
 by_cases hz : e.link = []
 ·have ih := q21_5_nil e hb l0 (by rw [h]; simp [recIf, hz])
  have gg:=trivial;repeat' first|simp (maxSteps:=2000000) (disch:=omega) only [gg,p21_4,c,s55a,decide_eq_true hz,go_sem]|(refine br ?_ ?_<;>intro gg<;>try omega)|(apply And.intro;focus omega)|omega
  apply ih
 have hz2 : decide (e.link = []) = false := decide_eq_false hz
 rw [hz2, Bool.false_or] at h
 cases hf : linkB e.link with
 | true =>
  rw [hf] at c h
  have ih := q21_5_nil e hb l0 (by rw [h]; simp [recIf])
  have gg:=trivial;repeat' first|simp (maxSteps:=2000000) (disch:=omega) only [gg,p21_4,c,s55a,hz,go_sem]|(refine br ?_ ?_<;>intro gg<;>try omega)|(apply And.intro;focus omega)|omega
  apply ih
 | false =>
  rw [hf] at c h
  have ih := fun r hr => q21_5_own e hb l0 [⟨linkpathB, e.link⟩] [.agg [.str linkpathB, .str e.link]] 1 r hr rfl rfl (by simp) (by simp) (by rw [h]; simp [recIf])
  have gg:=trivial;repeat' first|simp (maxSteps:=2000000) (disch:=omega) only [gg,p21_4,c,w,hz,linkpathB_eq,go_sem]|(refine br ?_ ?_<;>intro gg<;>try omega)|(apply And.intro;focus omega)|omega
  apply ih
  omega
theorem q21_3_nil (e : Ent) (hb : EntB e) (l0 : List Rcd) (h : l0 = rst3 e) :
  ∀ x5 : AVal, EX AA 0 p21_3 ⟨[e.av, .ptr 0 0, .lit (.slice none 0 0), .ptr 64 0, .func (.func 55) [.ptr 64 0], x5, .lit Go.undef, .lit Go.undef, .lit Go.undef, .lit Go.undef, .lit Go.undef, .lit Go.undef, .lit Go.undef, .lit Go.undef, .lit Go.undef, .lit Go.undef, .lit Go.undef, .lit Go.undef, .lit Go.undef, .lit Go.undef, .lit Go.undef, .lit Go.undef, .lit Go.undef, .lit Go.undef, .lit Go.undef, .lit Go.undef, .lit Go.undef, .lit Go.undef, .lit Go.undef, .lit Go.undef, .lit Go.undef, .lit Go.undef, .lit Go.undef, .lit Go.undef, .lit Go.undef, .lit Go.undef, .lit Go.undef, .lit Go.undef, .lit Go.undef, .lit Go.undef, .lit Go.undef, .lit Go.undef, .lit Go.undef, .lit Go.undef, .lit Go.undef, .lit Go.undef, .lit Go.undef, .lit Go.undef, .lit Go.undef, .lit Go.undef], [(0, .var e.av.cells), (64, .var [.lit (.slice none 0 0)])], 160⟩ [] (FinR l0) := by
 intro x5
 have c := i46 e.gid
 have d := s56 e.gid hb.1 hb.2.1
 have w := s55b gidB (Lib.itoa e.gid)
 unfold rst3 at h
 cases hf : (idB e.gid) with
 | true =>
  rw [hf] at c h
  have ih := q21_4_nil e hb l0 (by rw [h]; simp [recIf])
  have gg:=trivial;repeat' first|simp (maxSteps:=2000000) (disch:=omega) only [gg,p21_3,c,d,s55a,go_sem]|(refine br ?_ ?_<;>intro gg<;>try omega)|(apply And.intro;focus omega)|omega
  apply ih
 | false =>
  rw [hf] at c h
  have ih := fun r hr => q21_4_own e hb l0 [⟨gidB, (Lib.itoa e.gid)⟩] [.agg [.str gidB, .str (Lib.itoa e.gid)]] 1 r hr rfl rfl (by simp) (by simp) (by rw [h]; simp [recIf])
  have gg:=trivial;repeat' first|simp (maxSteps:=2000000) (disch:=omega) only [gg,p21_3,c,d,w,gidB_eq,go_sem]|(refine br ?_ ?_<;>intro gg<;>try omega)|(apply And.intro;focus omega)|omega
  apply ih
  omega
theorem s21 (e : Ent) (hb : EntB e) : callT AA 21 [e.av] [] = some (recV (recsE e), recH (recsE e)) := by
 have ih := q21_3_nil e hb _ rfl
 refine enter fn21 np21 rfl ?_
 rw [b21_p]
 show EX AA 0 p21_0 _ [] (FinR (recsE e))
 have gg:=trivial;repeat' first|simp (maxSteps:=2000000) (disch:=omega) only [gg,p21_0,p21_1,p21_2,go_sem]|(refine br ?_ ?_<;>intro gg<;>try omega)|(apply And.intro;focus omega)|omega
 exact ih _
end Go.Abs
namespace Go.Abs
open Am
set_option maxRecDepth 10000
def paxStep (prev : Option Rcd) (out : List UInt8) (r : Rcd) : Bool :=
 lineOk r.key r.value && (match prev with | none => true | some p => Op.bytesLess p.key r.key) && decide (out.length + (lineB r.key r.value).length ≤ 65536)
def paxE (prev : Option Rcd) (out : List UInt8) : List Rcd → Option (List UInt8)
 | [] => some out
 | r :: rs => if paxStep prev out r = true then paxE (some r) (out ++ lineB r.key r.value) rs else none
def paxV (x : Option (List UInt8)) : AVal := match x with
 | none => .tuple [.lit (.slice none 0 0), .iface 58 (.int .i64 15)]
 | some o => .tuple [.own 0 1 0 o.length false, .lit .nilIface]
def paxH (x : Option (List UInt8)) : Heap := match x with
 | none => []
 | some o => [(0, .row (o.map .byte) 1)]
def RcdOk (r : Rcd) : Prop := r.key.length ≤ 1000000 ∧ r.value.length ≤ 1000000
theorem h109 (c t : Bool) (rs : List Rcd) (hs : rs.length ≤ 1000000) (hb : ∀ r ∈ rs, RcdOk r) (r0 : Option (List UInt8)) : ∀ (rest done : List Rcd) (p : Rcd) (out : List UInt8) (n i : Int) (q : Nat), rs = done ++ p :: rest → i = done.length + 1 → n = rs.length → q = out.length → out.length ≤ 65536 → r0 = paxE (some p) out rest →
  HD AA 0 [0, 2, 3, 4, 9, 10, 11] l109_0 ⟨[.view 2 (rs.map Rcd.av) c t, .junk, .lit (.slice none 0 0), .lit .nilIface, .own 0 1 0 q false, .junk, .junk, .junk, .junk, .view 2 (rs.map Rcd.av) c t, .int .i64 n, .int .i64 i, .junk, .junk, .junk, .junk, .junk, .junk, .junk, .junk, .junk, .junk, .junk, .junk, .junk, .junk, .junk, .junk, .junk, .junk, .junk, .junk, .junk, .junk, .junk, .junk, .junk, .junk, .junk, .junk, .junk, .junk, .junk, .junk, .junk, .junk, .junk, .junk, .junk, .junk, .junk, .junk, .junk, .junk, .junk], [(0, .row (out.map .byte) 1)], 1⟩ [.blk 0, .code r109_0] (Fin [(2, none), (3, none)] 0 (paxV r0) (paxH r0))
 | [], done, p, out, n, i, q, h1, h2, h3, h4, h5, h6 => by
  subst h1
  simp at h3
  have e : (out.map AVal.byte).take q = out.map .byte := List.take_of_length_le (by simp; omega)
  refine hd_of (by unfold l109_0; rfl) ?_
  simp only [paxE] at h6
  rw [h6]
  unfold paxV paxH
  have gg:=trivial;repeat' first|simp (maxSteps:=2000000) (disch:=omega) only [gg,r109_0,go_sem]|(refine br ?_ ?_<;>intro gg<;>try omega)|(apply And.intro;focus omega)|omega
  simp [h4]
 | r :: rest, done, p, out, n, i, q, h1, h2, h3, h4, h5, h6 => by
  have hg0 : rs[i.toNat]? = some r := by
   rw [h1, show i.toNat = done.length + 1 by omega]
   simp
  have hp0 : rs[(i - 1).toNat]? = some p := by
   rw [h1, show (i - 1).toNat = done.length by omega]
   simp
  have hl : i.toNat < rs.length := by rw [h1]; simp; omega
  have hl' : (i - 1).toNat < rs.length := by omega
  obtain ⟨hk, hv⟩ := hb r (by simp [h1])
  have hc := s121 r.key r.value hk hv
  have e : (out.map AVal.byte).take q = out.map .byte := List.take_of_length_le (by simp; omega)
  refine hd_of (by unfold l109_0; rfl) ?_
  unfold paxE at h6
  cases f1 : lineOk r.key r.value with
  | false =>
   rw [if_neg (by simp [paxStep, f1])] at h6
   rw [f1] at hc
   rw [h6]
   unfold paxV paxH
   have gg:=trivial;repeat' first|simp (maxSteps:=2000000) (disch:=omega) only [gg,hc,hg0,hp0,lp_head,go_sem]|(refine br ?_ ?_<;>intro gg<;>try omega)|(apply And.intro;focus omega)|omega
  | true =>
   have hll := lineB_length (k := r.key) (v := r.value) (by simp [lineOk, kwB] at f1; omega) (by simp [lineOk] at f1; omega)
   rw [f1] at hc
   generalize hL : lineB r.key r.value = L at *
   by_cases f2 : Op.bytesLess p.key r.key = true
   ·by_cases f3 : out.length + L.length ≤ 65536
    ·rw [if_pos (by simp [paxStep, f1, f2, hL, f3])] at h6
     have ih := h109 c t rs hs hb r0 rest (done ++ [p]) r (out ++ L) n (i + 1) (q + L.length) (by simp [h1]) (by simp; omega) h3 (by simp; omega) (by simp; omega) h6
     have gg:=trivial;repeat' first|simp (maxSteps:=2000000) (disch:=omega) only [gg,hc,hg0,hp0,f2,e,lp_head,← List.map_append,go_sem]|(refine br ?_ ?_<;>intro gg<;>try omega)|(apply And.intro;focus omega)|omega
    ·rw [if_neg (by simp [paxStep, f1, f2, hL]; omega)] at h6
     rw [h6]
     unfold paxV paxH
     have gg:=trivial;repeat' first|simp (maxSteps:=2000000) (disch:=omega) only [gg,hc,hg0,hp0,f2,lp_head,go_sem]|(refine br ?_ ?_<;>intro gg<;>try omega)|(apply And.intro;focus omega)|omega
   ·have f2' : Op.bytesLess p.key r.key = false := by simpa using f2
    rw [if_neg (by simp [paxStep, f2'])] at h6
    rw [h6]
    unfold paxV paxH
    have gg:=trivial;repeat' first|simp (maxSteps:=2000000) (disch:=omega) only [gg,hc,hg0,hp0,f2',lp_head,go_sem]|(refine br ?_ ?_<;>intro gg<;>try omega)|(apply And.intro;focus omega)|omega
theorem lineB_pos {k v : List UInt8} : 0 < (lineB k v).length := by
 simp [lineB, restP]
 omega
theorem s109 (c t : Bool) (r : Rcd) (rs : List Rcd) (hs : (r :: rs).length ≤ 1000000) (hb : ∀ x ∈ r :: rs, RcdOk x) : callT AA 109 [.view 2 ((r :: rs).map Rcd.av) c t] [] = some (paxV (paxE none [] (r :: rs)), paxH (paxE none [] (r :: rs))) := by
 obtain ⟨hk, hv⟩ := hb r (by simp)
 have hc := s121 r.key r.value hk hv
 have hh := h109 c t (r :: rs) hs hb (paxE none [] (r :: rs)) rs [] r
 refine enter fn109 np109 rfl ?_
 generalize hR : paxE none [] (r :: rs) = R at *
 unfold paxE at hR
 generalize hrs : r :: rs = l at *
 have hg0 : l[0]? = some r := by rw [← hrs]; rfl
 have hl : 0 < l.length := by rw [← hrs]; simp
 have gg:=trivial;repeat' first|simp (maxSteps:=2000000) (disch:=omega) only [gg,b109,lp_head,go_sem]|(refine br ?_ ?_<;>intro gg<;>try omega)|(apply And.intro;focus omega)|omega
 refine hd_of (by unfold l109_0; rfl) ?_
 cases f1 : lineOk r.key r.value with
 | false =>
  rw [if_neg (by simp [paxStep, f1])] at hR
  rw [f1] at hc
  rw [← hR]
  unfold paxV paxH
  have gg:=trivial;repeat' first|simp (maxSteps:=2000000) (disch:=omega) only [gg,hc,hg0,lp_head,go_sem]|(refine br ?_ ?_<;>intro gg<;>try omega)|(apply And.intro;focus omega)|omega
 | true =>
  have hll := lineB_length (k := r.key) (v := r.value) (by simp [lineOk, kwB] at f1; omega) (by simp [lineOk] at f1; omega)
  rw [f1] at hc
  generalize hL : lineB r.key r.value = L at *
  by_cases f3 : L.length ≤ 65536
  ·rw [if_pos (by simp [paxStep, f1, hL, f3])] at hR
   have hne : (L.map AVal.byte).isEmpty = false := by
    have := lineB_pos (k := r.key) (v := r.value)
    rw [hL] at this
    cases L with
    | nil => simp at this
    | cons x y => rfl
   have ih := hh L l.length 1 L.length (by simp [hrs]) rfl rfl rfl f3 (by rw [← hR]; simp)
   have gg:=trivial;repeat' first|simp (maxSteps:=2000000) (disch:=omega) only [gg,hc,hg0,hne,lp_head,go_sem]|(refine br ?_ ?_<;>intro gg<;>try omega)|(apply And.intro;focus omega)|omega
  ·rw [if_neg (by simp [paxStep, f1, hL]; omega)] at hR
   rw [← hR]
   unfold paxV paxH
   have gg:=trivial;repeat' first|simp (maxSteps:=2000000) (disch:=omega) only [gg,hc,hg0,lp_head,go_sem]|(refine br ?_ ?_<;>intro gg<;>try omega)|(apply And.intro;focus omega)|omega
end Go.Abs
namespace Go.Abs
open Am
set_option maxRecDepth 10000
theorem s148 (b : BS) : callT AA 148 [b.av] [] = some (b.clipped.av, []) := by
 refine enter fn148 np148 rfl ?_
 have gg:=trivial;repeat' first|simp (maxSteps:=2000000) (disch:=omega) only [gg,b148,go_sem]|(refine br ?_ ?_<;>intro gg<;>try omega)|(apply And.intro;focus omega)|omega
def padN (n : Nat) : Nat := (512 - n % 512) % 512
def padL (l : List UInt8) : List UInt8 := l ++ List.replicate (padN l.length) 0
def padV (b : BS) : AVal := if padN b.l.length = 0 then b.clipped.av else .own 0 1 0 (padL b.l).length false
def padH (b : BS) : Heap := if padN b.l.length = 0 then [] else [(0, .row ((padL b.l).map .byte) 1)]
theorem s110 (b : BS) (hb : b.l.length ≤ 1000000000) : callT AA 110 [b.av] [] = some (padV b, padH b) := by
 have h1 := s148 b
 refine enter fn110 np110 rfl ?_
 cases b with
 | nil =>
  have e0 : padN 0 = 0 := rfl
  have e1 : (0 : Int).tmod 512 = 0 := rfl
  have e2 : (512 : Int).tmod 512 = 0 := rfl
  simp only [padV, padH, BS.l, List.length_nil, e0, if_true]
  simp only [BS.clipped, av_nil] at h1 ⊢
  have gg:=trivial;repeat' first|simp (maxSteps:=2000000) (disch:=omega) only [gg,b110,h1,e1,e2,Int.sub_zero,List.replicate_zero,go_sem]|(refine br ?_ ?_<;>intro gg<;>try omega)|(apply And.intro;focus omega)|omega
 | mk c t l =>
  simp only [BS.l] at hb
  have e1 : ((l.length : Int)).tmod 512 = ((l.length % 512 : Nat) : Int) := by
   rw [Int.tmod_eq_emod_of_nonneg (by omega)]
   omega
  have e2 : ((512 : Int) - ((l.length % 512 : Nat) : Int)).tmod 512 = ((padN l.length : Nat) : Int) := by
   rw [Int.tmod_eq_emod_of_nonneg (by omega)]
   unfold padN
   omega
  have e3 : padN l.length < 512 := by
   unfold padN
   omega
  simp only [padV, padH, BS.l, padL]
  simp only [BS.clipped, mk_av] at h1 ⊢
  by_cases h0 : padN l.length = 0
  ·have gg:=trivial;repeat' first|simp (maxSteps:=2000000) (disch:=omega) only [gg,b110,h1,e1,e2,h0,List.replicate_zero,go_sem]|(refine br ?_ ?_<;>intro gg<;>try omega)|(apply And.intro;focus omega)|omega
  ·have e4 : ((List.replicate (padN l.length) (0 : UInt8)).map AVal.byte).isEmpty = false := by
    cases hp : padN l.length with
    | zero => exact (h0 hp).elim
    | succ n => rfl
   have gg:=trivial;repeat' first|simp (maxSteps:=2000000) (disch:=omega) only [gg,b110,h1,e1,e2,h0,e4,List.map_append,go_sem]|(refine br ?_ ?_<;>intro gg<;>try omega)|(apply And.intro;focus omega)|omega
def padOV (l : List UInt8) : AVal := if padN l.length = 0 then .own 0 1 0 l.length true else .own 1 1 0 (padL l).length false
def padOH (l : List UInt8) : Heap := if padN l.length = 0 then [(0, .row (l.map .byte) 1)] else [(0, .row (l.map .byte) 1), (1, .row ((padL l).map .byte) 1)]
theorem s148o (l : List AVal) (n : Nat) : callT AA 148 [.own 0 1 0 n false] [(0, .row l 1)] = some (.own 0 1 0 n true, [(0, .row l 1)]) := by
 refine enter fn148 np148 rfl ?_
 have gg:=trivial;repeat' first|simp (maxSteps:=2000000) (disch:=omega) only [gg,b148,go_sem]|(refine br ?_ ?_<;>intro gg<;>try omega)|(apply And.intro;focus omega)|omega
theorem s110o (l : List UInt8) (n : Nat) (hn : n = l.length) (hb : l.length ≤ 1000000000) : callT AA 110 [.own 0 1 0 n false] [(0, .row (l.map .byte) 1)] = some (padOV l, padOH l) := by
 subst hn
 have h1 := s148o (l.map .byte) l.length
 have e0 : (l.map AVal.byte).take l.length = l.map AVal.byte := List.take_of_length_le (by simp)
 refine enter fn110 np110 rfl ?_
 have e1 : ((l.length : Int)).tmod 512 = ((l.length % 512 : Nat) : Int) := by
  rw [Int.tmod_eq_emod_of_nonneg (by omega)]
  omega
 have e2 : ((512 : Int) - ((l.length % 512 : Nat) : Int)).tmod 512 = ((padN l.length : Nat) : Int) := by
  rw [Int.tmod_eq_emod_of_nonneg (by omega)]
  unfold padN
  omega
 have e3 : padN l.length < 512 := by
  unfold padN
  omega
 simp only [padOV, padOH, padL]
 by_cases h0 : padN l.length = 0
 ·have gg:=trivial;repeat' first|simp (maxSteps:=2000000) (disch:=omega) only [gg,b110,h1,e1,e2,e0,h0,List.replicate_zero,go_sem]|(refine br ?_ ?_<;>intro gg<;>try omega)|(apply And.intro;focus omega)|omega
 ·have e4 : ((List.replicate (padN l.length) (0 : UInt8)).map AVal.byte).isEmpty = false := by
   cases hp : padN l.length with
   | zero => exact (h0 hp).elim
   | succ n => rfl
  have gg:=trivial;repeat' first|simp (maxSteps:=2000000) (disch:=omega) only [gg,b110,h1,e1,e2,e0,h0,e4,List.map_append,go_sem]|(refine br ?_ ?_<;>intro gg<;>try omega)|(apply And.intro;focus omega)|omega
end Go.Abs
namespace Go.Abs
open Am
set_option maxRecDepth 10000
def typeB (k : Int) : UInt8 := if k = 1 then 53 else if k = 3 then 50 else if k = 4 then 49 else 48
theorem s102 (k : Int) : callT AA 102 [.int .i64 k] [] = some (.int .u8 (typeB k).toNat, []) := by
 refine enter fn102 np102 rfl ?_
 unfold typeB
 by_cases h1 : k = 1
 ·have gg:=trivial;repeat' first|simp (maxSteps:=2000000) (disch:=omega) only [gg,b102,h1,go_sem]|(refine br ?_ ?_<;>intro gg<;>try omega)|(apply And.intro;focus omega)|omega
  rfl
 by_cases h3 : k = 3
 ·have gg:=trivial;repeat' first|simp (maxSteps:=2000000) (disch:=omega) only [gg,b102,h3,go_sem]|(refine br ?_ ?_<;>intro gg<;>try omega)|(apply And.intro;focus omega)|omega
  rfl
 by_cases h4 : k = 4
 ·have gg:=trivial;repeat' first|simp (maxSteps:=2000000) (disch:=omega) only [gg,b102,h4,go_sem]|(refine br ?_ ?_<;>intro gg<;>try omega)|(apply And.intro;focus omega)|omega
  rfl
 have gg:=trivial;repeat' first|simp (maxSteps:=2000000) (disch:=omega) only [gg,b102,h1,h3,h4,go_sem]|(refine br ?_ ?_<;>intro gg<;>try omega)|(apply And.intro;focus omega)|omega
 rfl
def paxB : List UInt8 := [112, 97, 120]
theorem paxB_eq : AVal.str [112, 97, 120] = .str paxB := rfl
def setR (h : Hd) (r : Rcd) : Hd :=
 if r.key = gidB then { h with gid := 0 } else if r.key = linkpathB then { h with link := paxB } else if r.key = mtimeB then { h with time := 0 } else if r.key = pathB then { h with path := paxB } else if r.key = uidB then { h with uid := 0 } else h
def hdE (e : Ent) : Hd := ⟨e.path, e.mode, e.uid, e.gid, e.data.l.length, e.time, typeB e.kind, e.link⟩
def hdrE (e : Ent) (rs : List Rcd) : Hd := rs.foldl setR (hdE e)
theorem h111 (c t : Bool) (rs : List Rcd) (hs : rs.length ≤ 1000000) (r0 : Hd) : ∀ (rest done : List Rcd) (h : Hd) (n i : Int), rs = done ++ rest → i = done.length → n = rs.length → r0 = rest.foldl setR h →
  HD AA 0 [4, 5, 27, 28, 29] l111_0 ⟨[.junk, .junk, .junk, .junk, .ptr 0 0, .ptr 1 0, .junk, .junk, .junk, .junk, .junk, .junk, .junk, .junk, .junk, .junk, .junk, .junk, .junk, .junk, .junk, .junk, .junk, .junk, .junk, .junk, .junk, .view 2 (rs.map Rcd.av) c t, .int .i64 n, .int .i64 i, .junk, .junk, .junk, .junk, .junk, .junk, .junk, .junk, .junk, .junk, .junk, .junk, .junk, .junk, .junk, .junk, .junk, .junk, .junk, .junk, .junk, .junk], [(0, .var [.str [], .int .i64 0, .int .i64 0, .int .i64 0, .int .i64 0, .int .i64 0, .int .u8 0, .str []]), (1, .var h.av.cells)], 2⟩ [.blk 0, .code r111_0] (Fin [(4, some (8, true))] 0 r0.av [])
 | [], done, h, n, i, h1, h2, h3, h4 => by
  subst h1
  simp at h3
  refine hd_of (by unfold l111_0; rfl) ?_
  simp only [List.foldl] at h4
  rw [h4]
  have gg:=trivial;repeat' first|simp (maxSteps:=2000000) (disch:=omega) only [gg,r111_0,go_sem]|(refine br ?_ ?_<;>intro gg<;>try omega)|(apply And.intro;focus omega)|omega
 | r :: rest, done, h, n, i, h1, h2, h3, h4 => by
  have hg0 : rs[i.toNat]? = some r := by
   rw [h1]
   simp [h2]
  have hl : i.toNat < rs.length := by rw [h1]; simp; omega
  rw [List.foldl_cons] at h4
  have ih := h111 c t rs hs r0 rest (done ++ [r]) (setR h r) n (i + 1) (by simp [h1]) (by first | omega | (simp; omega) | (simp; done)) h3 h4
  refine hd_of (by unfold l111_0; rfl) ?_
  by_cases k0 : r.key = [103, 105, 100]
  ·have e : setR h r = { h with gid := 0 } := by
    unfold setR gidB linkpathB mtimeB pathB uidB
    rw [if_pos k0]
   rw [e] at ih
   have gg:=trivial;repeat' first|simp (maxSteps:=2000000) (disch:=omega) only [gg,hg0,decide_eq_true k0,lp_head,paxB_eq,go_sem]|(refine br ?_ ?_<;>intro gg<;>try omega)|(apply And.intro;focus omega)|omega
   exact ih
  by_cases k1 : r.key = [108, 105, 110, 107, 112, 97, 116, 104]
  ·have e : setR h r = { h with link := paxB } := by
    unfold setR gidB linkpathB mtimeB pathB uidB
    rw [if_neg k0, if_pos k1]
   rw [e] at ih
   have gg:=trivial;repeat' first|simp (maxSteps:=2000000) (disch:=omega) only [gg,hg0,decide_eq_false k0,decide_eq_true k1,lp_head,paxB_eq,go_sem]|(refine br ?_ ?_<;>intro gg<;>try omega)|(apply And.intro;focus omega)|omega
   exact ih
  by_cases k2 : r.key = [109, 116, 105, 109, 101]
  ·have e : setR h r = { h with time := 0 } := by
    unfold setR gidB linkpathB mtimeB pathB uidB
    rw [if_neg k0, if_neg k1, if_pos k2]
   rw [e] at ih
   have gg:=trivial;repeat' first|simp (maxSteps:=2000000) (disch:=omega) only [gg,hg0,decide_eq_false k0,decide_eq_false k1,decide_eq_true k2,lp_head,paxB_eq,go_sem]|(refine br ?_ ?_<;>intro gg<;>try omega)|(apply And.intro;focus omega)|omega
   exact ih
  by_cases k3 : r.key = [112, 97, 116, 104]
  ·have e : setR h r = { h with path := paxB } := by
    unfold setR gidB linkpathB mtimeB pathB uidB
    rw [if_neg k0, if_neg k1, if_neg k2, if_pos k3]
   rw [e] at ih
   have gg:=trivial;repeat' first|simp (maxSteps:=2000000) (disch:=omega) only [gg,hg0,decide_eq_false k0,decide_eq_false k1,decide_eq_false k2,decide_eq_true k3,lp_head,paxB_eq,go_sem]|(refine br ?_ ?_<;>intro gg<;>try omega)|(apply And.intro;focus omega)|omega
   exact ih
  by_cases k4 : r.key = [117, 105, 100]
  ·have e : setR h r = { h with uid := 0 } := by
    unfold setR gidB linkpathB mtimeB pathB uidB
    rw [if_neg k0, if_neg k1, if_neg k2, if_neg k3, if_pos k4]
   rw [e] at ih
   have gg:=trivial;repeat' first|simp (maxSteps:=2000000) (disch:=omega) only [gg,hg0,decide_eq_false k0,decide_eq_false k1,decide_eq_false k2,decide_eq_false k3,decide_eq_true k4,lp_head,paxB_eq,go_sem]|(refine br ?_ ?_<;>intro gg<;>try omega)|(apply And.intro;focus omega)|omega
   exact ih
  have e : setR h r = h := by
   unfold setR gidB linkpathB mtimeB pathB uidB
   rw [if_neg k0, if_neg k1, if_neg k2, if_neg k3, if_neg k4]
  rw [e] at ih
  have gg:=trivial;repeat' first|simp (maxSteps:=2000000) (disch:=omega) only [gg,hg0,decide_eq_false k0,decide_eq_false k1,decide_eq_false k2,decide_eq_false k3,decide_eq_false k4,lp_head,go_sem]|(refine br ?_ ?_<;>intro gg<;>try omega)|(apply And.intro;focus omega)|omega
  exact ih
theorem s111 (e : Ent) (c t : Bool) (rs : List Rcd) (hs : rs.length ≤ 1000000) : callT AA 111 [e.av, .view 2 (rs.map Rcd.av) c t] [] = some ((hdrE e rs).av, []) := by
 have h1 := s102 e.kind
 have ih := h111 c t rs hs (hdrE e rs) rs [] (hdE e) rs.length 0 rfl rfl rfl rfl
 refine enter fn111 np111 rfl ?_
 have gg:=trivial;repeat' first|simp (maxSteps:=2000000) (disch:=omega) only [gg,b111,h1,lp_head,go_sem]|(refine br ?_ ?_<;>intro gg<;>try omega)|(apply And.intro;focus omega)|omega
 exact ih
theorem s111n (e : Ent) : callT AA 111 [e.av, .lit (.slice none 0 0)] [] = some ((hdE e).av, []) := by
 have h1 := s102 e.kind
 refine enter fn111 np111 rfl ?_
 have gg:=trivial;repeat' first|simp (maxSteps:=2000000) (disch:=omega) only [gg,b111,h1,lp_head,go_sem]|(refine br ?_ ?_<;>intro gg<;>try omega)|(apply And.intro;focus omega)|omega
 refine hd_of (by unfold l111_0; rfl) ?_
 have gg:=trivial;repeat' first|simp (maxSteps:=2000000) (disch:=omega) only [gg,r111_0,go_sem]|(refine br ?_ ?_<;>intro gg<;>try omega)|(apply And.intro;focus omega)|omega
 rfl
end Go.Abs
namespace Go.Abs
open Am
set_option maxRecDepth 10000
theorem putA_512 {bs xs : List UInt8} {off n : Nat} (h : bs.length = 512) (h' : off + n ≤ 512) : (putA bs off n xs).length = 512 := by
 rw [putA_length (by omega)]
 exact h
theorem octW_512 {bs : List UInt8} {pos k : Nat} {n : Int} (h : bs.length = 512) : (octW bs pos k n).length = 512 := by
 rw [octW_length]
 exact h
theorem set_512 {bs : List UInt8} {i : Nat} {x : UInt8} (h : bs.length = 512) : (bs.set i x).length = 512 := by
 rw [List.length_set]
 exact h
theorem encB_length (h : Hd) : (encB h).length = 512 := by
 unfold encB encH
 refine set_512 (octW_512 (putA_512 (octW_512 (octW_512 (putA_512 (putA_512 (set_512 (octW_512 (octW_512 (octW_512 (octW_512 (octW_512 (putA_512 zeros512_length ?_)))))))  ?_) ?_))) ?_))
 all_goals omega
theorem paxE_le : ∀ (rs : List Rcd) (p : Option Rcd) (out o : List UInt8), out.length ≤ 65536 → paxE p out rs = some o → o.length ≤ 65536
 | [], p, out, o, h, he => by
  simp only [paxE, Option.some.injEq] at he
  rw [← he]
  exact h
 | r :: rs, p, out, o, h, he => by
  unfold paxE at he
  split at he
  ·rename_i hs
   refine paxE_le rs _ _ o ?_ he
   simp only [paxStep, Bool.and_eq_true, decide_eq_true_eq] at hs
   simpa using hs.2
  ·cases he
theorem setR_le {h : Hd} {r : Rcd} (h1 : h.path.length ≤ 1000000) (h2 : h.link.length ≤ 1000000) : (setR h r).path.length ≤ 1000000 ∧ (setR h r).link.length ≤ 1000000 := by
 unfold setR
 repeat' split
 all_goals simp [h1, h2, paxB]
theorem fold_le : ∀ (rs : List Rcd) (h : Hd), h.path.length ≤ 1000000 → h.link.length ≤ 1000000 → (rs.foldl setR h).path.length ≤ 1000000 ∧ (rs.foldl setR h).link.length ≤ 1000000
 | [], h, h1, h2 => ⟨h1, h2⟩
 | r :: rs, h, h1, h2 => fold_le rs (setR h r) (setR_le h1 h2).1 (setR_le h1 h2).2
theorem padL_length (l : List UInt8) : (padL l).length = l.length + padN l.length := by simp [padL]
theorem padN_lt (n : Nat) : padN n < 512 := by
 unfold padN
 omega
def hdX (n : Int) (body : List UInt8) : Hd := ⟨[112, 97, 120, 47] ++ Lib.itoa n, 0, 0, 0, body.length, 0, 120, []⟩
def bodyE (e : Ent) : List UInt8 := (paxE none [] (recsE e)).getD []
def preE (n : Int) (e : Ent) : List UInt8 := if recsE e = [] then [] else encB (hdX n (bodyE e)) ++ padL (bodyE e)
def pieceL (n : Int) (e : Ent) : List UInt8 := preE n e ++ encB (hdrE e (recsE e)) ++ padL e.data.l
def pieceOk (n : Int) (e : Ent) : Prop := encOk (hdrE e (recsE e)) = true ∧ (recsE e ≠ [] → (paxE none [] (recsE e)).isSome = true ∧ encOk (hdX n (bodyE e)) = true)
theorem rcd_recIf {f : Bool} {k v : List UInt8} (hk : k.length ≤ 1000000) (hv : v.length ≤ 1000000) : ∀ r ∈ recIf f k v, RcdOk r := by
 unfold recIf
 split
 ·simp
 ·simp [RcdOk, hk, hv]
theorem itoa_le {n : Int} (h1 : -9223372036854775808 ≤ n) (h2 : n ≤ 9223372036854775807) : (Lib.itoa n).length ≤ 20 := by
 have hb : ∀ u : Nat, u < 10000000000000000000 → Lib.nDigits u ≤ 19 := by
  intro u hu
  have h1 := nDigits_mono (u := u) (v := 9999999999999999999) (by omega)
  have h2 : Lib.nDigits 9999999999999999999 = 19 := Lib.nDigits_unique 18 9999999999999999999 (by decide) (by decide)
  omega
 unfold Lib.itoa
 split
 ·rw [List.length_cons, Lib.decDigits_length]
  have := hb n.natAbs (by omega)
  omega
 ·rw [Lib.decDigits_length]
  have := hb n.toNat (by omega)
  omega
theorem rcd_recsE {e : Ent} (hb : EntB e) : ∀ r ∈ recsE e, RcdOk r := by
 obtain ⟨b1, b2, b3, b4, b5, b6, b7, b8⟩ := hb
 have i1 := itoa_le b1 b2
 have i2 := itoa_le b3 b4
 have i3 := itoa_le b5 b6
 unfold recsE rst3 rst4 rst5 rst6 rst7
 simp only [List.mem_append]
 rintro r (h | h | h | h | h)
 ·exact rcd_recIf (by simp [gidB]) (by omega) r h
 ·exact rcd_recIf (by simp [linkpathB]) b7 r h
 ·exact rcd_recIf (by simp [mtimeB]) (by omega) r h
 ·exact rcd_recIf (by simp [pathB]) b8 r h
 ·exact rcd_recIf (by simp [uidB]) (by omega) r h
theorem recsE_length (e : Ent) : (recsE e).length ≤ 5 := by
 have h : ∀ (f : Bool) (k v : List UInt8), (recIf f k v).length ≤ 1 := by
  intro f k v
  unfold recIf
  split <;> simp
 unfold recsE rst3 rst4 rst5 rst6 rst7
 simp only [List.length_append]
 have := h (idB e.gid) gidB (Lib.itoa e.gid)
 have := h (linkE e.link) linkpathB e.link
 have := h (timeB e.time) mtimeB (Lib.itoa e.time)
 have := h (splitN e.path).2.2 pathB e.path
 have := h (idB e.uid) uidB (Lib.itoa e.uid)
 omega
set_option maxHeartbeats 8000000 in
theorem s66 (n : Int) (hn : 0 ≤ n) (hn' : n ≤ 1000000) (e : Ent) (hb : EntB e) (hd : e.data.l.length ≤ 1000000000) (hok : pieceOk n e) :
  callT AA 66 [.int .i64 n, e.av] [] = some (.tuple [.own 0 1 0 (pieceL n e).length false, .lit .nilIface], [(0, .row ((pieceL n e).map .byte) 1)]) := by
 have h21 := s21 e hb
 have hpl := fold_le (recsE e) (hdE e) hb.2.2.2.2.2.2.2 hb.2.2.2.2.2.2.1
 have h70 := s70 (hdrE e (recsE e)) hpl.1 hpl.2 hok.1
 have hl0 := encB_length (hdrE e (recsE e))
 have h110 := s110 e.data hd
 have hpl := padL_length e.data.l
 have hpn := padN_lt e.data.l.length
 by_cases h0 : recsE e = []
 ·have e1 : pieceL n e = encB (hdrE e (recsE e)) ++ padL e.data.l := by
   unfold pieceL preE
   rw [if_pos h0, List.nil_append]
  rw [e1, List.length_append, hl0, List.map_append]
  have h111 := s111n e
  have e2 : hdE e = hdrE e (recsE e) := by rw [h0]; rfl
  rw [e2] at h111
  rw [h0] at h21
  have e3 : recV [] = .lit (.slice none 0 0) := rfl
  have e4 : recH [] = [] := rfl
  rw [e3, e4] at h21
  refine enter fn66 np66 rfl ?_
  generalize hH : hdrE e (recsE e) = H at *
  generalize hB : encB H = B at *
  have hx2 : (B.map AVal.byte).take 512 = B.map AVal.byte := List.take_of_length_le (by simp; omega)
  have hx : (B.map AVal.byte).isEmpty = false := by
   cases B with
   | nil => simp at hl0
   | cons x y => rfl
  cases hdt : e.data with
  | nil =>
   simp only [hdt, BS.l, av_nil] at h110 hpl hpn
   have e5 : padN 0 = 0 := rfl
   simp only [padV, padH, BS.l, List.length_nil, e5, if_true, BS.clipped, av_nil] at h110
   have e6 : padL ([] : List UInt8) = [] := rfl
   simp only [BS.l, e6, List.length_nil, List.map_nil]
   simp only [Ent.av, hdt, av_nil] at h21 h111
   simp only [Hd.av] at h111 h70
   have gg:=trivial;repeat' first|simp (maxSteps:=2000000) (disch:=omega) only [gg,b66,h21,h111,h70,h110,hdt,hx,hx2,hl0,Nat.min_self,mk_av,go_sem]|(refine br ?_ ?_<;>intro gg<;>try omega)|(apply And.intro;focus omega)|omega
  | mk c t l =>
   simp only [hdt, BS.l, mk_av] at h110 hpl hpn hd
   simp only [Ent.av, hdt, mk_av] at h21 h111
   simp only [Hd.av] at h111 h70
   simp only [padV, padH, BS.l, BS.clipped, mk_av] at h110
   simp only [BS.l]
   by_cases hp : padN l.length = 0
   ·simp only [hp, if_true] at h110
    have e7 : padL l = l := by simp [padL, hp]
    rw [e7]
    have gg:=trivial;repeat' first|simp (maxSteps:=2000000) (disch:=omega) only [gg,b66,h21,h111,h70,h110,hdt,hx,hx2,hl0,Nat.min_self,mk_av,go_sem]|(refine br ?_ ?_<;>intro gg<;>try omega)|(apply And.intro;focus omega)|omega
   ·simp only [hp, if_false] at h110
    have gg:=trivial;repeat' first|simp (maxSteps:=2000000) (disch:=omega) only [gg,b66,h21,h111,h70,h110,hdt,hx,hx2,hl0,Nat.min_self,mk_av,go_sem]|(refine br ?_ ?_<;>intro gg<;>try omega)|(apply And.intro;focus omega)|omega
 ·obtain ⟨hsm, hkx⟩ := hok.2 h0
  obtain ⟨body, hbd⟩ := Option.isSome_iff_exists.1 hsm
  have hbe : bodyE e = body := by unfold bodyE; rw [hbd]; rfl
  have hbl := paxE_le _ _ _ _ (by simp) hbd
  have hitl := itoa_le (n := n) (by omega) (by omega)
  have h70x := s70 (hdX n (bodyE e)) (by simp [hdX]; omega) (by simp [hdX]) hkx
  have h56 := s56 n (by omega) (by omega)
  have hl1 := encB_length (hdX n (bodyE e))
  have hrl := recsE_length e
  have h109 : ∀ c t, callT AA 109 [.view 2 ((recsE e).map Rcd.av) c t] [] = some (.tuple [.own 0 1 0 body.length false, .lit .nilIface], [(0, .row (body.map .byte) 1)]) := by
   intro c t
   have hrb := rcd_recsE hb
   cases hr : recsE e with
   | nil => exact (h0 hr).elim
   | cons r rs =>
    rw [hr] at hrb hrl hbd
    have := s109 c t r rs (by omega) hrb
    rw [hbd] at this
    exact this
  have hpb := s110o body body.length rfl (by omega)
  have hpbl := padL_length body
  have hpbn := padN_lt body.length
  have e1 : pieceL n e = encB (hdX n (bodyE e)) ++ padL body ++ encB (hdrE e (recsE e)) ++ padL e.data.l := by
   unfold pieceL preE
   rw [if_neg h0, hbe]
  rw [e1]
  simp only [List.length_append, hl0, hl1, List.map_append]
  have h111 := s111 e false true (recsE e) (by omega)
  rw [show recV (recsE e) = .own 0 2 0 (recsE e).length false by simp [recV, h0], show recH (recsE e) = [(0, .row ((recsE e).map Rcd.av) 2)] by simp [recH, h0]] at h21
  refine enter fn66 np66 rfl ?_
  generalize hH : hdrE e (recsE e) = H at *
  generalize hB : encB H = B at *
  rw [hbe] at h70x hl1 ⊢
  generalize hC : encB (hdX n body) = C at *
  replace h70x : callT AA 70 [.agg [.str (112 :: 97 :: 120 :: 47 :: Lib.itoa n), .int .i64 0, .int .i64 0, .int .i64 0, .int .i64 body.length, .int .i64 0, .int .u8 120, .str []]] [] = some (.tuple [.own 0 1 0 512 false, .lit .nilIface], [(0, .row (C.map .byte) 1)]) := h70x
  have hx2 : (B.map AVal.byte).take 512 = B.map AVal.byte := List.take_of_length_le (by simp; omega)
  have hx3 : (C.map AVal.byte).take 512 = C.map AVal.byte := List.take_of_length_le (by simp; omega)
  have hx4 : (C.map AVal.byte).isEmpty = false := by
   cases C with
   | nil => simp at hl1
   | cons x y => rfl
  have hrp : 0 < (recsE e).length := by
   cases hq : recsE e with
   | nil => exact (h0 hq).elim
   | cons a b => simp
  simp only [Hd.av] at h111 h70
  by_cases hpb0 : padN body.length = 0
  ·have e8 : padL body = body := by simp [padL, hpb0]
   have ht1 : List.take (512 + body.length) (C.map AVal.byte ++ body.map AVal.byte) = C.map AVal.byte ++ body.map AVal.byte := List.take_of_length_le (by simp [hl1])
   have ht2 : List.take (512 + body.length + 512) (C.map AVal.byte ++ body.map AVal.byte ++ B.map AVal.byte) = C.map AVal.byte ++ body.map AVal.byte ++ B.map AVal.byte := List.take_of_length_le (by simp [hl0, hl1]; omega)
   simp only [padOV, padOH, hpb0, if_true] at hpb
   cases hdt : e.data with
   | nil =>
    simp only [hdt, BS.l, av_nil] at h110
    have e5 : padN 0 = 0 := rfl
    simp only [padV, padH, BS.l, List.length_nil, e5, if_true, BS.clipped, av_nil] at h110
    have e6 : padL ([] : List UInt8) = [] := rfl
    simp only [BS.l, e6, List.length_nil, List.map_nil]
    simp only [Ent.av, hdt, av_nil] at h21 h111
    have gg:=trivial;repeat' first|simp (maxSteps:=2000000) (disch:=omega) only [gg,b66,h21,h111,h70,h110,h109,h70x,h56,hpb,hdt,hx2,hx3,hx4,hl0,hl1,Nat.min_self,mk_av,ht1,ht2,e8,go_sem]|(refine br ?_ ?_<;>intro gg<;>try omega)|(apply And.intro;focus omega)|omega
   | mk c t l =>
    simp only [hdt, BS.l, mk_av] at h110 hpl hpn hd
    simp only [Ent.av, hdt, mk_av] at h21 h111
    simp only [padV, padH, BS.l, BS.clipped, mk_av] at h110
    simp only [BS.l]
    by_cases hp : padN l.length = 0
    ·simp only [hp, if_true] at h110
     have e7 : padL l = l := by simp [padL, hp]
     rw [e7]
     have gg:=trivial;repeat' first|simp (maxSteps:=2000000) (disch:=omega) only [gg,b66,h21,h111,h70,h110,h109,h70x,h56,hpb,hdt,hx2,hx3,hx4,hl0,hl1,Nat.min_self,mk_av,ht1,ht2,e8,go_sem]|(refine br ?_ ?_<;>intro gg<;>try omega)|(apply And.intro;focus omega)|omega
    ·simp only [hp, if_false] at h110
     have gg:=trivial;repeat' first|simp (maxSteps:=2000000) (disch:=omega) only [gg,b66,h21,h111,h70,h110,h109,h70x,h56,hpb,hdt,hx2,hx3,hx4,hl0,hl1,Nat.min_self,mk_av,ht1,ht2,e8,go_sem]|(refine br ?_ ?_<;>intro gg<;>try omega)|(apply And.intro;focus omega)|omega
  ·have ht1 : List.take (512 + (padL body).length) (C.map AVal.byte ++ (padL body).map AVal.byte) = C.map AVal.byte ++ (padL body).map AVal.byte := List.take_of_length_le (by simp [hl1])
   have ht2 : List.take (512 + (padL body).length + 512) (C.map AVal.byte ++ (padL body).map AVal.byte ++ B.map AVal.byte) = C.map AVal.byte ++ (padL body).map AVal.byte ++ B.map AVal.byte := List.take_of_length_le (by simp [hl0, hl1]; omega)
   simp only [padOV, padOH, hpb0, if_false] at hpb
   cases hdt : e.data with
   | nil =>
    simp only [hdt, BS.l, av_nil] at h110
    have e5 : padN 0 = 0 := rfl
    simp only [padV, padH, BS.l, List.length_nil, e5, if_true, BS.clipped, av_nil] at h110
    have e6 : padL ([] : List UInt8) = [] := rfl
    simp only [BS.l, e6, List.length_nil, List.map_nil]
    simp only [Ent.av, hdt, av_nil] at h21 h111
    have gg:=trivial;repeat' first|simp (maxSteps:=2000000) (disch:=omega) only [gg,b66,h21,h111,h70,h110,h109,h70x,h56,hpb,hdt,hx2,hx3,hx4,hl0,hl1,Nat.min_self,mk_av,ht1,ht2,go_sem]|(refine br ?_ ?_<;>intro gg<;>try omega)|(apply And.intro;focus omega)|omega
   | mk c t l =>
    simp only [hdt, BS.l, mk_av] at h110 hpl hpn hd
    simp only [Ent.av, hdt, mk_av] at h21 h111
    simp only [padV, padH, BS.l, BS.clipped, mk_av] at h110
    simp only [BS.l]
    by_cases hp : padN l.length = 0
    ·simp only [hp, if_true] at h110
     have e7 : padL l = l := by simp [padL, hp]
     rw [e7]
     have gg:=trivial;repeat' first|simp (maxSteps:=2000000) (disch:=omega) only [gg,b66,h21,h111,h70,h110,h109,h70x,h56,hpb,hdt,hx2,hx3,hx4,hl0,hl1,Nat.min_self,mk_av,ht1,ht2,go_sem]|(refine br ?_ ?_<;>intro gg<;>try omega)|(apply And.intro;focus omega)|omega
    ·simp only [hp, if_false] at h110
     have gg:=trivial;repeat' first|simp (maxSteps:=2000000) (disch:=omega) only [gg,b66,h21,h111,h70,h110,h109,h70x,h56,hpb,hdt,hx2,hx3,hx4,hl0,hl1,Nat.min_self,mk_av,ht1,ht2,go_sem]|(refine br ?_ ?_<;>intro gg<;>try omega)|(apply And.intro;focus omega)|omega
end Go.Abs
namespace Go.Abs
def l29_0 : ACode := (.seq (rg [oo 36 (.bin .lss .other false (.t 35) (.t 34))]) (.seq (.cond (.t 36) .skip (.exit 0)) (.seq (.block 1 (.seq (rg [mv 37 35, oo 38 (.ixa 8 (.t 33) (.t 35)), oo 39 (.ld 8 true (.t 38)), oo 11 (.alloc [(.str []), (.int .i64 0), (.int .i64 0), (.int .i64 0), (.int .i64 0), (.int .i64 0), (.str []), (.lit (.slice none 0 0))]), mv 10 37, ⟨none, (.st 8 (.t 11) (.t 39)), none⟩]) (.seq (.reg true [(3, 5), (0, 7), (1, 7), (2, 7), (3, 7), (4, 7), (5, 7), (6, 7)] [mv 41 0, oo 42 (.nilck (.t 41)), oo 43 (.fa 0 (.t 42)), oo 44 (.ld 1 false (.t 43)), oo 45 (.len 1 (.t 44)), mv 46 10, oo 47 (.bin .add .other false (.t 45) (.t 46)), oo 48 (.ld 8 true (.t 11)), cl 49 66 [(.t 47), (.t 48)], mv 40 49, oo 50 (.ext (.t 40) 0), oo 51 (.ext (.t 40) 1), mv 12 50, mv 13 51]) (.seq (.seq (rg [mv 52 13, oo 53 (.bin .neq (.iface [58]) true (.t 52) (.c (.lit .nilIface)))]) (.cond (.t 53) (.seq (rg [mv 54 13, oo 4 (.mov (.c (.lit (.slice none 0 0)))), mv 5 54]) .ret) .skip)) (rg [mv 55 9, mv 56 12, oo 57 (.app 1 1 (.t 55) (.t 56)), mv 9 57]))))) (rg [oo 58 (.bin .add .other true (.t 35) (ci 1)), mv 35 58]))))
def r29_0 : ACode := (.seq (rg [mv 59 0, mv 60 6, oo 61 (.nilck (.t 59)), oo 62 (.fa 0 (.t 61)), ⟨none, (.st 1 (.t 62) (.t 60)), none⟩]) (.seq (rg [mv 63 9, mv 4 63, oo 5 (.mov (.c (.lit .nilIface)))]) .ret))
def b29 : AFn := ⟨2, 64, [(4, none), (5, none)], (.seq (rg [oo 4 (.mov (.c (.lit (.slice none 0 0)))), oo 5 (.mov (.c (.lit .nilIface)))]) (.seq (.seq (rg [mv 14 0, oo 15 (.bin .eql .ptr true (.t 14) (.c (.lit (.pointer none))))]) (.cond (.t 15) (.seq (rg [oo 16 (.mkif 58 (ci 16)), oo 4 (.mov (.c (.lit (.slice none 0 0)))), mv 5 16]) .ret) .skip)) (.seq (rg [mv 17 0, oo 18 (.nilck (.t 17)), oo 19 (.fa 0 (.t 18)), oo 20 (.ld 1 false (.t 19)), cl 21 64 [(.t 20)], mv 22 1, cl 23 65 [(.t 22)], oo 24 (.app 96 8 (.t 21) (.t 23)), mv 6 24]) (.seq (.seq (rg [mv 26 6, cl 27 31 [(.t 26)], mv 25 27, oo 28 (.ext (.t 25) 0), oo 29 (.ext (.t 25) 1), mv 7 28, mv 8 29]) (.seq (rg [mv 30 8, oo 31 (.bin .neq (.iface [58]) true (.t 30) (.c (.lit .nilIface)))]) (.cond (.t 31) (.seq (rg [mv 32 8, oo 4 (.mov (.c (.lit (.slice none 0 0)))), mv 5 32]) .ret) .skip))) (.seq (rg [oo 9 (.mov (.c (.lit (.slice none 0 0))))]) (.seq (.seq (rg [mv 33 1, oo 34 (.len 1 (.t 33)), oo 35 (.mov (ci 0))]) (.block 0 (.loop [0, 4, 5, 6, 9, 33, 34, 35] l29_0))) r29_0))))))⟩
theorem fn29 : AA.fn 29 = some b29 := by kernel_rfl
theorem np29 : AA.prim 29 = none := rfl
def b32 : AFn := ⟨1, 9, [(2, none)], (.seq (rg [oo 2 (.mov (.c (.lit (.slice none 0 0))))]) (.seq (.seq (rg [mv 3 0, oo 4 (.bin .eql .ptr true (.t 3) (.c (.lit (.pointer none))))]) (.cond (.t 4) (.seq (rg [oo 2 (.mov (.c (.lit (.slice none 0 0))))]) .ret) .skip)) (.seq (rg [mv 5 0, oo 6 (.nilck (.t 5)), oo 7 (.fa 0 (.t 6)), ⟨none, (.st 1 (.t 7) (.c (.lit (.slice none 0 0)))), none⟩]) (.seq (rg [oo 8 (.mksl 1 1 [(.int .u8 0)] (ci 1024) (ci 1024)), mv 2 8]) .ret))))⟩
theorem fn32 : AA.fn 32 = some b32 := by kernel_rfl
theorem np32 : AA.prim 32 = none := rfl
def b17 : AFn := ⟨1, 21, [(2, none), (3, none)], (.seq (rg [oo 2 (.mov (.c (.lit (.slice none 0 0)))), oo 3 (.mov (.c (.lit .nilIface)))]) (.seq (rg [cl 7 28 [], mv 4 7]) (.seq (rg [mv 9 4, mv 10 0, cl 11 29 [(.t 9), (.t 10)], mv 8 11, oo 12 (.ext (.t 8) 0), oo 13 (.ext (.t 8) 1), mv 5 12, mv 6 13]) (.seq (.seq (rg [mv 14 6, oo 15 (.bin .neq (.iface [58]) true (.t 14) (.c (.lit .nilIface)))]) (.cond (.t 15) (.seq (rg [mv 16 6, oo 2 (.mov (.c (.lit (.slice none 0 0)))), mv 3 16]) .ret) .skip)) (.seq (rg [mv 17 5, mv 18 4, cl 19 32 [(.t 18)], oo 20 (.app 1 1 (.t 17) (.t 19)), mv 2 20, oo 3 (.mov (.c (.lit .nilIface)))]) .ret)))))⟩
theorem fn17 : AA.fn 17 = some b17 := by kernel_rfl
theorem np17 : AA.prim 17 = none := rfl
def b62 : AFn := ⟨2, 10, [(4, none)], (.seq (rg [oo 4 (.mov (.c (.bool false)))]) (.seq (rg [mv 5 0, oo 6 (.cvbs (.t 5)), mv 7 1, oo 8 (.cvbs (.t 7)), oo 9 (.bin .eql .other false (.t 6) (.t 8)), mv 4 9]) .ret))⟩
theorem fn62 : AA.fn 62 = some b62 := by kernel_rfl
theorem np62 : AA.prim 62 = none := rfl
def b193 : AFn := ⟨2, 8, [(4, none)], (.seq (rg [oo 4 (.mov (ci 0))]) (.seq (rg [mv 5 0, mv 6 1, cl 7 228 [(.t 5), (.t 6)], mv 4 7]) .ret))⟩
theorem fn193 : AA.fn 193 = some b193 := by kernel_rfl
theorem np193 : AA.prim 193 = none := rfl
def l152_0 : ACode := (.seq (.seq (rg [mv 136 15, mv 137 17, oo 138 (.bin .lss .other false (.t 136) (.t 137))]) (.cond (.t 138) .skip (.exit 3))) (.block 4 (.seq (.seq (rg [mv 139 0, mv 140 15, oo 141 (.ixa 1 (.t 139) (.t 140)), oo 142 (.ld 1 false (.t 141)), mv 143 13, oo 144 (.bin .neq .other false (.t 142) (.t 143))]) (.cond (.t 144) (.seq (rg [mv 145 0, mv 146 15, oo 147 (.bin .add .other true (.t 146) (ci 1)), mv 148 17, oo 149 (.slc 1 (.t 145) (some (.t 147)) (some (.t 148)) none), mv 150 13, cl 151 193 [(.t 149), (.t 150)], mv 18 151]) (.seq (.seq (rg [mv 152 18, oo 153 (.bin .lss .other true (.t 152) (ci 0))]) (.cond (.t 153) (.exit 3) .skip)) (rg [mv 154 15, mv 155 18, oo 156 (.bin .add .other true (.t 155) (ci 1)), oo 157 (.bin .add .other false (.t 154) (.t 156)), mv 15 157]))) .skip)) (.seq (.seq (rg [mv 158 0, mv 159 15, oo 160 (.bin .add .other true (.t 159) (ci 1)), oo 161 (.ixa 1 (.t 158) (.t 160)), oo 162 (.ld 1 false (.t 161)), mv 163 14, oo 164 (.bin .eql .other false (.t 162) (.t 163)), mv 165 164, og 166 (.mov (.t 0)) 165 true, og 167 (.mov (.t 15)) 165 true, og 168 (.mov (.t 15)) 165 true, og 169 (.mov (.t 5)) 165 true, og 170 (.bin .add .other false (.t 168) (.t 169)) 165 true, og 171 (.slc 1 (.t 166) (some (.t 167)) (some (.t 170)) none) 165 true, og 172 (.mov (.t 1)) 165 true, og 173 (.call (.c (.func (.func 62) [])) [(.t 171), (.t 172)]) 165 true, oo 174 (.pick (.t 165) (.t 173) (.c (.bool false)))]) (.cond (.t 174) (.seq (rg [mv 175 15, mv 4 175]) .ret) .skip)) (.seq (rg [mv 176 15, oo 177 (.bin .add .other true (.t 176) (ci 1)), mv 15 177]) (.seq (rg [mv 178 16, oo 179 (.bin .add .other true (.t 178) (ci 1)), mv 16 179]) (.seq (rg [mv 180 16, mv 181 15, oo 182 (.bin .shr .other true (.t 181) (.c (.int .u64 4))), oo 183 (.bin .add .other true (ci 4) (.t 182)), oo 184 (.bin .geq .other false (.t 180) (.t 183)), mv 185 184, og 186 (.mov (.t 15)) 185 true, og 187 (.mov (.t 17)) 185 true, og 188 (.bin .lss .other false (.t 186) (.t 187)) 185 true, oo 189 (.pick (.t 185) (.t 188) (.c (.bool false)))]) (.cond (.t 189) (.seq (rg [mv 190 0, mv 191 15, oo 192 (.slc 1 (.t 190) (some (.t 191)) none none), mv 193 1, cl 194 196 [(.t 192), (.t 193)], mv 19 194]) (.seq (.seq (rg [mv 195 19, oo 196 (.bin .lss .other true (.t 195) (ci 0))]) (.cond (.t 196) (.seq (rg [oo 4 (.mov (.c (.int .i64 (-1))))]) .ret) .skip)) (.seq (rg [mv 197 15, mv 198 19, oo 199 (.bin .add .other false (.t 197) (.t 198)), mv 4 199]) .ret))) .skip))))))))
def l152_1 : ACode := (.seq (.seq (rg [mv 67 8, mv 68 9, oo 69 (.bin .lss .other false (.t 67) (.t 68))]) (.cond (.t 69) .skip (.exit 1))) (.block 2 (.seq (.seq (rg [mv 70 0, mv 71 8, oo 72 (.ixa 1 (.t 70) (.t 71)), oo 73 (.ld 1 false (.t 72)), mv 74 6, oo 75 (.bin .neq .other false (.t 73) (.t 74))]) (.cond (.t 75) (.seq (rg [mv 76 0, mv 77 8, oo 78 (.bin .add .other true (.t 77) (ci 1)), mv 79 9, oo 80 (.slc 1 (.t 76) (some (.t 78)) (some (.t 79)) none), mv 81 6, cl 82 193 [(.t 80), (.t 81)], mv 11 82]) (.seq (.seq (rg [mv 83 11, oo 84 (.bin .lss .other true (.t 83) (ci 0))]) (.cond (.t 84) (.seq (rg [oo 4 (.mov (.c (.int .i64 (-1))))]) .ret) .skip)) (rg [mv 85 8, mv 86 11, oo 87 (.bin .add .other true (.t 86) (ci 1)), oo 88 (.bin .add .other false (.t 85) (.t 87)), mv 8 88]))) .skip)) (.seq (.seq (rg [mv 89 0, mv 90 8, oo 91 (.bin .add .other true (.t 90) (ci 1)), oo 92 (.ixa 1 (.t 89) (.t 91)), oo 93 (.ld 1 false (.t 92)), mv 94 7, oo 95 (.bin .eql .other false (.t 93) (.t 94)), mv 96 95, og 97 (.mov (.t 0)) 96 true, og 98 (.mov (.t 8)) 96 true, og 99 (.mov (.t 8)) 96 true, og 100 (.mov (.t 5)) 96 true, og 101 (.bin .add .other false (.t 99) (.t 100)) 96 true, og 102 (.slc 1 (.t 97) (some (.t 98)) (some (.t 101)) none) 96 true, og 103 (.mov (.t 1)) 96 true, og 104 (.call (.c (.func (.func 62) [])) [(.t 102), (.t 103)]) 96 true, oo 105 (.pick (.t 96) (.t 104) (.c (.bool false)))]) (.cond (.t 105) (.seq (rg [mv 106 8, mv 4 106]) .ret) .skip)) (.seq (rg [mv 107 10, oo 108 (.bin .add .other true (.t 107) (ci 1)), mv 10 108]) (.seq (rg [mv 109 8, oo 110 (.bin .add .other true (.t 109) (ci 1)), mv 8 110]) (.seq (rg [mv 111 10, mv 112 8, cl 113 195 [(.t 112)], oo 114 (.bin .gtr .other false (.t 111) (.t 113))]) (.cond (.t 114) (.seq (rg [mv 115 0, mv 116 8, oo 117 (.slc 1 (.t 115) (some (.t 116)) none none), mv 118 1, cl 119 194 [(.t 117), (.t 118)], mv 12 119]) (.seq (.seq (rg [mv 120 12, oo 121 (.bin .geq .other true (.t 120) (ci 0))]) (.cond (.t 121) (.seq (rg [mv 122 12, mv 123 8, oo 124 (.bin .add .other false (.t 122) (.t 123)), mv 4 124]) .ret) .skip)) (.seq (rg [oo 4 (.mov (.c (.int .i64 (-1))))]) .ret))) .skip))))))))
def r152_0 : ACode := (.seq (rg [oo 4 (.mov (.c (.int .i64 (-1))))]) .ret)
def r152_1 : ACode := (.seq (rg [oo 4 (.mov (.c (.int .i64 (-1))))]) .ret)
def r152_2 : ACode := (.seq (rg [mv 125 1, oo 126 (.ixa 1 (.t 125) (ci 0)), oo 127 (.ld 1 false (.t 126)), mv 13 127]) (.seq (rg [mv 128 1, oo 129 (.ixa 1 (.t 128) (ci 1)), oo 130 (.ld 1 false (.t 129)), mv 14 130]) (.seq (rg [oo 15 (.mov (ci 0))]) (.seq (rg [oo 16 (.mov (ci 0))]) (.seq (rg [mv 131 0, oo 132 (.len 1 (.t 131)), mv 133 5, oo 134 (.bin .sub .other false (.t 132) (.t 133)), oo 135 (.bin .add .other true (.t 134) (ci 1)), mv 17 135]) (.seq (.block 3 (.loop [0, 1, 4, 5, 13, 14, 15, 16, 17] l152_0)) r152_0))))))
def b152 : AFn := ⟨2, 200, [(4, none)], (.seq (rg [oo 4 (.mov (ci 0))]) (.seq (rg [mv 20 1, oo 21 (.len 1 (.t 20)), mv 5 21]) (.seq (.block 0 (.seq (rg [mv 23 5, oo 24 (.bin .eql .other true (.t 23) (ci 0)), mv 22 24]) (.cond (.t 22) (.seq (rg [oo 4 (.mov (ci 0))]) .ret) (.seq (rg [mv 26 5, oo 27 (.bin .eql .other true (.t 26) (ci 1)), mv 25 27]) (.cond (.t 25) (.seq (rg [mv 28 0, mv 29 1, oo 30 (.ixa 1 (.t 29) (ci 0)), oo 31 (.ld 1 false (.t 30)), cl 32 193 [(.t 28), (.t 31)], mv 4 32]) .ret) (.seq (rg [mv 34 5, mv 35 0, oo 36 (.len 1 (.t 35)), oo 37 (.bin .eql .other false (.t 34) (.t 36)), mv 33 37]) (.cond (.t 33) (.seq (.seq (rg [mv 38 1, mv 39 0, cl 40 62 [(.t 38), (.t 39)]]) (.cond (.t 40) (.seq (rg [oo 4 (.mov (ci 0))]) .ret) .skip)) (.seq (rg [oo 4 (.mov (.c (.int .i64 (-1))))]) .ret)) (.seq (rg [mv 42 5, mv 43 0, oo 44 (.len 1 (.t 43)), oo 45 (.bin .gtr .other false (.t 42) (.t 44)), mv 41 45]) (.cond (.t 41) (.seq (rg [oo 4 (.mov (.c (.int .i64 (-1))))]) .ret) (.seq (rg [mv 47 5, ⟨(some 48), .bad, none⟩, oo 49 (.bin .leq .other false (.t 47) (.t 48)), mv 46 49]) (.cond (.t 46) (.seq (.seq (rg [mv 50 0, oo 51 (.len 1 (.t 50)), oo 52 (.bin .leq .other true (.t 51) (ci 64))]) (.cond (.t 52) (.seq (rg [mv 53 0, mv 54 1, cl 55 194 [(.t 53), (.t 54)], mv 4 55]) .ret) .skip)) (.seq (rg [mv 56 1, oo 57 (.ixa 1 (.t 56) (ci 0)), oo 58 (.ld 1 false (.t 57)), mv 6 58]) (.seq (rg [mv 59 1, oo 60 (.ixa 1 (.t 59) (ci 1)), oo 61 (.ld 1 false (.t 60)), mv 7 61]) (.seq (rg [oo 8 (.mov (ci 0))]) (.seq (rg [mv 62 0, oo 63 (.len 1 (.t 62)), mv 64 5, oo 65 (.bin .sub .other false (.t 63) (.t 64)), oo 66 (.bin .add .other true (.t 65) (ci 1)), mv 9 66]) (.seq (rg [oo 10 (.mov (ci 0))]) (.seq (.block 1 (.loop [0, 1, 4, 5, 6, 7, 8, 9, 10] l152_1)) r152_1))))))) .skip))))))))))) r152_2)))⟩
theorem fn152 : AA.fn 152 = some b152 := by kernel_rfl
theorem np152 : AA.prim 152 = none := rfl
def b114 : AFn := ⟨2, 23, [(4, none), (5, none), (6, none)], (.seq (rg [oo 4 (.mov (.c (.lit (.slice none 0 0)))), oo 5 (.mov (.c (.lit (.slice none 0 0)))), oo 6 (.mov (.c (.bool false)))]) (.seq (.seq (rg [mv 8 0, mv 9 1, cl 10 152 [(.t 8), (.t 9)], mv 7 10]) (.seq (rg [mv 11 7, oo 12 (.bin .geq .other true (.t 11) (ci 0))]) (.cond (.t 12) (.seq (.reg true [] [mv 13 0, mv 14 7, oo 15 (.slc 1 (.t 13) none (some (.t 14)) none), mv 16 0, mv 17 7, mv 18 1, oo 19 (.len 1 (.t 18)), oo 20 (.bin .add .other false (.t 17) (.t 19)), oo 21 (.slc 1 (.t 16) (some (.t 20)) none none), mv 4 15, mv 5 21, oo 6 (.mov (.c (.bool true)))]) .ret) .skip))) (.seq (rg [mv 22 0, mv 4 22, oo 5 (.mov (.c (.lit (.slice none 0 0)))), oo 6 (.mov (.c (.bool false)))]) .ret)))⟩
theorem fn114 : AA.fn 114 = some b114 := by kernel_rfl
theorem np114 : AA.prim 114 = none := rfl
def b203 : AFn := ⟨2, 21, [(4, none)], (.seq (rg [oo 4 (.mov (.c (.bool false)))]) (.seq (rg [mv 5 0, oo 6 (.len 0 (.t 5)), mv 7 1, oo 8 (.len 0 (.t 7)), oo 9 (.bin .geq .other false (.t 6) (.t 8)), mv 10 9, og 11 (.mov (.t 0)) 10 true, og 12 (.mov (.t 0)) 10 true, og 13 (.len 0 (.t 12)) 10 true, og 14 (.mov (.t 1)) 10 true, og 15 (.len 0 (.t 14)) 10 true, og 16 (.bin .sub .other false (.t 13) (.t 15)) 10 true, og 17 (.slct (.t 11) (some (.t 16)) none) 10 true, og 18 (.mov (.t 1)) 10 true, og 19 (.bin .eql .other false (.t 17) (.t 18)) 10 true, oo 20 (.pick (.t 10) (.t 19) (.c (.bool false))), mv 4 20]) .ret))⟩
theorem fn203 : AA.fn 203 = some b203 := by kernel_rfl
theorem np203 : AA.prim 203 = none := rfl
def b156 : AFn := ⟨2, 18, [(4, none), (5, none)], (.seq (rg [oo 4 (.mov (.c (.str []))), oo 5 (.mov (.c (.bool false)))]) (.seq (.seq (rg [mv 6 0, mv 7 1, cl 8 203 [(.t 6), (.t 7)], oo 9 (.un .not (.t 8))]) (.cond (.t 9) (.seq (rg [mv 10 0, mv 4 10, oo 5 (.mov (.c (.bool false)))]) .ret) .skip)) (.seq (rg [mv 11 0, mv 12 0, oo 13 (.len 0 (.t 12)), mv 14 1, oo 15 (.len 0 (.t 14)), oo 16 (.bin .sub .other false (.t 13) (.t 15)), oo 17 (.slct (.t 11) none (some (.t 16))), mv 4 17, oo 5 (.mov (.c (.bool true)))]) .ret)))⟩
theorem fn156 : AA.fn 156 = some b156 := by kernel_rfl
theorem np156 : AA.prim 156 = none := rfl
def b120 : AFn := ⟨2, 11, [(4, none), (5, none)], (.seq (rg [oo 4 (.mov (.c (.str []))), oo 5 (.mov (.c (.bool false)))]) (.seq (rg [mv 6 0, mv 7 1, cl 8 156 [(.t 6), (.t 7)], oo 9 (.ext (.t 8) 0), oo 10 (.ext (.t 8) 1), mv 4 9, mv 5 10]) .ret))⟩
theorem fn120 : AA.fn 120 = some b120 := by kernel_rfl
theorem np120 : AA.prim 120 = none := rfl
def b71 : AFn := ⟨1, 94, [(2, (some (2, true))), (3, none)], (.seq (rg [oo 2 (.alloc [(.str []), (.str [])]), oo 3 (.mov (ci 0))]) (.seq (rg [mv 15 0, oo 16 (.bslice 1 1 [(.int .u8 0)] [(.c (.int .u8 32))]), oo 17 (.cvb (.t 16)), cl 18 114 [(.t 15), (.t 17)], mv 14 18, oo 19 (.ext (.t 14) 0), oo 20 (.ext (.t 14) 1), oo 21 (.ext (.t 14) 2), mv 4 19, mv 5 20, mv 6 21]) (.seq (rg [mv 23 4, oo 24 (.cvbs (.t 23)), cl 25 118 [(.t 24)], mv 22 25, oo 26 (.ext (.t 22) 0), oo 27 (.ext (.t 22) 1), mv 7 26, mv 8 27]) (.seq (.seq (rg [mv 28 6, oo 29 (.un .not (.t 28)), mv 30 29, og 31 (.mov (.t 8)) 30 false, og 32 (.bin .neq (.iface [58]) true (.t 31) (.c (.lit .nilIface))) 30 false, oo 33 (.pick (.t 30) (.c (.bool true)) (.t 32)), mv 34 33, og 35 (.mov (.t 7)) 34 false, og 36 (.mov (.t 0)) 34 false, og 37 (.len 1 (.t 36)) 34 false, og 38 (.bin .gtr .other false (.t 35) (.t 37)) 34 false, oo 39 (.pick (.t 34) (.c (.bool true)) (.t 38)), mv 40 39, og 41 (.mov (.t 7)) 40 false, og 42 (.mov (.t 4)) 40 false, og 43 (.len 1 (.t 42)) 40 false, og 44 (.bin .add .other true (.t 43) (ci 1)) 40 false, og 45 (.bin .lss .other false (.t 41) (.t 44)) 40 false, oo 46 (.pick (.t 40) (.c (.bool true)) (.t 45))]) (.cond (.t 46) (.seq (rg [oo 47 (.build [(.str []), (.str [])] []), ⟨none, (.st 2 (.t 2) (.t 47)), none⟩, oo 3 (.mov (ci 0))]) .ret) .skip)) (.seq (rg [mv 49 0, mv 50 4, oo 51 (.len 1 (.t 50)), oo 52 (.bin .add .other true (.t 51) (ci 1)), mv 53 7, oo 54 (.slc 1 (.t 49) (some (.t 52)) (some (.t 53)) none), oo 55 (.cvbs (.t 54)), oo 56 (.call (.c (.func (.func 119) [])) [(.t 55), (.c (.str [61]))]), mv 48 56, oo 57 (.ext (.t 48) 0), oo 58 (.ext (.t 48) 1), oo 59 (.ext (.t 48) 2), mv 9 57, mv 10 58, mv 6 59]) (.seq (rg [mv 61 10, oo 62 (.call (.c (.func (.func 120) [])) [(.t 61), (.c (.str [10]))]), mv 60 62, oo 63 (.ext (.t 60) 0), oo 64 (.ext (.t 60) 1), mv 10 63, mv 11 64]) (.seq (.seq (rg [mv 65 6, oo 66 (.un .not (.t 65)), mv 67 66, og 68 (.mov (.t 11)) 67 false, og 69 (.un .not (.t 68)) 67 false, oo 70 (.pick (.t 67) (.c (.bool true)) (.t 69))]) (.cond (.t 70) (.seq (rg [oo 71 (.build [(.str []), (.str [])] []), ⟨none, (.st 2 (.t 2) (.t 71)), none⟩, oo 3 (.mov (ci 0))]) .ret) .skip)) (.seq (rg [mv 72 9, mv 73 10, oo 74 (.build [(.str []), (.str [])] [(0, (1, (.t 72))), (1, (1, (.t 73)))]), oo 12 (.alloc [(.str []), (.str [])]), ⟨none, (.st 2 (.t 12) (.t 74)), none⟩]) (.seq (rg [mv 76 9, mv 77 10, cl 78 121 [(.t 76), (.t 77)], mv 75 78, oo 79 (.ext (.t 75) 0), oo 80 (.ext (.t 75) 1), mv 13 79, mv 8 80]) (.seq (.seq (rg [mv 81 8, oo 82 (.bin .neq (.iface [58]) true (.t 81) (.c (.lit .nilIface))), mv 83 82, og 84 (.mov (.t 13)) 83 false, og 85 (.mov (.t 0)) 83 false, og 86 (.mov (.t 7)) 83 false, og 87 (.slc 1 (.t 85) none (some (.t 86)) none) 83 false, og 88 (.cvbs (.t 87)) 83 false, og 89 (.bin .neq .other false (.t 84) (.t 88)) 83 false, oo 90 (.pick (.t 83) (.c (.bool true)) (.t 89))]) (.cond (.t 90) (.seq (rg [oo 91 (.build [(.str []), (.str [])] []), ⟨none, (.st 2 (.t 2) (.t 91)), none⟩, oo 3 (.mov (ci 0))]) .ret) .skip)) (.seq (rg [oo 92 (.ld 2 true (.t 12)), mv 93 7, ⟨none, (.st 2 (.t 2) (.t 92)), none⟩, mv 3 93]) .ret)))))))))))⟩
theorem fn71 : AA.fn 71 = some b71 := by kernel_rfl
theorem np71 : AA.prim 71 = none := rfl
def l35_0 : ACode := (.seq (.seq (rg [mv 11 0, oo 12 (.len 1 (.t 11)), oo 13 (.bin .gtr .other true (.t 12) (ci 0))]) (.cond (.t 13) .skip (.exit 0))) (.block 1 (.seq (rg [mv 15 0, cl 16 71 [(.t 15)], mv 14 16, oo 17 (.ext (.t 14) 0), oo 18 (.ext (.t 14) 1), oo 5 (.alloc [(.str []), (.str [])]), ⟨none, (.st 2 (.t 5) (.t 17)), none⟩, mv 6 18]) (.seq (.seq (.reg true [(13, 14), (7, 15), (8, 15), (9, 15), (10, 15), (11, 15), (12, 15), (13, 15)] [mv 19 6, oo 20 (.bin .eql .other true (.t 19) (ci 0)), mv 21 20, og 22 (.mov (.t 4)) 21 false, og 23 (.len 1 (.t 22)) 21 false, og 24 (.bin .gtr .other true (.t 23) (ci 0)) 21 false, og 25 (.mov (.t 24)) 21 false, og 26 (.mov (.t 4)) 25 true, og 27 (.mov (.t 4)) 25 true, og 28 (.len 1 (.t 27)) 25 true, og 29 (.bin .sub .other true (.t 28) (ci 1)) 25 true, og 30 (.ixa 2 (.t 26) (.t 29)) 25 true, og 31 (.fa 0 (.t 30)) 25 true, og 32 (.ld 1 false (.t 31)) 25 true, og 33 (.fa 0 (.t 5)) 25 true, og 34 (.ld 1 false (.t 33)) 25 true, og 35 (.bin .geq .other false (.t 32) (.t 34)) 25 true, og 36 (.pick (.t 25) (.t 35) (.c (.bool false))) 21 false, oo 37 (.pick (.t 21) (.c (.bool true)) (.t 36))]) (.cond (.t 37) (.seq (rg [oo 38 (.mkif 58 (ci 15)), oo 2 (.mov (.c (.lit (.slice none 0 0)))), mv 3 38]) .ret) .skip)) (.seq (rg [mv 39 4, oo 40 (.ld 2 true (.t 5)), oo 41 (.bslice 2 1 [(.str []), (.str [])] [(.t 40)]), oo 42 (.app 32 2 (.t 39) (.t 41)), mv 4 42]) (rg [mv 43 0, mv 44 6, oo 45 (.slc 1 (.t 43) (some (.t 44)) none none), mv 0 45]))))))
def r35_0 : ACode := (.seq (rg [mv 46 4, mv 2 46, oo 3 (.mov (.c (.lit .nilIface)))]) .ret)
def b35 : AFn := ⟨1, 47, [(2, none), (3, none)], (.seq (rg [oo 2 (.mov (.c (.lit (.slice none 0 0)))), oo 3 (.mov (.c (.lit .nilIface)))]) (.seq (.seq (rg [mv 7 0, oo 8 (.len 1 (.t 7)), oo 9 (.bin .gtr .other true (.t 8) (ci 65536))]) (.cond (.t 9) (.seq (rg [oo 10 (.mkif 58 (ci 15)), oo 2 (.mov (.c (.lit (.slice none 0 0)))), mv 3 10]) .ret) .skip)) (.seq (rg [oo 4 (.mov (.c (.lit (.slice none 0 0))))]) (.seq (.block 0 (.loop [0, 2, 3, 4] l35_0)) r35_0))))⟩
theorem fn35 : AA.fn 35 = some b35 := by kernel_rfl
theorem np35 : AA.prim 35 = none := rfl
def b68 : AFn := ⟨3, 24, [(6, none)], (.seq (rg [oo 6 (.mov (.c (.str [])))]) (.seq (rg [mv 11 0, mv 12 1, mv 13 1, mv 14 2, oo 15 (.bin .add .other false (.t 13) (.t 14)), oo 16 (.slc 1 (.t 11) (some (.t 12)) (some (.t 15)) none), oo 17 (.bslice 1 1 [(.int .u8 0)] [(.c (.int .u8 0))]), cl 18 114 [(.t 16), (.t 17)], mv 10 18, oo 19 (.ext (.t 10) 0), oo 20 (.ext (.t 10) 1), oo 21 (.ext (.t 10) 2), mv 7 19, mv 8 20, mv 9 21]) (.seq (rg [mv 22 7, oo 23 (.cvbs (.t 22)), mv 6 23]) .ret)))⟩
theorem fn68 : AA.fn 68 = some b68 := by kernel_rfl
theorem np68 : AA.prim 68 = none := rfl
def l69_0 : ACode := (.seq (rg [oo 18 (.bin .lss .other false (.t 17) (.t 16))]) (.seq (.cond (.t 18) .skip (.exit 0)) (.seq (.block 1 (.seq (rg [oo 19 (.ixa 1 (.t 15) (.t 17)), oo 20 (.ld 1 false (.t 19)), mv 9 20]) (rg [mv 21 7, oo 22 (.bin .shl .other true (.t 21) (.c (.int .u64 3))), mv 23 9, oo 24 (.bin .and .other true (.t 23) (.c (.int .u8 7))), oo 25 (.cvi .i64 (.t 24)), oo 26 (.bin .or .other false (.t 22) (.t 25)), mv 7 26]))) (rg [oo 27 (.bin .add .other true (.t 17) (ci 1)), mv 17 27]))))
def r69_0 : ACode := (.seq (rg [mv 28 7, mv 6 28]) .ret)
def b69 : AFn := ⟨3, 29, [(6, none)], (.seq (rg [oo 6 (.mov (ci 0))]) (.seq (rg [oo 7 (.mov (ci 0))]) (.seq (.seq (rg [mv 10 0, mv 11 1, mv 12 1, mv 13 2, oo 14 (.bin .add .other false (.t 12) (.t 13)), oo 15 (.slc 1 (.t 10) (some (.t 11)) (some (.t 14)) none), oo 16 (.len 1 (.t 15)), oo 17 (.mov (ci 0))]) (.block 0 (.loop [6, 7, 15, 16, 17] l69_0))) r69_0)))⟩
theorem fn69 : AA.fn 69 = some b69 := by kernel_rfl
theorem np69 : AA.prim 69 = none := rfl
def b34 : AFn := ⟨1, 59, [(2, (some (8, true))), (3, none)], (.seq (rg [oo 2 (.alloc [(.str []), (.int .i64 0), (.int .i64 0), (.int .i64 0), (.int .i64 0), (.int .i64 0), (.int .u8 0), (.str [])]), oo 3 (.mov (.c (.lit .nilIface)))]) (.seq (.seq (rg [mv 9 0, oo 10 (.len 1 (.t 9)), oo 11 (.bin .neq .other true (.t 10) (ci 512))]) (.cond (.t 11) (.seq (rg [oo 12 (.build [(.str []), (.int .i64 0), (.int .i64 0), (.int .i64 0), (.int .i64 0), (.int .i64 0), (.int .u8 0), (.str [])] []), oo 13 (.mkif 58 (ci 14)), ⟨none, (.st 8 (.t 2) (.t 12)), none⟩, mv 3 13]) .ret) .skip)) (.seq (rg [mv 14 0, mv 4 14]) (.seq (.reg true [(1, 2), (1, 4), (3, 4), (1, 6), (3, 6), (5, 6), (1, 8), (3, 8), (5, 8), (7, 8), (1, 10), (3, 10), (5, 10), (7, 10), (9, 10), (1, 12), (3, 12), (5, 12), (7, 12), (9, 12), (11, 12), (1, 13), (3, 13), (5, 13), (7, 13), (9, 13), (11, 13), (0, 14), (1, 14), (2, 14), (3, 14), (4, 14), (5, 14), (6, 14), (7, 14), (8, 14), (9, 14), (10, 14), (11, 14), (1, 15), (3, 15), (5, 15), (7, 15), (9, 15), (11, 15), (14, 15), (12, 16), (13, 16), (14, 16), (0, 18), (1, 18), (2, 18), (3, 18), (4, 18), (5, 18), (6, 18), (7, 18), (8, 18), (9, 18), (10, 18), (11, 18), (12, 18), (13, 18), (14, 18), (15, 18), (16, 18), (17, 18)] [mv 15 4, cl 16 68 [(.t 15), (ci 0), (ci 100)], mv 17 4, cl 18 69 [(.t 17), (ci 100), (ci 7)], mv 19 4, cl 20 69 [(.t 19), (ci 108), (ci 7)], mv 21 4, cl 22 69 [(.t 21), (ci 116), (ci 7)], mv 23 4, cl 24 69 [(.t 23), (ci 124), (ci 11)], mv 25 4, cl 26 69 [(.t 25), (ci 136), (ci 11)], mv 27 4, oo 28 (.ixa 1 (.t 27) (ci 156)), oo 29 (.ld 1 false (.t 28)), mv 30 4, cl 31 68 [(.t 30), (ci 157), (ci 100)], oo 32 (.build [(.str []), (.int .i64 0), (.int .i64 0), (.int .i64 0), (.int .i64 0), (.int .i64 0), (.int .u8 0), (.str [])] [(0, (1, (.t 16))), (1, (1, (.t 18))), (2, (1, (.t 20))), (3, (1, (.t 22))), (4, (1, (.t 24))), (5, (1, (.t 26))), (6, (1, (.t 29))), (7, (1, (.t 31)))]), oo 5 (.alloc [(.str []), (.int .i64 0), (.int .i64 0), (.int .i64 0), (.int .i64 0), (.int .i64 0), (.int .u8 0), (.str [])]), ⟨none, (.st 8 (.t 5) (.t 32)), none⟩]) (.seq (.seq (rg [mv 33 4, cl 34 68 [(.t 33), (ci 345), (ci 155)], mv 6 34]) (.seq (rg [mv 35 6, oo 36 (.bin .neq .other true (.t 35) (.c (.str [])))]) (.cond (.t 36) (rg [mv 37 6, oo 38 (.bin .add .other true (.t 37) (.c (.str [47]))), oo 39 (.fa 0 (.t 5)), oo 40 (.ld 1 false (.t 39)), oo 41 (.bin .add .other false (.t 38) (.t 40)), oo 42 (.fa 0 (.t 5)), ⟨none, (.st 1 (.t 42) (.t 41)), none⟩]) .skip))) (.seq (rg [oo 44 (.ld 8 true (.t 5)), cl 45 70 [(.t 44)], mv 43 45, oo 46 (.ext (.t 43) 0), oo 47 (.ext (.t 43) 1), mv 7 46, mv 8 47]) (.seq (.seq (rg [mv 48 8, oo 49 (.bin .neq (.iface [58]) true (.t 48) (.c (.lit .nilIface))), mv 50 49, og 51 (.mov (.t 7)) 50 false, og 52 (.mov (.t 0)) 50 false, og 53 (.call (.c (.func (.func 62) [])) [(.t 51), (.t 52)]) 50 false, og 54 (.un .not (.t 53)) 50 false, oo 55 (.pick (.t 50) (.c (.bool true)) (.t 54))]) (.cond (.t 55) (.seq (rg [oo 56 (.build [(.str []), (.int .i64 0), (.int .i64 0), (.int .i64 0), (.int .i64 0), (.int .i64 0), (.int .u8 0), (.str [])] []), oo 57 (.mkif 58 (ci 14)), ⟨none, (.st 8 (.t 2) (.t 56)), none⟩, mv 3 57]) .ret) .skip)) (.seq (rg [oo 58 (.ld 8 true (.t 5)), ⟨none, (.st 8 (.t 2) (.t 58)), none⟩, oo 3 (.mov (.c (.lit .nilIface)))]) .ret))))))))⟩
theorem fn34 : AA.fn 34 = some b34 := by kernel_rfl
theorem np34 : AA.prim 34 = none := rfl
def b143 : AFn := ⟨2, 40, [(4, none), (5, none)], (.seq (rg [oo 4 (.mov (.c (.lit (.slice none 0 0)))), oo 5 (.mov (.c (.bool false)))]) (.seq (rg [mv 8 1, oo 9 (.bin .add .other true (.t 8) (ci 512)), oo 10 (.bin .sub .other true (.t 9) (ci 1)), oo 11 (.bin .quo .other true (.t 10) (ci 512)), oo 12 (.bin .mul .other true (.t 11) (ci 512)), mv 6 12]) (.seq (.seq (rg [mv 13 1, oo 14 (.bin .lss .other true (.t 13) (ci 0)), mv 15 14, og 16 (.mov (.t 6)) 15 false, og 17 (.mov (.t 0)) 15 false, og 18 (.nilck (.t 17)) 15 false, og 19 (.fa 0 (.t 18)) 15 false, og 20 (.ld 1 false (.t 19)) 15 false, og 21 (.len 1 (.t 20)) 15 false, og 22 (.bin .gtr .other false (.t 16) (.t 21)) 15 false, oo 23 (.pick (.t 15) (.c (.bool true)) (.t 22))]) (.cond (.t 23) (.seq (rg [oo 4 (.mov (.c (.lit (.slice none 0 0)))), oo 5 (.mov (.c (.bool false)))]) .ret) .skip)) (.seq (rg [mv 24 0, oo 25 (.nilck (.t 24)), oo 26 (.fa 0 (.t 25)), oo 27 (.ld 1 false (.t 26)), mv 28 1, oo 29 (.slc 1 (.t 27) none (some (.t 28)) none), mv 7 29]) (.seq (rg [mv 30 0, mv 31 0, oo 32 (.nilck (.t 31)), oo 33 (.fa 0 (.t 32)), oo 34 (.ld 1 false (.t 33)), mv 35 6, oo 36 (.slc 1 (.t 34) (some (.t 35)) none none), oo 37 (.nilck (.t 30)), oo 38 (.fa 0 (.t 37)), ⟨none, (.st 1 (.t 38) (.t 36)), none⟩]) (.seq (rg [mv 39 7, mv 4 39, oo 5 (.mov (.c (.bool true)))]) .ret))))))⟩
theorem fn143 : AA.fn 143 = some b143 := by kernel_rfl
theorem np143 : AA.prim 143 = none := rfl
def b100 : AFn := ⟨1, 36, [(2, (some (8, true))), (3, none), (4, none)], (.seq (rg [oo 2 (.alloc [(.str []), (.int .i64 0), (.int .i64 0), (.int .i64 0), (.int .i64 0), (.int .i64 0), (.int .u8 0), (.str [])]), oo 3 (.mov (.c (.lit (.slice none 0 0)))), oo 4 (.mov (.c (.bool false)))]) (.seq (rg [mv 11 0, cl 12 143 [(.t 11), (ci 512)], mv 10 12, oo 13 (.ext (.t 10) 0), oo 14 (.ext (.t 10) 1), mv 5 13, mv 6 14]) (.seq (.seq (rg [mv 15 6, oo 16 (.un .not (.t 15))]) (.cond (.t 16) (.seq (rg [oo 17 (.build [(.str []), (.int .i64 0), (.int .i64 0), (.int .i64 0), (.int .i64 0), (.int .i64 0), (.int .u8 0), (.str [])] []), ⟨none, (.st 8 (.t 2) (.t 17)), none⟩, oo 3 (.mov (.c (.lit (.slice none 0 0)))), oo 4 (.mov (.c (.bool false)))]) .ret) .skip)) (.seq (rg [mv 19 5, cl 20 34 [(.t 19)], mv 18 20, oo 21 (.ext (.t 18) 0), oo 22 (.ext (.t 18) 1), oo 7 (.alloc [(.str []), (.int .i64 0), (.int .i64 0), (.int .i64 0), (.int .i64 0), (.int .i64 0), (.int .u8 0), (.str [])]), ⟨none, (.st 8 (.t 7) (.t 21)), none⟩, mv 8 22]) (.seq (.seq (rg [mv 23 8, oo 24 (.bin .neq (.iface [58]) true (.t 23) (.c (.lit .nilIface)))]) (.cond (.t 24) (.seq (rg [oo 25 (.build [(.str []), (.int .i64 0), (.int .i64 0), (.int .i64 0), (.int .i64 0), (.int .i64 0), (.int .u8 0), (.str [])] []), ⟨none, (.st 8 (.t 2) (.t 25)), none⟩, oo 3 (.mov (.c (.lit (.slice none 0 0)))), oo 4 (.mov (.c (.bool false)))]) .ret) .skip)) (.seq (rg [mv 27 0, oo 28 (.fa 4 (.t 7)), oo 29 (.ld 1 false (.t 28)), cl 30 143 [(.t 27), (.t 29)], mv 26 30, oo 31 (.ext (.t 26) 0), oo 32 (.ext (.t 26) 1), mv 9 31, mv 6 32]) (.seq (rg [oo 33 (.ld 8 true (.t 7)), mv 34 9, mv 35 6, ⟨none, (.st 8 (.t 2) (.t 33)), none⟩, mv 3 34, mv 4 35]) .ret)))))))⟩
theorem fn100 : AA.fn 100 = some b100 := by kernel_rfl
theorem np100 : AA.prim 100 = none := rfl
def b144 : AFn := ⟨2, 17, [(4, none)], (.seq (rg [oo 4 (.mov (.c (.bool false)))]) (.seq (rg [mv 8 1, cl 9 118 [(.t 8)], mv 7 9, oo 10 (.ext (.t 7) 0), oo 11 (.ext (.t 7) 1), mv 5 10, mv 6 11]) (.seq (rg [mv 12 0, mv 13 5, oo 14 (.nilck (.t 12)), ⟨none, (.st 1 (.t 14) (.t 13)), none⟩]) (.seq (rg [mv 15 6, oo 16 (.bin .eql (.iface [58]) true (.t 15) (.c (.lit .nilIface))), mv 4 16]) .ret))))⟩
theorem fn144 : AA.fn 144 = some b144 := by kernel_rfl
theorem np144 : AA.prim 144 = none := rfl
def l103_0 : ACode := (.seq (rg [oo 12 (.bin .lss .other false (.t 11) (.t 10))]) (.seq (.cond (.t 12) .skip (.exit 0)) (.seq (.block 1 (.seq (rg [oo 13 (.ixa 2 (.t 9) (.t 11)), oo 14 (.ld 2 true (.t 13)), oo 7 (.alloc [(.str []), (.str [])]), ⟨none, (.st 2 (.t 7) (.t 14)), none⟩]) (.seq (rg [oo 8 (.mov (.c (.bool true)))]) (.seq (.seq (rg [oo 15 (.fa 0 (.t 7)), oo 16 (.ld 1 false (.t 15))]) (.block 2 (.seq (rg [oo 18 (.bin .eql .other true (.t 16) (.c (.str [103, 105, 100]))), mv 17 18]) (.cond (.t 17) (.reg true [(0, 5), (1, 5), (2, 5), (3, 5)] [mv 19 5, mv 20 0, oo 21 (.nilck (.t 20)), oo 22 (.fa 4 (.t 21)), oo 23 (.fa 1 (.t 7)), oo 24 (.ld 1 false (.t 23)), oo 25 (.call (.t 19) [(.t 22), (.t 24)]), mv 8 25]) (.seq (rg [oo 27 (.bin .eql .other true (.t 16) (.c (.str [108, 105, 110, 107, 112, 97, 116, 104]))), mv 26 27]) (.cond (.t 26) (rg [mv 28 0, oo 29 (.fa 1 (.t 7)), oo 30 (.ld 1 false (.t 29)), oo 31 (.nilck (.t 28)), oo 32 (.fa 6 (.t 31)), ⟨none, (.st 1 (.t 32) (.t 30)), none⟩]) (.seq (rg [oo 34 (.bin .eql .other true (.t 16) (.c (.str [109, 116, 105, 109, 101]))), mv 33 34]) (.cond (.t 33) (.reg true [(0, 5), (1, 5), (2, 5), (3, 5)] [mv 35 5, mv 36 0, oo 37 (.nilck (.t 36)), oo 38 (.fa 5 (.t 37)), oo 39 (.fa 1 (.t 7)), oo 40 (.ld 1 false (.t 39)), oo 41 (.call (.t 35) [(.t 38), (.t 40)]), mv 8 41]) (.seq (rg [oo 43 (.bin .eql .other true (.t 16) (.c (.str [112, 97, 116, 104]))), mv 42 43]) (.cond (.t 42) (rg [mv 44 0, oo 45 (.fa 1 (.t 7)), oo 46 (.ld 1 false (.t 45)), oo 47 (.nilck (.t 44)), oo 48 (.fa 0 (.t 47)), ⟨none, (.st 1 (.t 48) (.t 46)), none⟩]) (.seq (rg [oo 50 (.bin .eql .other true (.t 16) (.c (.str [117, 105, 100]))), mv 49 50]) (.cond (.t 49) (.reg true [(0, 5), (1, 5), (2, 5), (3, 5)] [mv 51 5, mv 52 0, oo 53 (.nilck (.t 52)), oo 54 (.fa 3 (.t 53)), oo 55 (.fa 1 (.t 7)), oo 56 (.ld 1 false (.t 55)), oo 57 (.call (.t 51) [(.t 54), (.t 56)]), mv 8 57]) (rg [oo 8 (.mov (.c (.bool false)))]))))))))))))) (.seq (rg [mv 58 8, oo 59 (.un .not (.t 58))]) (.cond (.t 59) (.seq (rg [oo 4 (.mov (.c (.bool false)))]) .ret) .skip)))))) (rg [oo 60 (.bin .add .other true (.t 11) (ci 1)), mv 11 60]))))
def r103_0 : ACode := (.seq (rg [oo 4 (.mov (.c (.bool true)))]) .ret)
def b103 : AFn := ⟨2, 61, [(4, none)], (.seq (rg [oo 4 (.mov (.c (.bool false)))]) (.seq (rg [oo 5 (.mov (.c (.func (.func 144) [])))]) (.seq (.seq (rg [mv 9 1, oo 10 (.len 1 (.t 9)), oo 11 (.mov (ci 0))]) (.block 0 (.loop [0, 4, 5, 9, 10, 11] l103_0))) r103_0)))⟩
theorem fn103 : AA.fn 103 = some b103 := by kernel_rfl
theorem np103 : AA.prim 103 = none := rfl
def l61_0 : ACode := (.seq (.seq (rg [mv 56 10, oo 57 (.bin .leq .other true (.t 56) (ci 4))]) (.cond (.t 57) .skip (.exit 0))) (.seq (.block 1 (.seq (.reg true [(1, 2), (0, 3), (1, 3)] [mv 60 10, cl 61 102 [(.t 60)], oo 62 (.fa 6 (.t 4)), oo 63 (.ld 1 false (.t 62)), oo 64 (.bin .eql .other false (.t 61) (.t 63))]) (.cond (.t 64) (rg [mv 65 10, oo 66 (.fa 1 (.t 9)), ⟨none, (.st 1 (.t 66) (.t 65)), none⟩]) .skip))) (rg [mv 58 10, oo 59 (.bin .add .other true (.t 58) (ci 1)), mv 10 59])))
def r61_0 : ACode := (.seq (rg [mv 67 7, cl 68 103 [(.t 9), (.t 67)], mv 11 68]) (.seq (rg [oo 69 (.ld 8 true (.t 9)), mv 70 11, ⟨none, (.st 8 (.t 2) (.t 69)), none⟩, mv 3 70]) .ret))
def b61 : AFn := ⟨1, 71, [(2, (some (8, true))), (3, none)], (.seq (rg [oo 2 (.alloc [(.str []), (.int .i64 0), (.int .i64 0), (.int .i64 0), (.int .i64 0), (.int .i64 0), (.str []), (.lit (.slice none 0 0))]), oo 3 (.mov (.c (.bool false)))]) (.seq (rg [mv 13 0, cl 14 100 [(.t 13)], mv 12 14, oo 15 (.ext (.t 12) 0), oo 16 (.ext (.t 12) 1), oo 17 (.ext (.t 12) 2), oo 4 (.alloc [(.str []), (.int .i64 0), (.int .i64 0), (.int .i64 0), (.int .i64 0), (.int .i64 0), (.int .u8 0), (.str [])]), ⟨none, (.st 8 (.t 4) (.t 15)), none⟩, mv 5 16, mv 6 17]) (.seq (rg [oo 7 (.mov (.c (.lit (.slice none 0 0))))]) (.seq (.seq (rg [mv 18 6, mv 19 18, og 20 (.fa 6 (.t 4)) 19 true, og 21 (.ld 1 false (.t 20)) 19 true, og 22 (.bin .eql .other true (.t 21) (.c (.int .u8 120))) 19 true, oo 23 (.pick (.t 19) (.t 22) (.c (.bool false)))]) (.cond (.t 23) (.seq (rg [oo 8 (.mov (.c (.lit .nilIface)))]) (.seq (.seq (rg [mv 25 5, cl 26 35 [(.t 25)], mv 24 26, oo 27 (.ext (.t 24) 0), oo 28 (.ext (.t 24) 1), mv 7 27, mv 8 28]) (.seq (rg [mv 29 8, oo 30 (.bin .neq (.iface [58]) true (.t 29) (.c (.lit .nilIface)))]) (.cond (.t 30) (.seq (rg [oo 31 (.build [(.str []), (.int .i64 0), (.int .i64 0), (.int .i64 0), (.int .i64 0), (.int .i64 0), (.str []), (.lit (.slice none 0 0))] []), ⟨none, (.st 8 (.t 2) (.t 31)), none⟩, oo 3 (.mov (.c (.bool false)))]) .ret) .skip))) (rg [mv 33 0, cl 34 100 [(.t 33)], mv 32 34, oo 35 (.ext (.t 32) 0), oo 36 (.ext (.t 32) 1), oo 37 (.ext (.t 32) 2), ⟨none, (.st 8 (.t 4) (.t 35)), none⟩, mv 5 36, mv 6 37]))) .skip)) (.seq (.seq (rg [mv 38 6, oo 39 (.un .not (.t 38))]) (.cond (.t 39) (.seq (rg [oo 40 (.build [(.str []), (.int .i64 0), (.int .i64 0), (.int .i64 0), (.int .i64 0), (.int .i64 0), (.str []), (.lit (.slice none 0 0))] []), ⟨none, (.st 8 (.t 2) (.t 40)), none⟩, oo 3 (.mov (.c (.bool false)))]) .ret) .skip)) (.seq (.reg true [(1, 2), (0, 3), (1, 3), (1, 4), (3, 4), (0, 5), (1, 5), (2, 5), (3, 5), (1, 6), (3, 6), (5, 6), (0, 7), (1, 7), (2, 7), (3, 7), (4, 7), (5, 7), (1, 8), (3, 8), (5, 8), (7, 8), (0, 9), (1, 9), (2, 9), (3, 9), (4, 9), (5, 9), (6, 9), (7, 9), (1, 10), (3, 10), (5, 10), (7, 10), (9, 10), (0, 11), (1, 11), (2, 11), (3, 11), (4, 11), (5, 11), (6, 11), (7, 11), (8, 11), (9, 11), (1, 12), (3, 12), (5, 12), (7, 12), (9, 12), (11, 12), (0, 13), (1, 13), (2, 13), (3, 13), (4, 13), (5, 13), (6, 13), (7, 13), (8, 13), (9, 13), (10, 13), (11, 13), (0, 15), (1, 15), (2, 15), (3, 15), (4, 15), (5, 15), (6, 15), (7, 15), (8, 15), (9, 15), (10, 15), (11, 15), (12, 15), (13, 15), (14, 15)] [oo 41 (.fa 0 (.t 4)), oo 42 (.ld 1 false (.t 41)), oo 43 (.fa 1 (.t 4)), oo 44 (.ld 1 false (.t 43)), oo 45 (.fa 2 (.t 4)), oo 46 (.ld 1 false (.t 45)), oo 47 (.fa 3 (.t 4)), oo 48 (.ld 1 false (.t 47)), oo 49 (.fa 5 (.t 4)), oo 50 (.ld 1 false (.t 49)), oo 51 (.fa 7 (.t 4)), oo 52 (.ld 1 false (.t 51)), mv 53 5, cl 54 101 [(.t 53)], oo 55 (.build [(.str []), (.int .i64 0), (.int .i64 0), (.int .i64 0), (.int .i64 0), (.int .i64 0), (.str []), (.lit (.slice none 0 0))] [(0, (1, (.t 42))), (2, (1, (.t 44))), (3, (1, (.t 46))), (4, (1, (.t 48))), (5, (1, (.t 50))), (6, (1, (.t 52))), (7, (1, (.t 54)))]), oo 9 (.alloc [(.str []), (.int .i64 0), (.int .i64 0), (.int .i64 0), (.int .i64 0), (.int .i64 0), (.str []), (.lit (.slice none 0 0))]), ⟨none, (.st 8 (.t 9) (.t 55)), none⟩]) (.seq (.seq (rg [oo 10 (.mov (ci 1))]) (.block 0 (.loop [2, 3, 4, 7, 9, 10] l61_0))) r61_0)))))))⟩
theorem fn61 : AA.fn 61 = some b61 := by kernel_rfl
theorem np61 : AA.prim 61 = none := rfl
def l24_0 : ACode := (.seq (.seq (rg [mv 21 4, oo 22 (.nilck (.t 21)), oo 23 (.fa 0 (.t 22)), oo 24 (.ld 1 false (.t 23)), oo 25 (.len 1 (.t 24)), oo 26 (.bin .gtr .other true (.t 25) (ci 0))]) (.cond (.t 26) .skip (.exit 0))) (.block 1 (.seq (rg [mv 28 4, cl 29 61 [(.t 28)], mv 27 29, oo 30 (.ext (.t 27) 0), oo 31 (.ext (.t 27) 1), oo 6 (.alloc [(.str []), (.int .i64 0), (.int .i64 0), (.int .i64 0), (.int .i64 0), (.int .i64 0), (.str []), (.lit (.slice none 0 0))]), ⟨none, (.st 8 (.t 6) (.t 30)), none⟩, mv 7 31]) (.seq (.seq (rg [mv 32 7, oo 33 (.un .not (.t 32)), mv 34 33, og 35 (.mov (.t 5)) 34 false, og 36 (.len 1 (.t 35)) 34 false, og 37 (.bin .eql .other true (.t 36) (ci 200)) 34 false, oo 38 (.pick (.t 34) (.c (.bool true)) (.t 37))]) (.cond (.t 38) (.seq (rg [oo 39 (.mkif 58 (ci 16)), oo 2 (.mov (.c (.lit (.slice none 0 0)))), mv 3 39]) .ret) .skip)) (rg [mv 40 5, oo 41 (.ld 8 true (.t 6)), oo 42 (.bslice 8 1 [(.str []), (.int .i64 0), (.int .i64 0), (.int .i64 0), (.int .i64 0), (.int .i64 0), (.str []), (.lit (.slice none 0 0))] [(.t 41)]), oo 43 (.app 96 8 (.t 40) (.t 42)), mv 5 43])))))
def r24_0 : ACode := (.seq (rg [mv 45 5, cl 46 17 [(.t 45)], mv 44 46, oo 47 (.ext (.t 44) 0), oo 48 (.ext (.t 44) 1), mv 8 47, mv 9 48]) (.seq (.seq (rg [mv 49 9, oo 50 (.bin .neq (.iface [58]) true (.t 49) (.c (.lit .nilIface))), mv 51 50, og 52 (.mov (.t 8)) 51 false, og 53 (.mov (.t 0)) 51 false, og 54 (.call (.c (.func (.func 62) [])) [(.t 52), (.t 53)]) 51 false, og 55 (.un .not (.t 54)) 51 false, oo 56 (.pick (.t 51) (.c (.bool true)) (.t 55))]) (.cond (.t 56) (.seq (rg [oo 57 (.mkif 58 (ci 16)), oo 2 (.mov (.c (.lit (.slice none 0 0)))), mv 3 57]) .ret) .skip)) (.seq (rg [mv 58 5, mv 2 58, oo 3 (.mov (.c (.lit .nilIface)))]) .ret)))
def b24 : AFn := ⟨1, 59, [(2, none), (3, none)], (.seq (rg [oo 2 (.mov (.c (.lit (.slice none 0 0)))), oo 3 (.mov (.c (.lit .nilIface)))]) (.seq (.seq (rg [mv 10 0, oo 11 (.len 1 (.t 10)), oo 12 (.bin .lss .other true (.t 11) (ci 1024))]) (.cond (.t 12) (.seq (rg [oo 13 (.mkif 58 (ci 16)), oo 2 (.mov (.c (.lit (.slice none 0 0)))), mv 3 13]) .ret) .skip)) (.seq (rg [mv 14 0, mv 15 0, oo 16 (.len 1 (.t 15)), oo 17 (.bin .sub .other true (.t 16) (ci 1024)), oo 18 (.slc 1 (.t 14) none (some (.t 17)) none), oo 19 (.build [(.lit (.slice none 0 0))] [(0, (1, (.t 18)))]), oo 20 (.box (.t 19)), mv 4 20]) (.seq (rg [oo 5 (.mov (.c (.lit (.slice none 0 0))))]) (.seq (.block 0 (.loop [0, 2, 3, 4, 5] l24_0)) r24_0)))))⟩
theorem fn24 : AA.fn 24 = some b24 := by kernel_rfl
theorem np24 : AA.prim 24 = none := rfl
end Go.Abs
