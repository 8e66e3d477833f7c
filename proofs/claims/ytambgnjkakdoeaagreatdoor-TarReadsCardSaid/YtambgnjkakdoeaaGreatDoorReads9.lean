import Derived.Test.YtambgnjkakdoeaaGreatDoorReads8
/- PART OF A PROOF (texts joined by a program): F66 F9 F70 F71 B6 F10 F72 F11 F12 F13. -/
set_option linter.unusedVariables false
set_option linter.unusedSimpArgs false
set_option linter.unusedSectionVars false
namespace Go.Abs
open Am Lib
set_option maxRecDepth 10000
theorem cmp_cases : ∀ a b : List UInt8, (compareBytes a b = -1 ∧ Op.bytesLess a b = true ∧ Op.bytesLess b a = false) ∨ (compareBytes a b = 0 ∧ a = b ∧ Op.bytesLess a b = false ∧ Op.bytesLess b a = false) ∨ (compareBytes a b = 1 ∧ Op.bytesLess a b = false ∧ Op.bytesLess b a = true)
 | [], [] => by simp [compareBytes, Op.bytesLess]
 | [], _ :: _ => by simp [compareBytes, Op.bytesLess]
 | _ :: _, [] => by simp [compareBytes, Op.bytesLess]
 | x :: a, y :: b => by
  have ih := cmp_cases a b
  have e : compareBytes (x :: a) (y :: b) = if x < y then -1 else if y < x then 1 else compareBytes a b := by rw [compareBytes]
  rw [e]
  by_cases h1 : x < y
  ·have h2 : ¬ y < x := by
    intro h; exact absurd (UInt8.lt_trans h1 h) (UInt8.lt_irrefl x)
   simp [Op.bytesLess, h1, h2]
   intro h; subst h; exact absurd h1 (UInt8.lt_irrefl _)
  ·by_cases h2 : y < x
   ·simp [Op.bytesLess, h1, h2]
    intro h; subst h; exact absurd h2 (UInt8.lt_irrefl _)
   ·have h3 : x = y := by
     have e1 := UInt8.le_antisymm (UInt8.not_lt.1 h2) (UInt8.not_lt.1 h1)
     exact e1
    subst h3
    simpa [Op.bytesLess, h1] using ih
def cmpR : List (List UInt8) → List (List UInt8) → Int
 | x :: xs, y :: ys => if compareBytes x y ≠ 0 then compareBytes x y else cmpR xs ys
 | [], [] => 0
 | [], _ :: _ => -1
 | _ :: _, [] => 1
theorem cmpR_parts : ∀ xs ys : List (List UInt8), xs ≠ [] → ys ≠ [] → cmpR xs ys = cmpParts xs ys
 | [], _, h, _ => (h rfl).elim
 | _ :: _, [], _, h => (h rfl).elim
 | [x], [y], _, _ => by rw [cmp_nn]; rfl
 | [x], y :: y2 :: ys, _, _ => by rw [cmp_ny (by simp)]; rfl
 | x :: x2 :: xs, [y], _, _ => by rw [cmp_yn (by simp)]; rfl
 | x :: x2 :: xs, y :: y2 :: ys, _, _ => by
  have ih := cmpR_parts (x2 :: xs) (y2 :: ys) (by simp) (by simp)
  rw [cmp_yy (by simp) (by simp), cmpR, ih]
set_option maxHeartbeats 4000000 in
theorem h78 (ps qs : List (List UInt8)) (hp : ps.length ≤ 2000000) (hq : qs.length ≤ 2000000) (r0 : Int) : ∀ (xs ys done1 done2 : List (List UInt8)) (i : Int), ps = done1 ++ xs → qs = done2 ++ ys → i = done1.length → i = done2.length → r0 = cmpR xs ys →
  HD AA 0 [4, 5, 6, 7] l78_0 ⟨[.junk, .junk, .junk, .junk, .int .i64 0, .own 0 1 0 ps.length false, .own 1 1 0 qs.length false, .int .i64 i, .junk, .junk, .junk, .junk, .junk, .junk, .junk, .junk, .junk, .junk, .junk, .junk, .junk, .junk, .junk, .junk, .junk, .junk, .junk, .junk, .junk, .junk, .junk, .junk, .junk, .junk, .junk, .junk, .junk, .junk, .junk, .junk, .junk, .junk, .junk, .junk, .junk, .junk, .junk, .junk, .junk, .junk, .junk, .junk], [(0, .row (ps.map .str) 1), (1, .row (qs.map .str) 1)], 2⟩ [.blk 0, .code r78_0] (Fin [(4, none)] 0 (.int .i64 r0) [])
 | [], ys, done1, done2, i, h1, h2, h3, h4, h5 => by
  have hl : ps.length = done1.length := by rw [h1]; simp
  have hl2 : qs.length = done2.length + ys.length := by rw [h2]; simp
  cases ys with
  | nil =>
   have hr : r0 = 0 := h5
   rw [List.length_nil] at hl2
   subst hr
   refine hd_of (by unfold l78_0; rfl) ?_
   have gg:=trivial;repeat' first|simp (maxSteps:=2000000) (disch:=omega) only [gg,r78_0,go_sem]|(refine br ?_ ?_<;>intro gg<;>try omega)|(apply And.intro;focus omega)|omega
  | cons y ys =>
   have hr : r0 = -1 := h5
   rw [List.length_cons] at hl2
   subst hr
   refine hd_of (by unfold l78_0; rfl) ?_
   have gg:=trivial;repeat' first|simp (maxSteps:=2000000) (disch:=omega) only [gg,r78_0,go_sem]|(refine br ?_ ?_<;>intro gg<;>try omega)|(apply And.intro;focus omega)|omega
 | x :: xs, [], done1, done2, i, h1, h2, h3, h4, h5 => by
  have hl : ps.length = done1.length + (xs.length + 1) := by rw [h1]; simp
  have hl2 : qs.length = done2.length := by rw [h2]; simp
  have hr : r0 = 1 := h5
  subst hr
  refine hd_of (by unfold l78_0; rfl) ?_
  have gg:=trivial;repeat' first|simp (maxSteps:=2000000) (disch:=omega) only [gg,r78_0,go_sem]|(refine br ?_ ?_<;>intro gg<;>try omega)|(apply And.intro;focus omega)|omega
 | x :: xs, y :: ys, done1, done2, i, h1, h2, h3, h4, h5 => by
  have hl : ps.length = done1.length + (xs.length + 1) := by rw [h1]; simp
  have hl2 : qs.length = done2.length + (ys.length + 1) := by rw [h2]; simp
  have hx1 : ps[i.toNat]? = some x := by
   rw [show i.toNat = done1.length by omega, h1, List.getElem?_append_right (by omega)]
   simp
  have hx2 : qs[i.toNat]? = some y := by
   rw [show i.toNat = done2.length by omega, h2, List.getElem?_append_right (by omega)]
   simp
  rw [cmpR] at h5
  rcases cmp_cases x y with ⟨c1, c2, c3⟩ | ⟨c1, c2, c3, c4⟩ | ⟨c1, c2, c3⟩
  ·rw [c1, if_pos (by omega)] at h5
   subst h5
   refine hd_of (by unfold l78_0; rfl) ?_
   have gg:=trivial;repeat' first|simp (maxSteps:=2000000) (disch:=omega) only [gg,hx1,hx2,c2,c3,go_sem]|(refine br ?_ ?_<;>intro gg<;>try omega)|(apply And.intro;focus omega)|omega
  ·rw [c1, if_neg (by omega)] at h5
   have ih := h78 ps qs hp hq r0 xs ys (done1 ++ [x]) (done2 ++ [y]) (i + 1) (by rw [h1]; simp) (by rw [h2]; simp) (by simp; omega) (by simp; omega) h5
   refine hd_of (by unfold l78_0; rfl) ?_
   have gg:=trivial;repeat' first|simp (maxSteps:=2000000) (disch:=omega) only [gg,hx1,hx2,c3,c4,lp_head,go_sem]|(refine br ?_ ?_<;>intro gg<;>try omega)|(apply And.intro;focus omega)|omega
  ·rw [c1, if_pos (by omega)] at h5
   have hne : ¬ x = y := by
    intro h; subst h; rw [c2] at c3; simp at c3
   subst h5
   refine hd_of (by unfold l78_0; rfl) ?_
   have gg:=trivial;repeat' first|simp (maxSteps:=2000000) (disch:=omega) only [gg,hx1,hx2,c2,c3,hne,go_sem]|(refine br ?_ ?_<;>intro gg<;>try omega)|(apply And.intro;focus omega)|omega
theorem s78 (a b : List UInt8) (ha : a.length ≤ 1000000) (hb : b.length ≤ 1000000) : callT AA 78 [.str a, .str b] [] = some (.int .i64 (cmpPath a b), []) := by
 have h1 := s125 a ha
 have h2 := s125 b hb
 have hh := h78 (splitOn 47 a) (splitOn 47 b) (split_n a ha) (split_n b hb) (cmpPath a b) (splitOn 47 a) (splitOn 47 b) [] [] 0 rfl rfl rfl rfl (cmpR_parts _ _ (splitOn_ne 47 a) (splitOn_ne 47 b)).symm
 refine enter fn78 np78 rfl ?_
 have gg:=trivial;repeat' first|simp (maxSteps:=2000000) (disch:=omega) only [gg,b78,h1,h2,lp_head,go_sem]|(refine br ?_ ?_<;>intro gg<;>try omega)|(apply And.intro;focus omega)|omega
end Go.Abs
namespace Go.Abs
open Am
set_option maxRecDepth 10000
def putA (bs : List UInt8) (off n : Nat) (xs : List UInt8) : List UInt8 := bs.take off ++ xs.take (min xs.length n) ++ bs.drop (off + min xs.length n)
theorem putA_length {bs xs : List UInt8} {off n : Nat} (h : off + n ≤ bs.length) : (putA bs off n xs).length = bs.length := by
 unfold putA
 simp
 omega
@[go_sem high] theorem row_put {off n : Nat} {bs xs : List UInt8} : List.take off (bs.map AVal.byte) ++ List.take (min xs.length n) (xs.map AVal.byte) ++ List.drop (off + min xs.length n) (bs.map AVal.byte) = (putA bs off n xs).map .byte := by
 simp [putA]
@[go_sem high] theorem row_put0 {n : Nat} {bs xs : List UInt8} : List.take (min xs.length n) (xs.map AVal.byte) ++ List.drop (min xs.length n) (bs.map AVal.byte) = (putA bs 0 n xs).map .byte := by
 simp [putA]
def zeros512 : List UInt8 := List.replicate 512 0
theorem zeros512_eq : List.replicate 512 (0 : UInt8) = zeros512 := rfl
theorem zeros512_length : zeros512.length = 512 := by simp [zeros512]
def magicB : List UInt8 := [117, 115, 116, 97, 114, 0, 48, 48]
theorem magic_eq : AVal.str [117, 115, 116, 97, 114, 0, 48, 48] = AVal.str magicB := rfl
/-- the block ahead of its sum -/
def encH (h : Hd) (pre name : List UInt8) : List UInt8 :=
 let b1 := putA zeros512 0 512 name
 let b2 := octW b1 100 7 h.mode
 let b3 := octW b2 108 7 h.uid
 let b4 := octW b3 116 7 h.gid
 let b5 := octW b4 124 11 h.size
 let b6 := octW b5 136 11 h.time
 let b7 := b6.set 156 h.type
 let b8 := putA b7 157 355 h.link
 let b9 := putA b8 257 255 magicB
 let b10 := octW b9 329 7 0
 let b11 := octW b10 337 7 0
 putA b11 345 167 pre
def encB (h : Hd) : List UInt8 :=
 let b := encH h (splitN h.path).1 (splitN h.path).2.1
 (octW b 148 6 (256 + sumL 0 b)).set 155 32
def encOk (h : Hd) : Bool := (splitN h.path).2.2 && fitsB h
set_option maxHeartbeats 2000000 in
theorem s70 (h : Hd) (hp : h.path.length ≤ 1000000) (hl : h.link.length ≤ 1000000) (hok : encOk h = true) : callT AA 70 [h.av] [] = some (.tuple [.own 0 1 0 512 false, .lit .nilIface], [(0, .row ((encB h).map .byte) 1)]) := by
 have h1 := s81 h.path hp
 have h2 := s115 h hl
 simp only [encOk, Bool.and_eq_true] at hok
 obtain ⟨k1, k2⟩ := hok
 rw [k1] at h1
 rw [k2] at h2
 simp only [Hd.av] at h2
 have f : idB h.mode = true ∧ idB h.uid = true ∧ idB h.gid = true ∧ timeB h.size = true ∧ timeB h.time = true := by
  simp only [fitsB, Bool.and_eq_true] at k2
  exact ⟨k2.1.1.1.1.1, k2.1.1.1.1.2, k2.1.1.1.2, k2.1.1.2, k2.1.2⟩
 simp only [idB_iff, timeB_iff] at f
 obtain ⟨f1, f2, f3, f4, f5⟩ := f
 unfold encB encH
 simp only []
 generalize (splitN h.path).1 = pre at *
 generalize (splitN h.path).2.1 = name at *
 have l0 := zeros512_length
 generalize e1 : putA zeros512 0 512 name = b1
 have l1 : b1.length = 512 := by rw [← e1, putA_length (by omega)]; exact l0
 have c2 := s116 b1 100 7 h.mode 100 7 512 rfl rfl l1.symm (by omega) (by omega) f1.1 (by omega)
 generalize e2 : octW b1 100 7 h.mode = b2 at c2
 have l2 : b2.length = 512 := by rw [← e2, octW_length]; exact l1
 have c3 := s116 b2 108 7 h.uid 108 7 512 rfl rfl l2.symm (by omega) (by omega) f2.1 (by omega)
 generalize e3 : octW b2 108 7 h.uid = b3 at c3
 have l3 : b3.length = 512 := by rw [← e3, octW_length]; exact l2
 have c4 := s116 b3 116 7 h.gid 116 7 512 rfl rfl l3.symm (by omega) (by omega) f3.1 (by omega)
 generalize e4 : octW b3 116 7 h.gid = b4 at c4
 have l4 : b4.length = 512 := by rw [← e4, octW_length]; exact l3
 have c5 := s116 b4 124 11 h.size 124 11 512 rfl rfl l4.symm (by omega) (by omega) f4.1 (by omega)
 generalize e5 : octW b4 124 11 h.size = b5 at c5
 have l5 : b5.length = 512 := by rw [← e5, octW_length]; exact l4
 have c6 := s116 b5 136 11 h.time 136 11 512 rfl rfl l5.symm (by omega) (by omega) f5.1 (by omega)
 generalize e6 : octW b5 136 11 h.time = b6 at c6
 have l6 : b6.length = 512 := by rw [← e6, octW_length]; exact l5
 generalize e7 : b6.set 156 h.type = b7
 have l7 : b7.length = 512 := by rw [← e7, List.length_set]; exact l6
 generalize e8 : putA b7 157 355 h.link = b8
 have l8 : b8.length = 512 := by rw [← e8, putA_length (by omega)]; exact l7
 generalize e9 : putA b8 257 255 magicB = b9
 have l9 : b9.length = 512 := by rw [← e9, putA_length (by omega)]; exact l8
 have c10 := s116 b9 329 7 0 329 7 512 rfl rfl l9.symm (by omega) (by omega) (by omega) (by omega)
 generalize e10 : octW b9 329 7 0 = b10 at c10
 have l10 : b10.length = 512 := by rw [← e10, octW_length]; exact l9
 have c11 := s116 b10 337 7 0 337 7 512 rfl rfl l10.symm (by omega) (by omega) (by omega) (by omega)
 generalize e11 : octW b10 337 7 0 = b11 at c11
 have l11 : b11.length = 512 := by rw [← e11, octW_length]; exact l10
 generalize e12 : putA b11 345 167 pre = b12
 have l12 : b12.length = 512 := by rw [← e12, putA_length (by omega)]; exact l11
 have hs := sumL_le b12 0
 have c12 := fun c t => s117 c t b12 (by omega)
 have c13 := s116 b12 148 6 (256 + sumL 0 b12) 148 6 512 rfl rfl l12.symm (by omega) (by omega) (by omega) (by omega)
 generalize e13 : octW b12 148 6 (256 + sumL 0 b12) = b13 at c13
 have l13 : b13.length = 512 := by rw [← e13, octW_length]; exact l12
 have ht := h.type.toNat_lt
 have t8 : UInt8.ofNat (h.type.toNat : Int).toNat = h.type := by simp
 have t12 : (b12.map AVal.byte).take 512 = b12.map AVal.byte := List.take_of_length_le (by simp; omega)
 refine enter fn70 np70 rfl ?_
 have gg:=trivial;repeat' first|simp (maxSteps:=2000000) (disch:=omega) only [gg,b70,h1,h2,t12,magic_eq,zeros512_eq,e1,c2,c3,c4,c5,c6,t8,e7,e8,e9,c10,c11,e12,c12,c13,go_sem]|(refine br ?_ ?_<;>intro gg<;>try omega)|(apply And.intro;focus omega)|omega
 rfl
theorem s70no (h : Hd) (hp : h.path.length ≤ 1000000) (hl : h.link.length ≤ 1000000) (hok : encOk h = false) : callT AA 70 [h.av] [] = some (.tuple [.lit (.slice none 0 0), .iface 58 (.int .i64 14)], []) := by
 have h1 := s81 h.path hp
 have h2 := s115 h hl
 simp only [Hd.av] at h2
 unfold encOk at hok
 refine enter fn70 np70 rfl ?_
 cases hk : (splitN h.path).2.2 with
 | false =>
  rw [hk] at h1
  have gg:=trivial;repeat' first|simp (maxSteps:=2000000) (disch:=omega) only [gg,b70,h1,h2,go_sem]|(refine br ?_ ?_<;>intro gg<;>try omega)|(apply And.intro;focus omega)|omega
 | true =>
  rw [hk] at h1
  have hf : fitsB h = false := by simpa [hk] using hok
  rw [hf] at h2
  have gg:=trivial;repeat' first|simp (maxSteps:=2000000) (disch:=omega) only [gg,b70,h1,h2,go_sem]|(refine br ?_ ?_<;>intro gg<;>try omega)|(apply And.intro;focus omega)|omega
end Go.Abs
namespace Go.Abs
open Am Lib
set_option maxRecDepth 10000
theorem h99 (s : List UInt8) (hs : s.length ≤ 1000000) (v : Bool) : ∀ (rest pre : List UInt8) (i : Int), s = pre ++ rest → i = pre.length → v = asciiB rest →
  HD AA 0 [0, 2, 3] l99_0 ⟨[.str s, .junk, .bool false, .int .i64 i, .junk, .junk, .junk, .junk, .junk, .junk, .junk, .junk, .junk, .junk, .junk, .junk, .junk, .junk, .junk, .junk], [], 0⟩ [.blk 0, .code r99_0] (Fin [(2, none)] 0 (.bool v) [])
 | [], pre, i, h1, h2, h4 => by
  have hl : s.length = pre.length := by rw [h1]; simp
  have hv : v = true := h4
  subst hv
  refine hd_of (by unfold l99_0; rfl) ?_
  have gg:=trivial;repeat' first|simp (maxSteps:=2000000) (disch:=omega) only [gg,r99_0,go_sem]|(refine br ?_ ?_<;>intro gg<;>try omega)|(apply And.intro;focus omega)|omega
 | c :: r, pre, i, h1, h2, h4 => by
  have hl : s.length = pre.length + (r.length + 1) := by rw [h1]; simp
  have ei : i.toNat = pre.length := by omega
  have hxi : s[i.toNat]? = some c := by
   rw [ei, h1, List.getElem?_append_right (by omega)]
   simp
  have hc := c.toNat_lt
  have e : asciiB (c :: r) = (okByte c && asciiB r) := rfl
  rw [e] at h4
  have ih := h99 s hs (asciiB r) r (pre ++ [c]) (i + 1) (by rw [h1]; simp) (by simp; omega) rfl
  cases ob : okByte c with
  | true =>
   have hb := of_decide_eq_true ob
   rw [ob, Bool.true_and] at h4
   subst h4
   refine hd_of (by unfold l99_0; rfl) ?_
   have gg:=trivial;repeat' first|simp (maxSteps:=2000000) (disch:=omega) only [gg,hxi,lp_head,go_sem]|(refine br ?_ ?_<;>intro gg<;>try omega)|(apply And.intro;focus omega)|omega
  | false =>
   have hb := of_decide_eq_false ob
   rw [ob, Bool.false_and] at h4
   subst h4
   refine hd_of (by unfold l99_0; rfl) ?_
   have gg:=trivial;repeat' first|simp (maxSteps:=2000000) (disch:=omega) only [gg,hxi,lp_head,go_sem]|(refine br ?_ ?_<;>intro gg<;>try omega)|(apply And.intro;focus omega)|omega
   all_goals (exfalso; omega)
theorem s99 (s : List UInt8) (hs : s.length ≤ 1000000) : callT AA 99 [.str s] [] = some (.bool (asciiB s), []) := by
 have hh := h99 s hs (asciiB s) s [] 0 rfl rfl rfl
 refine enter fn99 np99 rfl ?_
 have gg:=trivial;repeat' first|simp (maxSteps:=2000000) (disch:=omega) only [gg,b99,lp_head,go_sem]|(refine br ?_ ?_<;>intro gg<;>try omega)|(apply And.intro;focus omega)|omega
theorem s58 (n : Int) : callT AA 58 [.int .i64 n] [] = some (.bool (idB n), []) := by
 have e : idB n = (decide (0 ≤ n) && decide (n ≤ 2097151)) := by
  unfold idB
  rw [Bool.eq_iff_iff]
  simp
  omega
 rw [e]
 refine enter fn58 np58 rfl ?_
 have gg:=trivial;repeat' first|simp (maxSteps:=2000000) (disch:=omega) only [gg,b58,go_sem]|(refine br ?_ ?_<;>intro gg<;>try omega)|(apply And.intro;focus omega)|omega
 (all_goals (first | (simp_all []; done) | (simp_all []; omega) | (simp_all []; intros; omega) | (simp_all []; rw [Bool.eq_iff_iff]; simp; done) | (simp_all []; rw [Bool.eq_iff_iff]; simp; omega)))
theorem s60 (n : Int) : callT AA 60 [.int .i64 n] [] = some (.bool (timeB n), []) := by
 have e : timeB n = (decide (0 ≤ n) && decide (n ≤ 8589934591)) := by
  unfold timeB
  rw [Bool.eq_iff_iff]
  simp
  omega
 rw [e]
 refine enter fn60 np60 rfl ?_
 have gg:=trivial;repeat' first|simp (maxSteps:=2000000) (disch:=omega) only [gg,b60,go_sem]|(refine br ?_ ?_<;>intro gg<;>try omega)|(apply And.intro;focus omega)|omega
 (all_goals (first | (simp_all []; done) | (simp_all []; omega) | (simp_all []; intros; omega) | (simp_all []; rw [Bool.eq_iff_iff]; simp; done) | (simp_all []; rw [Bool.eq_iff_iff]; simp; omega)))
theorem s59 (s : List UInt8) (hs : s.length ≤ 1000000) : callT AA 59 [.str s] [] = some (.bool (linkB s), []) := by
 have h := s99 s hs
 have e : linkB s = (decide (1 ≤ (s.length : Int)) && decide ((s.length : Int) ≤ 100) && asciiB s) := by
  unfold linkB
  have : decide (s ≠ []) = decide (1 ≤ (s.length : Int)) := by
   apply decide_eq_decide.2
   cases s with
   | nil => simp
   | cons a r => simp; omega
  rw [this]
 rw [e]
 refine enter fn59 np59 rfl ?_
 have gg:=trivial;repeat' first|simp (maxSteps:=2000000) (disch:=omega) only [gg,b59,h,go_sem]|(refine br ?_ ?_<;>intro gg<;>try omega)|(apply And.intro;focus omega)|omega
 (all_goals (first | (simp_all []; done) | (simp_all []; omega) | (simp_all []; intros; omega) | (simp_all []; rw [Bool.eq_iff_iff]; simp; done) | (simp_all []; rw [Bool.eq_iff_iff]; simp; omega)))
end Go.Abs
namespace Go.Abs
open Am Lib
set_option maxRecDepth 10000
theorem sp_end (p : List UInt8) : ∀ (k i : Nat), p.length ≤ i + 1 → spAt p k i = ([], [], false)
 | 0, _, _ => rfl
 | k + 1, i, h => by
  have hs : spOk p i = false := by
   unfold spOk
   have : decide (i + 2 ≤ p.length) = false := decide_eq_false (by omega)
   simp [this]
  rw [spAt, hs, if_neg (by simp)]
  exact sp_end p k (i + 1) (by omega)
theorem h57 (p : List UInt8) (hp : p.length ≤ 1000000) (r0 : List UInt8 × List UInt8 × Bool) : ∀ (k i : Nat) (j : Int), i + k = p.length → j = i → 1 ≤ i → r0 = spAt p k i →
  HD AA 0 [0, 2, 3, 4, 5] l57_0 ⟨[.str p, .junk, .str [], .str [], .bool false, .int .i64 j, .junk, .junk, .junk, .junk, .junk, .junk, .junk, .junk, .junk, .junk, .junk, .junk, .junk, .junk, .junk, .junk, .junk, .junk, .junk, .junk, .junk, .junk, .junk, .junk, .junk, .junk, .junk, .junk, .junk, .junk, .junk, .junk, .junk, .junk, .junk, .junk, .junk, .junk, .junk, .junk, .junk, .junk], [], 0⟩ [.blk 0, .code r57_0] (Fin [(2, none), (3, none), (4, none)] 0 (.tuple [.str r0.1, .str r0.2.1, .bool r0.2.2]) [])
 | 0, i, j, h1, h2, h3, h4 => by
  have hr : r0 = ([], [], false) := h4
  subst hr
  refine hd_of (by unfold l57_0; rfl) ?_
  have gg:=trivial;repeat' first|simp (maxSteps:=2000000) (disch:=omega) only [gg,r57_0,go_sem]|(refine br ?_ ?_<;>intro gg<;>try omega)|(apply And.intro;focus omega)|omega
 | k + 1, i, j, h1, h2, h3, h4 => by
  by_cases h5 : p.length ≤ i + 1
  ·rw [sp_end p (k + 1) i h5] at h4
   subst h4
   refine hd_of (by unfold l57_0; rfl) ?_
   have gg:=trivial;repeat' first|simp (maxSteps:=2000000) (disch:=omega) only [gg,r57_0,go_sem]|(refine br ?_ ?_<;>intro gg<;>try omega)|(apply And.intro;focus omega)|omega
  ·have hx : p[j.toNat]? = some (p[i]'(by omega)) := by
    rw [show j.toNat = i by omega, List.getElem?_eq_getElem]
   have hx2 : p[i]? = some (p[i]'(by omega)) := by rw [List.getElem?_eq_getElem]
   generalize hc : p[i]'(by omega) = c at hx hx2
   have hcl := c.toNat_lt
   have ih := h57 p hp r0 k (i + 1) (j + 1) (by omega) (by omega) (by omega)
   rw [spAt] at h4
   by_cases h6 : spOk p i = true
   ·rw [if_pos h6] at h4
    subst h4
    unfold spOk at h6
    rw [hx2] at h6
    simp only [Bool.and_eq_true, decide_eq_true_eq, Option.some.injEq] at h6
    obtain ⟨⟨⟨⟨h7, h8⟩, h9⟩, h10⟩, h11⟩ := h6
    subst h7
    have e47 : ((47 : UInt8).toNat : Int) = 47 := rfl
    have ej : (j + 1).toNat = i + 1 := by omega
    have ej2 : j.toNat = i := by omega
    refine hd_of (by unfold l57_0; rfl) ?_
    have gg:=trivial;repeat' first|simp (maxSteps:=2000000) (disch:=omega) only [gg,hx2,e47,ej,ej2,List.drop_zero,go_sem]|(refine br ?_ ?_<;>intro gg<;>try omega)|(apply And.intro;focus omega)|omega
   ·rw [if_neg h6] at h4
    have ih := ih h4
    have h7 : ¬ ((c.toNat : Int) = 47 ∧ j ≤ 155 ∧ (p.length : Int) - 1 - j ≤ 100) := by
     intro hh
     apply h6
     have hc47 : c = 47 := (ty_eq c 47 (by omega)).mp hh.1
     unfold spOk
     rw [hx2, hc47]
     simp
     omega
    clear h6
    refine hd_of (by unfold l57_0; rfl) ?_
    have gg:=trivial;repeat' first|simp (maxSteps:=2000000) (disch:=omega) only [gg,hx,lp_head,go_sem]|(refine br ?_ ?_<;>intro gg<;>try omega)|(apply And.intro;focus omega)|omega
theorem sp_zero (p : List UInt8) (k : Nat) : spAt p (k + 1) 0 = spAt p k 1 := by
 have hs : spOk p 0 = false := by
  unfold spOk
  have : decide (1 ≤ 0) = false := by decide
  simp
 rw [spAt, hs, if_neg (by simp)]
theorem s57 (p : List UInt8) (hp : p.length ≤ 1000000) : callT AA 57 [.str p] [] = some (.tuple [.str (splitN p).1, .str (splitN p).2.1, .bool (splitN p).2.2], []) := by
 have h := s99 p hp
 refine enter fn57 np57 rfl ?_
 unfold splitN
 rcases Nat.eq_zero_or_pos p.length with h0 | h0
 ·have : p = [] := List.length_eq_zero_iff.1 h0
  subst this
  rw [if_pos (Or.inl rfl)]
  have gg:=trivial;repeat' first|simp (maxSteps:=2000000) (disch:=omega) only [gg,b57,go_sem]|(refine br ?_ ?_<;>intro gg<;>try omega)|(apply And.intro;focus omega)|omega
 ·have hne : p ≠ [] := by intro hh; subst hh; simp at h0
  cases ha : asciiB p with
  | false =>
   rw [ha] at h
   rw [if_pos (Or.inr rfl)]
   have gg:=trivial;repeat' first|simp (maxSteps:=2000000) (disch:=omega) only [gg,b57,h,go_sem]|(refine br ?_ ?_<;>intro gg<;>try omega)|(apply And.intro;focus omega)|omega
  | true =>
   rw [ha] at h
   rw [if_neg (by simp [hne])]
   by_cases h1 : p.length ≤ 100
   ·rw [if_pos h1]
    have gg:=trivial;repeat' first|simp (maxSteps:=2000000) (disch:=omega) only [gg,b57,h,go_sem]|(refine br ?_ ?_<;>intro gg<;>try omega)|(apply And.intro;focus omega)|omega
   ·rw [if_neg h1]
    have hk : p.length = (p.length - 1) + 1 := by omega
    have e : spAt p p.length 0 = spAt p (p.length - 1) 1 := by
     rw [show spAt p p.length 0 = spAt p ((p.length - 1) + 1) 0 by rw [← hk], sp_zero]
    rw [e]
    have hh := h57 p hp (spAt p (p.length - 1) 1) (p.length - 1) 1 1 (by omega) rfl (by omega) rfl
    have gg:=trivial;repeat' first|simp (maxSteps:=2000000) (disch:=omega) only [gg,b57,h,lp_head,go_sem]|(refine br ?_ ?_<;>intro gg<;>try omega)|(apply And.intro;focus omega)|omega
end Go.Abs
namespace Go.Abs
def b22 : AFn := ⟨1, 71, [(2, none)], (.seq (rg [oo 1 (.box (.t 0)), oo 2 (.mov (.c (.lit (.slice none 0 0))))]) (.seq (rg [oo 3 (.mov (.c (.lit (.slice none 0 0))))]) (.seq (rg [oo 8 (.fa 0 (.t 1)), oo 9 (.ld 1 false (.t 8)), cl 10 57 [(.t 9)], mv 7 10, oo 11 (.ext (.t 7) 0), oo 12 (.ext (.t 7) 1), oo 13 (.ext (.t 7) 2), mv 4 11, mv 5 12, mv 6 13]) (.seq (.seq (rg [oo 14 (.fa 4 (.t 1)), oo 15 (.ld 1 false (.t 14)), cl 16 58 [(.t 15)], oo 17 (.un .not (.t 16))]) (.cond (.t 17) (rg [mv 18 3, oo 19 (.fa 4 (.t 1)), oo 20 (.ld 1 false (.t 19)), cl 21 47 [(.t 20)], oo 22 (.build [(.str []), (.str [])] [(0, (1, (.c (.str [103, 105, 100])))), (1, (1, (.t 21)))]), oo 23 (.bslice 2 1 [(.str []), (.str [])] [(.t 22)]), oo 24 (.app 32 2 (.t 18) (.t 23)), mv 3 24]) .skip)) (.seq (.seq (rg [oo 25 (.fa 6 (.t 1)), oo 26 (.ld 1 false (.t 25)), oo 27 (.bin .neq .other true (.t 26) (.c (.str []))), mv 28 27, og 29 (.fa 6 (.t 1)) 28 true, og 30 (.ld 1 false (.t 29)) 28 true, og 31 (.call (.c (.func (.func 59) [])) [(.t 30)]) 28 true, og 32 (.un .not (.t 31)) 28 true, oo 33 (.pick (.t 28) (.t 32) (.c (.bool false)))]) (.cond (.t 33) (rg [mv 34 3, oo 35 (.fa 6 (.t 1)), oo 36 (.ld 1 false (.t 35)), oo 37 (.build [(.str []), (.str [])] [(0, (1, (.c (.str [108, 105, 110, 107, 112, 97, 116, 104])))), (1, (1, (.t 36)))]), oo 38 (.bslice 2 1 [(.str []), (.str [])] [(.t 37)]), oo 39 (.app 32 2 (.t 34) (.t 38)), mv 3 39]) .skip)) (.seq (.seq (rg [oo 40 (.fa 5 (.t 1)), oo 41 (.ld 1 false (.t 40)), cl 42 60 [(.t 41)], oo 43 (.un .not (.t 42))]) (.cond (.t 43) (rg [mv 44 3, oo 45 (.fa 5 (.t 1)), oo 46 (.ld 1 false (.t 45)), cl 47 47 [(.t 46)], oo 48 (.build [(.str []), (.str [])] [(0, (1, (.c (.str [109, 116, 105, 109, 101])))), (1, (1, (.t 47)))]), oo 49 (.bslice 2 1 [(.str []), (.str [])] [(.t 48)]), oo 50 (.app 32 2 (.t 44) (.t 49)), mv 3 50]) .skip)) (.seq (.seq (rg [mv 51 6, oo 52 (.un .not (.t 51))]) (.cond (.t 52) (rg [mv 53 3, oo 54 (.fa 0 (.t 1)), oo 55 (.ld 1 false (.t 54)), oo 56 (.build [(.str []), (.str [])] [(0, (1, (.c (.str [112, 97, 116, 104])))), (1, (1, (.t 55)))]), oo 57 (.bslice 2 1 [(.str []), (.str [])] [(.t 56)]), oo 58 (.app 32 2 (.t 53) (.t 57)), mv 3 58]) .skip)) (.seq (.seq (rg [oo 59 (.fa 3 (.t 1)), oo 60 (.ld 1 false (.t 59)), cl 61 58 [(.t 60)], oo 62 (.un .not (.t 61))]) (.cond (.t 62) (rg [mv 63 3, oo 64 (.fa 3 (.t 1)), oo 65 (.ld 1 false (.t 64)), cl 66 47 [(.t 65)], oo 67 (.build [(.str []), (.str [])] [(0, (1, (.c (.str [117, 105, 100])))), (1, (1, (.t 66)))]), oo 68 (.bslice 2 1 [(.str []), (.str [])] [(.t 67)]), oo 69 (.app 32 2 (.t 63) (.t 68)), mv 3 69]) .skip)) (.seq (rg [mv 70 3, mv 2 70]) .ret)))))))))⟩
theorem fn22 : AA.fn 22 = some b22 := by kernel_rfl
theorem np22 : AA.prim 22 = none := rfl
def l181_0 : ACode := (.seq (.seq (rg [mv 4 3, mv 5 0, oo 6 (.len 0 (.t 5)), oo 7 (.bin .lss .other false (.t 4) (.t 6))]) (.cond (.t 7) .skip (.exit 0))) (.seq (.block 1 (.seq (rg [mv 10 0, mv 11 3, oo 12 (.ixs (.t 10) (.t 11)), oo 13 (.bin .leq .other true (.t 12) (.c (.int .u8 32))), mv 14 13, og 15 (.mov (.t 0)) 14 false, og 16 (.mov (.t 3)) 14 false, og 17 (.ixs (.t 15) (.t 16)) 14 false, og 18 (.bin .geq .other true (.t 17) (.c (.int .u8 127))) 14 false, oo 19 (.pick (.t 14) (.c (.bool true)) (.t 18)), mv 20 19, og 21 (.mov (.t 0)) 20 false, og 22 (.mov (.t 3)) 20 false, og 23 (.ixs (.t 21) (.t 22)) 20 false, og 24 (.bin .eql .other true (.t 23) (.c (.int .u8 61))) 20 false, oo 25 (.pick (.t 20) (.c (.bool true)) (.t 24))]) (.cond (.t 25) (.seq (rg [oo 2 (.mov (.c (.bool false)))]) .ret) .skip))) (rg [mv 8 3, oo 9 (.bin .add .other true (.t 8) (ci 1)), mv 3 9])))
def r181_0 : ACode := (.seq (rg [mv 26 0, oo 27 (.len 0 (.t 26)), oo 28 (.bin .geq .other true (.t 27) (ci 1)), mv 29 28, og 30 (.mov (.t 0)) 29 true, og 31 (.len 0 (.t 30)) 29 true, og 32 (.bin .leq .other true (.t 31) (ci 100)) 29 true, oo 33 (.pick (.t 29) (.t 32) (.c (.bool false))), mv 2 33]) .ret)
def b181 : AFn := ⟨1, 34, [(2, none)], (.seq (rg [oo 2 (.mov (.c (.bool false)))]) (.seq (.seq (rg [oo 3 (.mov (ci 0))]) (.block 0 (.loop [0, 2, 3] l181_0))) r181_0))⟩
theorem fn181 : AA.fn 181 = some b181 := by kernel_rfl
theorem np181 : AA.prim 181 = none := rfl
def l138_0 : ACode := (.seq (.seq (rg [mv 23 7, oo 24 (.bin .leq .other true (.t 23) (ci 5))]) (.cond (.t 24) .skip (.exit 0))) (.seq (.block 1 (.seq (rg [mv 27 6, oo 28 (.len 0 (.t 27)), mv 29 7, oo 30 (.bin .add .other false (.t 28) (.t 29)), cl 31 47 [(.t 30)], mv 8 31]) (.seq (rg [mv 32 8, oo 33 (.len 0 (.t 32)), mv 34 7, oo 35 (.bin .eql .other false (.t 33) (.t 34)), mv 36 35, og 37 (.mov (.t 6)) 36 true, og 38 (.len 0 (.t 37)) 36 true, og 39 (.mov (.t 7)) 36 true, og 40 (.bin .add .other false (.t 38) (.t 39)) 36 true, og 41 (.bin .leq .other true (.t 40) (ci 65536)) 36 true, oo 42 (.pick (.t 36) (.t 41) (.c (.bool false)))]) (.cond (.t 42) (.seq (rg [mv 43 8, mv 44 6, oo 45 (.bin .add .other false (.t 43) (.t 44)), mv 4 45, oo 5 (.mov (ci 0))]) .ret) .skip)))) (rg [mv 25 7, oo 26 (.bin .add .other true (.t 25) (ci 1)), mv 7 26])))
def r138_0 : ACode := (.seq (rg [oo 4 (.mov (.c (.str []))), oo 5 (.mov (ci 15))]) .ret)
def b138 : AFn := ⟨2, 46, [(4, none), (5, none)], (.seq (rg [oo 4 (.mov (.c (.str []))), oo 5 (.mov (ci 0))]) (.seq (.seq (rg [mv 9 0, cl 10 181 [(.t 9)], oo 11 (.un .not (.t 10)), mv 12 11, og 13 (.mov (.t 1)) 12 false, og 14 (.len 0 (.t 13)) 12 false, og 15 (.bin .gtr .other true (.t 14) (ci 65536)) 12 false, oo 16 (.pick (.t 12) (.c (.bool true)) (.t 15))]) (.cond (.t 16) (.seq (rg [oo 4 (.mov (.c (.str []))), oo 5 (.mov (ci 15))]) .ret) .skip)) (.seq (rg [mv 17 0, oo 18 (.bin .add .other true (.c (.str [32])) (.t 17)), oo 19 (.bin .add .other true (.t 18) (.c (.str [61]))), mv 20 1, oo 21 (.bin .add .other false (.t 19) (.t 20)), oo 22 (.bin .add .other true (.t 21) (.c (.str [10]))), mv 6 22]) (.seq (.seq (rg [oo 7 (.mov (ci 1))]) (.block 0 (.loop [4, 5, 6, 7] l138_0))) r138_0))))⟩
theorem fn138 : AA.fn 138 = some b138 := by kernel_rfl
theorem np138 : AA.prim 138 = none := rfl
def l94_0 : ACode := (.seq (.seq (rg [mv 9 5, mv 10 0, oo 11 (.len 1 (.t 10)), oo 12 (.bin .lss .other false (.t 9) (.t 11))]) (.cond (.t 12) .skip (.exit 0))) (.seq (.block 1 (.seq (.reg true [(4, 5), (4, 6), (4, 7), (4, 8), (0, 9), (1, 9), (2, 9), (3, 9), (4, 9)] [mv 16 0, mv 17 5, oo 18 (.ixa 2 (.t 16) (.t 17)), oo 19 (.fa 0 (.t 18)), oo 20 (.ld 1 false (.t 19)), mv 21 0, mv 22 5, oo 23 (.ixa 2 (.t 21) (.t 22)), oo 24 (.fa 1 (.t 23)), oo 25 (.ld 1 false (.t 24)), cl 26 138 [(.t 20), (.t 25)], mv 15 26, oo 27 (.ext (.t 15) 0), oo 28 (.ext (.t 15) 1), mv 6 27, mv 7 28]) (.seq (.seq (.reg true [(10, 11), (10, 12), (10, 13), (10, 14), (10, 15), (6, 16), (7, 16), (8, 16), (9, 16), (10, 16)] [mv 29 7, oo 30 (.bin .neq .other true (.t 29) (ci 0)), mv 31 30, og 32 (.mov (.t 5)) 31 false, og 33 (.bin .gtr .other true (.t 32) (ci 0)) 31 false, og 34 (.mov (.t 33)) 31 false, og 35 (.mov (.t 0)) 34 true, og 36 (.mov (.t 5)) 34 true, og 37 (.ixa 2 (.t 35) (.t 36)) 34 true, og 38 (.fa 0 (.t 37)) 34 true, og 39 (.ld 1 false (.t 38)) 34 true, og 40 (.mov (.t 0)) 34 true, og 41 (.mov (.t 5)) 34 true, og 42 (.bin .sub .other true (.t 41) (ci 1)) 34 true, og 43 (.ixa 2 (.t 40) (.t 42)) 34 true, og 44 (.fa 0 (.t 43)) 34 true, og 45 (.ld 1 false (.t 44)) 34 true, og 46 (.bin .leq .other false (.t 39) (.t 45)) 34 true, og 47 (.pick (.t 34) (.t 46) (.c (.bool false))) 31 false, oo 48 (.pick (.t 31) (.c (.bool true)) (.t 47))]) (.cond (.t 48) (.seq (rg [oo 2 (.mov (.c (.lit (.slice none 0 0)))), oo 3 (.mov (ci 15))]) .ret) .skip)) (.seq (rg [mv 49 4, mv 50 6, oo 51 (.app 1 1 (.t 49) (.t 50)), mv 4 51]) (.seq (rg [mv 52 4, oo 53 (.len 1 (.t 52)), oo 54 (.bin .gtr .other true (.t 53) (ci 65536))]) (.cond (.t 54) (.seq (rg [oo 2 (.mov (.c (.lit (.slice none 0 0)))), oo 3 (.mov (ci 15))]) .ret) .skip)))))) (rg [mv 13 5, oo 14 (.bin .add .other true (.t 13) (ci 1)), mv 5 14])))
def r94_0 : ACode := (.seq (rg [mv 55 4, mv 2 55, oo 3 (.mov (ci 0))]) .ret)
def b94 : AFn := ⟨1, 56, [(2, none), (3, none)], (.seq (rg [oo 2 (.mov (.c (.lit (.slice none 0 0)))), oo 3 (.mov (ci 0))]) (.seq (rg [oo 8 (.bslice 1 0 [(.int .u8 0)] []), mv 4 8]) (.seq (.seq (rg [oo 5 (.mov (ci 0))]) (.block 0 (.loop [0, 2, 3, 4, 5] l94_0))) r94_0)))⟩
theorem fn94 : AA.fn 94 = some b94 := by kernel_rfl
theorem np94 : AA.prim 94 = none := rfl
def b139 : AFn := ⟨1, 87, [(2, none)], (.seq (rg [oo 1 (.box (.t 0)), oo 2 (.mov (.c (.bool false)))]) (.seq (rg [oo 7 (.fa 0 (.t 1)), oo 8 (.ld 1 false (.t 7)), cl 9 57 [(.t 8)], mv 6 9, oo 10 (.ext (.t 6) 0), oo 11 (.ext (.t 6) 1), oo 12 (.ext (.t 6) 2), mv 3 10, mv 4 11, mv 5 12]) (.seq (rg [mv 13 5, mv 14 13, og 15 (.fa 1 (.t 1)) 14 true, og 16 (.ld 1 false (.t 15)) 14 true, og 17 (.call (.c (.func (.func 58) [])) [(.t 16)]) 14 true, oo 18 (.pick (.t 14) (.t 17) (.c (.bool false))), mv 19 18, og 20 (.fa 2 (.t 1)) 19 true, og 21 (.ld 1 false (.t 20)) 19 true, og 22 (.call (.c (.func (.func 58) [])) [(.t 21)]) 19 true, oo 23 (.pick (.t 19) (.t 22) (.c (.bool false))), mv 24 23, og 25 (.fa 3 (.t 1)) 24 true, og 26 (.ld 1 false (.t 25)) 24 true, og 27 (.call (.c (.func (.func 58) [])) [(.t 26)]) 24 true, oo 28 (.pick (.t 24) (.t 27) (.c (.bool false))), mv 29 28, og 30 (.fa 4 (.t 1)) 29 true, og 31 (.ld 1 false (.t 30)) 29 true, og 32 (.call (.c (.func (.func 60) [])) [(.t 31)]) 29 true, oo 33 (.pick (.t 29) (.t 32) (.c (.bool false))), mv 34 33, og 35 (.fa 5 (.t 1)) 34 true, og 36 (.ld 1 false (.t 35)) 34 true, og 37 (.call (.c (.func (.func 60) [])) [(.t 36)]) 34 true, oo 38 (.pick (.t 34) (.t 37) (.c (.bool false))), mv 5 38]) (.seq (.seq (rg [oo 39 (.fa 6 (.t 1)), oo 40 (.ld 1 false (.t 39)), oo 41 (.bin .eql .other true (.t 40) (.c (.int .u8 49))), mv 42 41, og 43 (.fa 6 (.t 1)) 42 false, og 44 (.ld 1 false (.t 43)) 42 false, og 45 (.bin .eql .other true (.t 44) (.c (.int .u8 50))) 42 false, oo 46 (.pick (.t 42) (.c (.bool true)) (.t 45))]) (.cond (.t 46) (.seq (rg [mv 47 5, mv 48 47, og 49 (.fa 7 (.t 1)) 48 true, og 50 (.ld 1 false (.t 49)) 48 true, og 51 (.call (.c (.func (.func 59) [])) [(.t 50)]) 48 true, oo 52 (.pick (.t 48) (.t 51) (.c (.bool false))), mv 53 52, og 54 (.fa 4 (.t 1)) 53 true, og 55 (.ld 1 false (.t 54)) 53 true, og 56 (.bin .eql .other true (.t 55) (ci 0)) 53 true, oo 57 (.pick (.t 53) (.t 56) (.c (.bool false))), mv 2 57]) .ret) .skip)) (.seq (.seq (rg [oo 58 (.fa 6 (.t 1)), oo 59 (.ld 1 false (.t 58)), oo 60 (.bin .neq .other true (.t 59) (.c (.int .u8 48))), mv 61 60, og 62 (.fa 6 (.t 1)) 61 true, og 63 (.ld 1 false (.t 62)) 61 true, og 64 (.bin .neq .other true (.t 63) (.c (.int .u8 120))) 61 true, oo 65 (.pick (.t 61) (.t 64) (.c (.bool false))), mv 66 65, og 67 (.fa 6 (.t 1)) 66 true, og 68 (.ld 1 false (.t 67)) 66 true, og 69 (.bin .neq .other true (.t 68) (.c (.int .u8 53))) 66 true, oo 70 (.pick (.t 66) (.t 69) (.c (.bool false)))]) (.cond (.t 70) (.seq (rg [oo 2 (.mov (.c (.bool false)))]) .ret) .skip)) (.seq (rg [mv 71 5, mv 72 71, og 73 (.fa 7 (.t 1)) 72 true, og 74 (.ld 1 false (.t 73)) 72 true, og 75 (.bin .eql .other true (.t 74) (.c (.str []))) 72 true, oo 76 (.pick (.t 72) (.t 75) (.c (.bool false))), mv 77 76, og 78 (.fa 4 (.t 1)) 77 true, og 79 (.ld 1 false (.t 78)) 77 true, og 80 (.bin .eql .other true (.t 79) (ci 0)) 77 true, og 81 (.mov (.t 80)) 77 true, og 82 (.fa 6 (.t 1)) 81 false, og 83 (.ld 1 false (.t 82)) 81 false, og 84 (.bin .neq .other true (.t 83) (.c (.int .u8 53))) 81 false, og 85 (.pick (.t 81) (.c (.bool true)) (.t 84)) 77 true, oo 86 (.pick (.t 77) (.t 85) (.c (.bool false))), mv 2 86]) .ret))))))⟩
theorem fn139 : AA.fn 139 = some b139 := by kernel_rfl
theorem np139 : AA.prim 139 = none := rfl
def l141_0 : ACode := (.seq (.seq (rg [mv 7 6, mv 8 1, oo 9 (.bin .lss .other false (.t 7) (.t 8))]) (.cond (.t 9) .skip (.exit 0))) (.seq (.block 1 (.seq (rg [mv 12 0, oo 13 (.bin .rem .other true (.t 12) (ci 8)), oo 14 (.bin .add .other true (ci 48) (.t 13)), oo 15 (.cvi .u8 (.t 14)), oo 16 (.bslice 1 1 [(.int .u8 0)] [(.t 15)]), oo 17 (.cvbs (.t 16)), mv 18 5, oo 19 (.bin .add .other false (.t 17) (.t 18)), mv 5 19]) (rg [mv 20 0, oo 21 (.bin .quo .other true (.t 20) (ci 8)), mv 0 21]))) (rg [mv 10 6, oo 11 (.bin .add .other true (.t 10) (ci 1)), mv 6 11])))
def r141_0 : ACode := (.seq (rg [mv 22 5, mv 4 22]) .ret)
def b141 : AFn := ⟨2, 23, [(4, none)], (.seq (rg [oo 4 (.mov (.c (.str [])))]) (.seq (rg [oo 5 (.mov (.c (.str [])))]) (.seq (.seq (rg [oo 6 (.mov (ci 0))]) (.block 0 (.loop [0, 1, 4, 5, 6] l141_0))) r141_0)))⟩
theorem fn141 : AA.fn 141 = some b141 := by kernel_rfl
theorem np141 : AA.prim 141 = none := rfl
def l182_0 : ACode := (.seq (.seq (rg [mv 13 7, mv 14 2, oo 15 (.bin .lss .other false (.t 13) (.t 14))]) (.cond (.t 15) .skip (.exit 0))) (.seq (.block 1 (rg [mv 18 0, oo 19 (.bslice 1 1 [(.int .u8 0)] [(.c (.int .u8 0))]), oo 20 (.app 1 1 (.t 18) (.t 19)), mv 0 20])) (rg [mv 16 7, oo 17 (.bin .add .other true (.t 16) (ci 1)), mv 7 17])))
def r182_0 : ACode := (.seq (rg [mv 21 0, mv 6 21]) .ret)
def b182 : AFn := ⟨3, 22, [(6, none)], (.seq (rg [oo 6 (.mov (.c (.lit (.slice none 0 0))))]) (.seq (rg [mv 8 0, mv 9 1, oo 10 (.app 1 1 (.t 8) (.t 9)), mv 0 10]) (.seq (.seq (rg [mv 11 1, oo 12 (.len 0 (.t 11)), mv 7 12]) (.block 0 (.loop [0, 2, 6, 7] l182_0))) r182_0)))⟩
theorem fn182 : AA.fn 182 = some b182 := by kernel_rfl
theorem np182 : AA.prim 182 = none := rfl
def b140 : AFn := ⟨2, 71, [(4, none)], (.seq (rg [oo 2 (.box (.t 0)), oo 4 (.mov (.c (.lit (.slice none 0 0))))]) (.seq (rg [oo 10 (.fa 0 (.t 2)), oo 11 (.ld 1 false (.t 10)), cl 12 57 [(.t 11)], mv 9 12, oo 13 (.ext (.t 9) 0), oo 14 (.ext (.t 9) 1), oo 15 (.ext (.t 9) 2), mv 5 13, mv 6 14, mv 7 15]) (.seq (rg [oo 8 (.mov (.c (.lit (.slice none 0 0))))]) (.seq (rg [mv 16 8, mv 17 6, cl 18 182 [(.t 16), (.t 17), (ci 100)], mv 8 18]) (.seq (rg [mv 19 8, oo 20 (.fa 1 (.t 2)), oo 21 (.ld 1 false (.t 20)), cl 22 141 [(.t 21), (ci 7)], cl 23 182 [(.t 19), (.t 22), (ci 8)], mv 8 23]) (.seq (rg [mv 24 8, oo 25 (.fa 2 (.t 2)), oo 26 (.ld 1 false (.t 25)), cl 27 141 [(.t 26), (ci 7)], cl 28 182 [(.t 24), (.t 27), (ci 8)], mv 8 28]) (.seq (rg [mv 29 8, oo 30 (.fa 3 (.t 2)), oo 31 (.ld 1 false (.t 30)), cl 32 141 [(.t 31), (ci 7)], cl 33 182 [(.t 29), (.t 32), (ci 8)], mv 8 33]) (.seq (rg [mv 34 8, oo 35 (.fa 4 (.t 2)), oo 36 (.ld 1 false (.t 35)), cl 37 141 [(.t 36), (ci 11)], cl 38 182 [(.t 34), (.t 37), (ci 12)], mv 8 38]) (.seq (rg [mv 39 8, oo 40 (.fa 5 (.t 2)), oo 41 (.ld 1 false (.t 40)), cl 42 141 [(.t 41), (ci 11)], cl 43 182 [(.t 39), (.t 42), (ci 12)], mv 8 43]) (.seq (rg [mv 44 8, mv 45 1, oo 46 (.app 1 1 (.t 44) (.t 45)), mv 8 46]) (.seq (rg [mv 47 8, oo 48 (.fa 6 (.t 2)), oo 49 (.ld 1 false (.t 48)), oo 50 (.bslice 1 1 [(.int .u8 0)] [(.t 49)]), oo 51 (.app 1 1 (.t 47) (.t 50)), mv 8 51]) (.seq (rg [mv 52 8, oo 53 (.fa 7 (.t 2)), oo 54 (.ld 1 false (.t 53)), cl 55 182 [(.t 52), (.t 54), (ci 100)], mv 8 55]) (.seq (rg [mv 56 8, oo 57 (.call (.c (.func (.func 182) [])) [(.t 56), (.c (.str [117, 115, 116, 97, 114])), (ci 6)]), mv 8 57]) (.seq (rg [mv 58 8, oo 59 (.app 1 1 (.t 58) (.c (.str [48, 48]))), mv 8 59]) (.seq (rg [mv 60 8, oo 61 (.call (.c (.func (.func 182) [])) [(.t 60), (.c (.str [])), (ci 64)]), mv 8 61]) (.seq (rg [mv 62 8, oo 63 (.call (.c (.func (.func 182) [])) [(.t 62), (.c (.str [48, 48, 48, 48, 48, 48, 48])), (ci 8)]), mv 8 63]) (.seq (rg [mv 64 8, oo 65 (.call (.c (.func (.func 182) [])) [(.t 64), (.c (.str [48, 48, 48, 48, 48, 48, 48])), (ci 8)]), mv 8 65]) (.seq (rg [mv 66 8, mv 67 5, cl 68 182 [(.t 66), (.t 67), (ci 155)], mv 8 68]) (.seq (rg [mv 69 8, oo 70 (.call (.c (.func (.func 182) [])) [(.t 69), (.c (.str [])), (ci 12)]), mv 4 70]) .ret)))))))))))))))))))⟩
theorem fn140 : AA.fn 140 = some b140 := by kernel_rfl
theorem np140 : AA.prim 140 = none := rfl
def l95_0 : ACode := (.seq (.seq (rg [mv 12 6, mv 13 4, oo 14 (.len 1 (.t 13)), oo 15 (.bin .lss .other false (.t 12) (.t 14))]) (.cond (.t 15) .skip (.exit 0))) (.seq (.block 1 (rg [mv 18 5, mv 19 4, mv 20 6, oo 21 (.ixa 1 (.t 19) (.t 20)), oo 22 (.ld 1 false (.t 21)), oo 23 (.cvi .i64 (.t 22)), oo 24 (.bin .add .other false (.t 18) (.t 23)), mv 5 24])) (rg [mv 16 6, oo 17 (.bin .add .other true (.t 16) (ci 1)), mv 6 17])))
def r95_0 : ACode := (.seq (.reg true [(0, 1), (0, 2), (0, 3)] [oo 25 (.ld 8 true (.t 1)), mv 26 5, cl 27 141 [(.t 26), (ci 6)], oo 28 (.bin .add .other true (.t 27) (.c (.str [0, 32]))), cl 29 140 [(.t 25), (.t 28)], mv 2 29, oo 3 (.mov (ci 0))]) .ret)
def b95 : AFn := ⟨1, 30, [(2, none), (3, none)], (.seq (rg [oo 1 (.box (.t 0)), oo 2 (.mov (.c (.lit (.slice none 0 0)))), oo 3 (.mov (ci 0))]) (.seq (.seq (rg [oo 7 (.ld 8 true (.t 1)), cl 8 139 [(.t 7)], oo 9 (.un .not (.t 8))]) (.cond (.t 9) (.seq (rg [oo 2 (.mov (.c (.lit (.slice none 0 0)))), oo 3 (.mov (ci 14))]) .ret) .skip)) (.seq (rg [oo 10 (.ld 8 true (.t 1)), oo 11 (.call (.c (.func (.func 140) [])) [(.t 10), (.c (.str [32, 32, 32, 32, 32, 32, 32, 32]))]), mv 4 11]) (.seq (rg [oo 5 (.mov (ci 0))]) (.seq (.seq (rg [oo 6 (.mov (ci 0))]) (.block 0 (.loop [1, 2, 3, 4, 5, 6] l95_0))) r95_0)))))⟩
theorem fn95 : AA.fn 95 = some b95 := by kernel_rfl
theorem np95 : AA.prim 95 = none := rfl
def l96_0 : ACode := (.seq (.seq (rg [mv 8 0, oo 9 (.len 1 (.t 8)), oo 10 (.bin .rem .other true (.t 9) (ci 512)), oo 11 (.bin .neq .other true (.t 10) (ci 0))]) (.cond (.t 11) .skip (.exit 0))) (.block 1 (rg [mv 12 0, oo 13 (.bslice 1 1 [(.int .u8 0)] [(.c (.int .u8 0))]), oo 14 (.app 1 1 (.t 12) (.t 13)), mv 0 14])))
def r96_0 : ACode := (.seq (rg [mv 15 0, mv 4 15]) .ret)
def b96 : AFn := ⟨2, 16, [(4, none)], (.seq (rg [oo 4 (.mov (.c (.lit (.slice none 0 0))))]) (.seq (rg [mv 5 0, mv 6 1, oo 7 (.app 1 1 (.t 5) (.t 6)), mv 0 7]) (.seq (.block 0 (.loop [0, 4] l96_0)) r96_0)))⟩
theorem fn96 : AA.fn 96 = some b96 := by kernel_rfl
theorem np96 : AA.prim 96 = none := rfl
def b97 : AFn := ⟨1, 64, [(2, (some (8, true)))], (.seq (rg [oo 1 (.box (.t 0)), oo 2 (.alloc [(.str []), (.int .i64 0), (.int .i64 0), (.int .i64 0), (.int .i64 0), (.int .i64 0), (.int .u8 0), (.str [])])]) (.seq (rg [oo 3 (.mov (.c (.str [48, 53, 48, 50, 49])))]) (.seq (.reg true [(1, 2), (0, 3), (1, 3), (1, 4), (3, 4), (0, 5), (1, 5), (2, 5), (3, 5), (1, 6), (3, 6), (5, 6), (0, 7), (1, 7), (2, 7), (3, 7), (4, 7), (5, 7), (1, 8), (3, 8), (5, 8), (7, 8), (0, 9), (1, 9), (2, 9), (3, 9), (4, 9), (5, 9), (6, 9), (7, 9), (1, 10), (3, 10), (5, 10), (7, 10), (1, 11), (3, 11), (5, 11), (7, 11), (9, 11), (0, 12), (1, 12), (2, 12), (3, 12), (4, 12), (5, 12), (6, 12), (7, 12), (8, 12), (9, 12), (10, 12), (1, 13), (3, 13), (5, 13), (7, 13), (9, 13), (12, 13), (1, 14), (3, 14), (5, 14), (7, 14), (9, 14), (12, 14), (0, 15), (1, 15), (2, 15), (3, 15), (4, 15), (5, 15), (6, 15), (7, 15), (8, 15), (9, 15), (10, 15), (11, 15), (12, 15), (13, 15), (1, 16), (3, 16), (5, 16), (7, 16), (9, 16), (12, 16), (1, 17), (3, 17), (5, 17), (7, 17), (9, 17), (12, 17), (15, 17), (0, 18), (1, 18), (2, 18), (3, 18), (4, 18), (5, 18), (6, 18), (7, 18), (8, 18), (9, 18), (10, 18), (11, 18), (12, 18), (13, 18), (14, 18), (15, 18), (16, 18), (0, 20), (1, 20), (2, 20), (3, 20), (4, 20), (5, 20), (6, 20), (7, 20), (8, 20), (9, 20), (10, 20), (11, 20), (12, 20), (13, 20), (14, 20), (15, 20), (16, 20), (17, 20), (18, 20), (19, 20)] [oo 8 (.fa 0 (.t 1)), oo 9 (.ld 1 false (.t 8)), oo 10 (.fa 2 (.t 1)), oo 11 (.ld 1 false (.t 10)), oo 12 (.fa 3 (.t 1)), oo 13 (.ld 1 false (.t 12)), oo 14 (.fa 4 (.t 1)), oo 15 (.ld 1 false (.t 14)), oo 16 (.fa 7 (.t 1)), oo 17 (.ld 1 false (.t 16)), oo 18 (.len 1 (.t 17)), oo 19 (.fa 5 (.t 1)), oo 20 (.ld 1 false (.t 19)), mv 21 3, oo 22 (.fa 1 (.t 1)), oo 23 (.ld 1 false (.t 22)), oo 24 (.ixs (.t 21) (.t 23)), oo 25 (.fa 6 (.t 1)), oo 26 (.ld 1 false (.t 25)), oo 27 (.build [(.str []), (.int .i64 0), (.int .i64 0), (.int .i64 0), (.int .i64 0), (.int .i64 0), (.int .u8 0), (.str [])] [(0, (1, (.t 9))), (1, (1, (.t 11))), (2, (1, (.t 13))), (3, (1, (.t 15))), (4, (1, (.t 18))), (5, (1, (.t 20))), (6, (1, (.t 24))), (7, (1, (.t 26)))]), oo 4 (.alloc [(.str []), (.int .i64 0), (.int .i64 0), (.int .i64 0), (.int .i64 0), (.int .i64 0), (.int .u8 0), (.str [])]), ⟨none, (.st 8 (.t 4) (.t 27)), none⟩]) (.seq (rg [oo 29 (.fa 0 (.t 1)), oo 30 (.ld 1 false (.t 29)), cl 31 57 [(.t 30)], mv 28 31, oo 32 (.ext (.t 28) 0), oo 33 (.ext (.t 28) 1), oo 34 (.ext (.t 28) 2), mv 5 32, mv 6 33, mv 7 34]) (.seq (.seq (rg [mv 35 7, oo 36 (.un .not (.t 35))]) (.cond (.t 36) (rg [oo 37 (.fa 0 (.t 4)), ⟨none, (.st 1 (.t 37) (.c (.str [112, 97, 120]))), none⟩]) .skip)) (.seq (.seq (rg [oo 38 (.fa 6 (.t 1)), oo 39 (.ld 1 false (.t 38)), oo 40 (.bin .neq .other true (.t 39) (.c (.str []))), mv 41 40, og 42 (.fa 6 (.t 1)) 41 true, og 43 (.ld 1 false (.t 42)) 41 true, og 44 (.call (.c (.func (.func 59) [])) [(.t 43)]) 41 true, og 45 (.un .not (.t 44)) 41 true, oo 46 (.pick (.t 41) (.t 45) (.c (.bool false)))]) (.cond (.t 46) (rg [oo 47 (.fa 7 (.t 4)), ⟨none, (.st 1 (.t 47) (.c (.str [112, 97, 120]))), none⟩]) .skip)) (.seq (.seq (rg [oo 48 (.fa 3 (.t 1)), oo 49 (.ld 1 false (.t 48)), cl 50 58 [(.t 49)], oo 51 (.un .not (.t 50))]) (.cond (.t 51) (rg [oo 52 (.fa 2 (.t 4)), ⟨none, (.st 1 (.t 52) (ci 0)), none⟩]) .skip)) (.seq (.seq (rg [oo 53 (.fa 4 (.t 1)), oo 54 (.ld 1 false (.t 53)), cl 55 58 [(.t 54)], oo 56 (.un .not (.t 55))]) (.cond (.t 56) (rg [oo 57 (.fa 3 (.t 4)), ⟨none, (.st 1 (.t 57) (ci 0)), none⟩]) .skip)) (.seq (.seq (rg [oo 58 (.fa 5 (.t 1)), oo 59 (.ld 1 false (.t 58)), cl 60 60 [(.t 59)], oo 61 (.un .not (.t 60))]) (.cond (.t 61) (rg [oo 62 (.fa 5 (.t 4)), ⟨none, (.st 1 (.t 62) (ci 0)), none⟩]) .skip)) (.seq (rg [oo 63 (.ld 8 true (.t 4)), ⟨none, (.st 8 (.t 2) (.t 63)), none⟩]) .ret))))))))))⟩
theorem fn97 : AA.fn 97 = some b97 := by kernel_rfl
theorem np97 : AA.prim 97 = none := rfl
def b53 : AFn := ⟨3, 51, [(6, none)], (.seq (rg [oo 5 (.box (.t 2)), oo 6 (.mov (.c (.lit (.slice none 0 0))))]) (.seq (rg [oo 14 (.ld 8 true (.t 5)), cl 15 22 [(.t 14)], mv 7 15]) (.seq (.seq (rg [mv 16 7, oo 17 (.len 1 (.t 16)), oo 18 (.bin .gtr .other true (.t 17) (ci 0))]) (.cond (.t 18) (.seq (rg [mv 20 7, cl 21 94 [(.t 20)], mv 19 21, oo 22 (.ext (.t 19) 0), oo 23 (.ext (.t 19) 1), mv 8 22, mv 9 23]) (.seq (rg [mv 25 1, cl 26 47 [(.t 25)], oo 27 (.bin .add .other true (.c (.str [112, 97, 120, 47])) (.t 26)), mv 28 8, oo 29 (.len 1 (.t 28)), oo 30 (.build [(.str []), (.int .i64 0), (.int .i64 0), (.int .i64 0), (.int .i64 0), (.int .i64 0), (.int .u8 0), (.str [])] [(0, (1, (.t 27))), (4, (1, (.t 29))), (6, (1, (.c (.int .u8 120))))]), cl 31 95 [(.t 30)], mv 24 31, oo 32 (.ext (.t 24) 0), oo 33 (.ext (.t 24) 1), mv 10 32, mv 11 33]) (rg [mv 34 0, mv 35 10, oo 36 (.app 1 1 (.t 34) (.t 35)), mv 37 8, cl 38 96 [(.t 36), (.t 37)], mv 0 38]))) .skip)) (.seq (rg [oo 40 (.ld 8 true (.t 5)), cl 41 97 [(.t 40)], cl 42 95 [(.t 41)], mv 39 42, oo 43 (.ext (.t 39) 0), oo 44 (.ext (.t 39) 1), mv 12 43, mv 13 44]) (.seq (.reg true [(2, 3), (0, 4), (1, 4), (2, 4)] [mv 45 0, mv 46 12, oo 47 (.app 1 1 (.t 45) (.t 46)), oo 48 (.fa 7 (.t 5)), oo 49 (.ld 1 false (.t 48)), cl 50 96 [(.t 47), (.t 49)], mv 6 50]) .ret)))))⟩
theorem fn53 : AA.fn 53 = some b53 := by kernel_rfl
theorem np53 : AA.prim 53 = none := rfl
def l18_0 : ACode := (.seq (.seq (rg [mv 17 7, mv 18 0, oo 19 (.len 1 (.t 18)), oo 20 (.bin .lss .other false (.t 17) (.t 19))]) (.cond (.t 20) .skip (.exit 0))) (.seq (.block 1 (rg [mv 23 6, mv 24 7, mv 25 0, mv 26 7, oo 27 (.ixa 8 (.t 25) (.t 26)), oo 28 (.ld 8 true (.t 27)), cl 29 53 [(.t 23), (.t 24), (.t 28)], mv 6 29])) (rg [mv 21 7, oo 22 (.bin .add .other true (.t 21) (ci 1)), mv 7 22])))
def r18_0 : ACode := (.seq (rg [mv 30 6, oo 31 (.appz 1 1 [(.int .u8 0)] (.t 30) (ci 1024)), mv 2 31, oo 3 (.mov (ci 0))]) .ret)
def b18 : AFn := ⟨1, 32, [(2, none), (3, none)], (.seq (rg [oo 2 (.mov (.c (.lit (.slice none 0 0)))), oo 3 (.mov (ci 0))]) (.seq (rg [mv 9 0, cl 10 41 [(.t 9)], mv 8 10, oo 11 (.ext (.t 8) 0), oo 12 (.ext (.t 8) 1), mv 4 11, mv 5 12]) (.seq (.seq (rg [mv 13 5, oo 14 (.bin .neq .other true (.t 13) (ci 0))]) (.cond (.t 14) (.seq (rg [mv 15 5, oo 2 (.mov (.c (.lit (.slice none 0 0)))), mv 3 15]) .ret) .skip)) (.seq (rg [oo 16 (.bslice 1 0 [(.int .u8 0)] []), mv 6 16]) (.seq (.seq (rg [oo 7 (.mov (ci 0))]) (.block 0 (.loop [0, 2, 3, 6, 7] l18_0))) r18_0)))))⟩
theorem fn18 : AA.fn 18 = some b18 := by kernel_rfl
theorem np18 : AA.prim 18 = none := rfl
def b54 : AFn := ⟨2, 61, [(4, none)], (.seq (rg [oo 2 (.box (.t 0)), oo 3 (.box (.t 1)), oo 4 (.mov (.c (.bool false)))]) (.seq (rg [oo 5 (.fa 0 (.t 2)), oo 6 (.ld 1 false (.t 5)), oo 7 (.fa 0 (.t 3)), oo 8 (.ld 1 false (.t 7)), oo 9 (.bin .eql .other false (.t 6) (.t 8)), mv 10 9, og 11 (.fa 1 (.t 2)) 10 true, og 12 (.ld 1 false (.t 11)) 10 true, og 13 (.fa 1 (.t 3)) 10 true, og 14 (.ld 1 false (.t 13)) 10 true, og 15 (.bin .eql .other false (.t 12) (.t 14)) 10 true, oo 16 (.pick (.t 10) (.t 15) (.c (.bool false))), mv 17 16, og 18 (.fa 2 (.t 2)) 17 true, og 19 (.ld 1 false (.t 18)) 17 true, og 20 (.fa 2 (.t 3)) 17 true, og 21 (.ld 1 false (.t 20)) 17 true, og 22 (.bin .eql .other false (.t 19) (.t 21)) 17 true, oo 23 (.pick (.t 17) (.t 22) (.c (.bool false))), mv 24 23, og 25 (.fa 3 (.t 2)) 24 true, og 26 (.ld 1 false (.t 25)) 24 true, og 27 (.fa 3 (.t 3)) 24 true, og 28 (.ld 1 false (.t 27)) 24 true, og 29 (.bin .eql .other false (.t 26) (.t 28)) 24 true, oo 30 (.pick (.t 24) (.t 29) (.c (.bool false))), mv 31 30, og 32 (.fa 4 (.t 2)) 31 true, og 33 (.ld 1 false (.t 32)) 31 true, og 34 (.fa 4 (.t 3)) 31 true, og 35 (.ld 1 false (.t 34)) 31 true, og 36 (.bin .eql .other false (.t 33) (.t 35)) 31 true, oo 37 (.pick (.t 31) (.t 36) (.c (.bool false))), mv 38 37, og 39 (.fa 5 (.t 2)) 38 true, og 40 (.ld 1 false (.t 39)) 38 true, og 41 (.fa 5 (.t 3)) 38 true, og 42 (.ld 1 false (.t 41)) 38 true, og 43 (.bin .eql .other false (.t 40) (.t 42)) 38 true, oo 44 (.pick (.t 38) (.t 43) (.c (.bool false))), mv 45 44, og 46 (.fa 6 (.t 2)) 45 true, og 47 (.ld 1 false (.t 46)) 45 true, og 48 (.fa 6 (.t 3)) 45 true, og 49 (.ld 1 false (.t 48)) 45 true, og 50 (.bin .eql .other false (.t 47) (.t 49)) 45 true, oo 51 (.pick (.t 45) (.t 50) (.c (.bool false))), mv 52 51, og 53 (.fa 7 (.t 2)) 52 true, og 54 (.ld 1 false (.t 53)) 52 true, og 55 (.cvbs (.t 54)) 52 true, og 56 (.fa 7 (.t 3)) 52 true, og 57 (.ld 1 false (.t 56)) 52 true, og 58 (.cvbs (.t 57)) 52 true, og 59 (.bin .eql .other false (.t 55) (.t 58)) 52 true, oo 60 (.pick (.t 52) (.t 59) (.c (.bool false))), mv 4 60]) .ret))⟩
theorem fn54 : AA.fn 54 = some b54 := by kernel_rfl
theorem np54 : AA.prim 54 = none := rfl
def l20_0 : ACode := (.seq (.seq (rg [mv 11 5, mv 12 0, oo 13 (.len 1 (.t 12)), oo 14 (.bin .lss .other false (.t 11) (.t 13))]) (.cond (.t 14) .skip (.exit 0))) (.seq (.block 1 (.seq (.reg true [(3, 4), (3, 5), (3, 6), (0, 7), (1, 7), (2, 7), (3, 7)] [mv 17 0, mv 18 5, oo 19 (.ixa 8 (.t 17) (.t 18)), oo 20 (.ld 8 true (.t 19)), mv 21 1, mv 22 5, oo 23 (.ixa 8 (.t 21) (.t 22)), oo 24 (.ld 8 true (.t 23)), cl 25 54 [(.t 20), (.t 24)], oo 26 (.un .not (.t 25))]) (.cond (.t 26) (.seq (rg [oo 4 (.mov (.c (.bool false)))]) .ret) .skip))) (rg [mv 15 5, oo 16 (.bin .add .other true (.t 15) (ci 1)), mv 5 16])))
def r20_0 : ACode := (.seq (rg [oo 4 (.mov (.c (.bool true)))]) .ret)
def b20 : AFn := ⟨2, 27, [(4, none)], (.seq (rg [oo 4 (.mov (.c (.bool false)))]) (.seq (.seq (rg [mv 6 0, oo 7 (.len 1 (.t 6)), mv 8 1, oo 9 (.len 1 (.t 8)), oo 10 (.bin .neq .other false (.t 7) (.t 9))]) (.cond (.t 10) (.seq (rg [oo 4 (.mov (.c (.bool false)))]) .ret) .skip)) (.seq (.seq (rg [oo 5 (.mov (ci 0))]) (.block 0 (.loop [0, 1, 4, 5] l20_0))) r20_0)))⟩
theorem fn20 : AA.fn 20 = some b20 := by kernel_rfl
theorem np20 : AA.prim 20 = none := rfl
end Go.Abs
namespace Go.Abs
open Am
set_option maxRecDepth 10000
@[go_sem high] theorem aBin_saddc {e : EqK} {c : Bool} {s t : List UInt8} (h : s.length + t.length ≤ 4611686018427387904) : aBin .add e c (.str s) (.str t) = some (.str (s ++ t)) := by
 rw [aBin_sadd]
 exact if_pos h
theorem s56 (n : Int) (h1 : -9223372036854775808 ≤ n) (h2 : n ≤ 9223372036854775807) : callT AA 56 [.int .i64 n] [] = some (.str (Lib.itoa n), []) := by
 have h := call98 h1 h2
 refine enter fn56 np56 rfl ?_
 have gg:=trivial;repeat' first|simp (maxSteps:=2000000) (disch:=omega) only [gg,b56,h,go_sem]|(refine br ?_ ?_<;>intro gg<;>try omega)|(apply And.intro;focus omega)|omega
theorem itoa_length {n : Int} (h : 0 ≤ n) : (Lib.itoa n).length = Lib.nDigits n.toNat := by
 unfold Lib.itoa
 rw [if_neg (by omega), Lib.decDigits_length]
theorem nDigits_mono : ∀ {u v : Nat}, u ≤ v → Lib.nDigits u ≤ Lib.nDigits v := by
 intro u
 induction u using Nat.strongRecOn with
 | _ u ih =>
  intro v h
  by_cases hu : u < 10
  ·rw [Lib.nDigits_small hu]
   exact Lib.nDigits_pos v
  ·rw [Lib.nDigits_big hu, Lib.nDigits_big (by omega : ¬ v < 10)]
   have := ih (u / 10) (by omega) (v := v / 10) (by omega)
   omega
theorem nDigits_le7 {u : Nat} (h : u < 10000000) : Lib.nDigits u ≤ 7 := by
 have h1 := nDigits_mono (u := u) (v := 9999999) (by omega)
 have h2 : Lib.nDigits 9999999 = 7 := Lib.nDigits_unique 6 9999999 (by decide) (by decide)
 omega
def digs (n : Int) : Int := ((Lib.itoa n).length : Int)
theorem digs_pos {n : Int} (h : 0 ≤ n) : 1 ≤ digs n := by
 have := Lib.nDigits_pos n.toNat
 rw [digs, itoa_length h]
 omega
theorem digs_mono {a b : Int} (h : 0 ≤ a) (h' : a ≤ b) : digs a ≤ digs b := by
 have := nDigits_mono (u := a.toNat) (v := b.toNat) (by omega)
 rw [digs, digs, itoa_length h, itoa_length (by omega)]
 omega
theorem digs_le7 {a : Int} (h : 0 ≤ a) (h' : a < 10000000) : digs a ≤ 7 := by
 have := nDigits_le7 (u := a.toNat) (by omega)
 rw [digs, itoa_length h]
 omega
def lenF (rest : Int) : Nat → Int → Int
 | 0, n => n
 | k + 1, n => if n = rest + digs n then n else lenF rest k (rest + digs n)
def paxLen (rest : Int) : Int := lenF rest 6 (rest + 1)
theorem h158 (rest : Int) (hr : 0 ≤ rest) (hr' : rest ≤ 1000000) (r0 : Int) : ∀ (k : Nat) (n d : Int), n = rest + d → 7 ≤ d + k → 1 ≤ d → d ≤ 7 → d ≤ digs n → r0 = lenF rest k n →
  HD AA 0 [0, 2, 3] l158_0 ⟨[.int .i64 rest, .junk, .int .i64 0, .int .i64 n, .junk, .junk, .junk, .junk, .junk, .junk, .junk, .junk, .junk, .junk, .junk, .junk, .junk, .junk, .junk], [], 0⟩ [.blk 0, .code r158_0] (Fin [(2, none)] 0 (.int .i64 r0) [])
 | 0, n, d, h1, h2, h3, h3', h4, h5 => by
  have h6 := digs_le7 (a := n) (by omega) (by omega)
  have hs := s56 n (by omega) (by omega)
  have h7 : ((Lib.itoa n).length : Int) = digs n := rfl
  refine hd_of (by unfold l158_0; rfl) ?_
  have gg:=trivial;repeat' first|simp (maxSteps:=2000000) (disch:=omega) only [gg,hs,h7,r158_0,go_sem]|(refine br ?_ ?_<;>intro gg<;>try omega)|(apply And.intro;focus omega)|omega
  simp [h5, lenF]
 | k + 1, n, d, h1, h2, h3, h3', h4, h5 => by
  have h6 := digs_le7 (a := n) (by omega) (by omega)
  have hs := s56 n (by omega) (by omega)
  have h7 : ((Lib.itoa n).length : Int) = digs n := rfl
  refine hd_of (by unfold l158_0; rfl) ?_
  unfold lenF at h5
  by_cases hn : n = rest + digs n
  ·rw [if_pos hn] at h5
   have gg:=trivial;repeat' first|simp (maxSteps:=2000000) (disch:=omega) only [gg,hs,h7,r158_0,go_sem]|(refine br ?_ ?_<;>intro gg<;>try omega)|(apply And.intro;focus omega)|omega
   simp [h5]
  ·rw [if_neg hn] at h5
   have hd : d < digs n := by omega
   have hm := digs_mono (a := n) (b := rest + digs n) (by omega) (by omega)
   have ih := h158 rest hr hr' r0 k (rest + digs n) (digs n) rfl (by omega) (by omega) h6 hm h5
   have gg:=trivial;repeat' first|simp (maxSteps:=2000000) (disch:=omega) only [gg,hs,h7,lp_head,go_sem]|(refine br ?_ ?_<;>intro gg<;>try omega)|(apply And.intro;focus omega)|omega
theorem s158 (rest : Int) (hr : 0 ≤ rest) (hr' : rest ≤ 1000000) : callT AA 158 [.int .i64 rest] [] = some (.int .i64 (paxLen rest), []) := by
 have h1 := digs_pos (n := rest + 1) (by omega)
 refine enter fn158 np158 rfl ?_
 have gg:=trivial;repeat' first|simp (maxSteps:=2000000) (disch:=omega) only [gg,b158,lp_head,go_sem]|(refine br ?_ ?_<;>intro gg<;>try omega)|(apply And.intro;focus omega)|omega
 exact h158 rest hr hr' _ 6 (rest + 1) 1 rfl (by omega) (by omega) (by omega) h1 rfl
theorem lenF_le (rest : Int) (hr : 0 ≤ rest) (hr' : rest ≤ 1000000) : ∀ (k : Nat) (n d : Int), n = rest + d → 1 ≤ d → d ≤ 7 → rest < lenF rest k n ∧ lenF rest k n ≤ rest + 7
 | 0, n, d, h1, h2, h3 => by
  unfold lenF
  omega
 | k + 1, n, d, h1, h2, h3 => by
  have h4 := digs_pos (n := n) (by omega)
  have h5 := digs_le7 (a := n) (by omega) (by omega)
  have ih := lenF_le rest hr hr' k (rest + digs n) (digs n) rfl h4 h5
  unfold lenF
  split
  ·omega
  ·exact ih
theorem paxLen_le {rest : Int} (hr : 0 ≤ rest) (hr' : rest ≤ 1000000) : rest < paxLen rest ∧ paxLen rest ≤ rest + 7 := lenF_le rest hr hr' 6 _ 1 rfl (by omega) (by omega)
def kwByte (b : UInt8) : Bool := decide (33 ≤ (b.toNat : Int)) && decide ((b.toNat : Int) ≤ 126) && decide ((b.toNat : Int) ≠ 61)
def kwB (s : List UInt8) : Bool := decide (s ≠ []) && decide (s.length ≤ 100) && s.all kwByte
theorem h157 (s : List UInt8) (hs : s.length ≤ 1000000) (r0 : Bool) : ∀ (rest done : List UInt8) (n i : Int), s = done ++ rest → i = done.length → n = s.length → r0 = rest.all kwByte →
  HD AA 0 [0, 2, 12, 13] l157_0 ⟨[.str s, .junk, .bool false, .junk, .junk, .junk, .junk, .junk, .junk, .junk, .junk, .junk, .int .i64 n, .int .i64 i, .junk, .junk, .junk, .junk, .junk, .junk, .junk, .junk, .junk, .junk, .junk, .junk, .junk, .junk, .junk, .junk, .junk, .junk, .junk], [], 0⟩ [.blk 0, .code r157_0] (Fin [(2, none)] 0 (.bool r0) [])
 | [], done, n, i, h1, h2, h3, h4 => by
  subst h1
  simp at h3
  refine hd_of (by unfold l157_0; rfl) ?_
  have gg:=trivial;repeat' first|simp (maxSteps:=2000000) (disch:=omega) only [gg,r157_0,go_sem]|(refine br ?_ ?_<;>intro gg<;>try omega)|(apply And.intro;focus omega)|omega
  simp [h4]
 | x :: r, done, n, i, h1, h2, h3, h4 => by
  have hg0 : s[i.toNat]? = some x := by
   rw [h1]
   simp [h2]
  have hl : i.toNat < s.length := by rw [h1]; simp; omega
  have hx := x.toNat_lt
  refine hd_of (by unfold l157_0; rfl) ?_
  rw [List.all_cons] at h4
  cases hk : kwByte x with
  | true =>
   rw [hk, Bool.true_and] at h4
   simp only [kwByte, Bool.and_eq_true, decide_eq_true_eq] at hk
   have ih := h157 s hs r0 r (done ++ [x]) n (i + 1) (by simp [h1]) (by first | omega | (simp; omega) | (simp; done)) h3 h4
   have gg:=trivial;repeat' first|simp (maxSteps:=2000000) (disch:=omega) only [gg,hg0,lp_head,go_sem]|(refine br ?_ ?_<;>intro gg<;>try omega)|(apply And.intro;focus omega)|omega
  | false =>
   rw [hk, Bool.false_and] at h4
   simp only [kwByte, Bool.and_eq_false_iff, decide_eq_false_iff_not] at hk
   have gg:=trivial;repeat' first|simp (maxSteps:=2000000) (disch:=omega) only [gg,hg0,lp_head,go_sem]|(refine br ?_ ?_<;>intro gg<;>try omega)|(apply And.intro;focus omega)|omega
   all_goals simp [h4]
theorem s157 (s : List UInt8) (hs : s.length ≤ 1000000) : callT AA 157 [.str s] [] = some (.bool (kwB s), []) := by
 refine enter fn157 np157 rfl ?_
 unfold kwB
 by_cases h0 : s = []
 ·subst h0
  have gg:=trivial;repeat' first|simp (maxSteps:=2000000) (disch:=omega) only [gg,b157,go_sem]|(refine br ?_ ?_<;>intro gg<;>try omega)|(apply And.intro;focus omega)|omega
  simp
 ·by_cases h1 : s.length ≤ 100
  ·have gg:=trivial;repeat' first|simp (maxSteps:=2000000) (disch:=omega) only [gg,b157,h0,lp_head,go_sem]|(refine br ?_ ?_<;>intro gg<;>try omega)|(apply And.intro;focus omega)|omega
   refine h157 s hs _ s [] _ _ rfl rfl rfl ?_
   simp [h0, h1]
  ·have gg:=trivial;repeat' first|simp (maxSteps:=2000000) (disch:=omega) only [gg,b157,h0,lp_head,go_sem]|(refine br ?_ ?_<;>intro gg<;>try omega)|(apply And.intro;focus omega)|omega
def restP (k v : List UInt8) : List UInt8 := 32 :: (k ++ [61] ++ v ++ [10])
def lineB (k v : List UInt8) : List UInt8 := Lib.itoa (paxLen (restP k v).length) ++ restP k v
def lineOk (k v : List UInt8) : Bool := kwB k && decide (v.length ≤ 65536) && decide (paxLen (restP k v).length ≤ 65536)
theorem restP_length {k v : List UInt8} : (restP k v).length = k.length + v.length + 3 := by
 simp [restP]
 omega
theorem restP_eq {k v : List UInt8} : 32 :: (k ++ [61] ++ v ++ [10]) = restP k v := rfl
theorem s121 (k v : List UInt8) (hk : k.length ≤ 1000000) (hv : v.length ≤ 1000000) : callT AA 121 [.str k, .str v] [] = some (if lineOk k v = true then .tuple [.str (lineB k v), .lit .nilIface] else .tuple [.str [], .iface 58 (.int .i64 15)], []) := by
 have h1 := s157 k hk
 have hl := restP_length (k := k) (v := v)
 refine enter fn121 np121 rfl ?_
 unfold lineOk
 by_cases h2 : kwB k = true
 ·have h3 : k.length ≤ 100 := by
   simp only [kwB, Bool.and_eq_true, decide_eq_true_eq] at h2
   exact h2.1.2
  by_cases h4 : v.length ≤ 65536
  ·have h5 := s158 ((restP k v).length : Int) (by omega) (by omega)
   have h6 := paxLen_le (rest := ((restP k v).length : Int)) (by omega) (by omega)
   have h7 := s56 (paxLen (restP k v).length) (by omega) (by omega)
   have h9 : (Lib.itoa (paxLen (restP k v).length)).length ≤ 7 := by
    have := digs_le7 (a := paxLen (restP k v).length) (by omega) (by omega)
    unfold digs at this
    omega
   rw [h2]
   by_cases h8 : paxLen (restP k v).length ≤ 65536
   ·have e : (if (true && decide (v.length ≤ 65536) && decide (paxLen (restP k v).length ≤ 65536)) = true then AVal.tuple [.str (lineB k v), .lit .nilIface] else .tuple [.str [], .iface 58 (.int .i64 15)]) = .tuple [.str (lineB k v), .lit .nilIface] := if_pos (by simp [h4, h8])
    rw [e]
    simp only [lineB]
    rw [h2] at h1
    generalize hq : paxLen (restP k v).length = q at *
    generalize hR : restP k v = R at *
    have gg:=trivial;repeat' first|simp (maxSteps:=2000000) (disch:=omega) only [gg,b121,h1,restP_eq,hR,h5,h7,go_sem]|(refine br ?_ ?_<;>intro gg<;>try omega)|(apply And.intro;focus omega)|omega
   ·have e : (if (true && decide (v.length ≤ 65536) && decide (paxLen (restP k v).length ≤ 65536)) = true then AVal.tuple [.str (lineB k v), .lit .nilIface] else .tuple [.str [], .iface 58 (.int .i64 15)]) = .tuple [.str [], .iface 58 (.int .i64 15)] := if_neg (by simp [h8])
    rw [e]
    rw [h2] at h1
    generalize hq : paxLen (restP k v).length = q at *
    generalize hR : restP k v = R at *
    have gg:=trivial;repeat' first|simp (maxSteps:=2000000) (disch:=omega) only [gg,b121,h1,restP_eq,hR,h5,h7,go_sem]|(refine br ?_ ?_<;>intro gg<;>try omega)|(apply And.intro;focus omega)|omega
  ·have e : (if (kwB k && decide (v.length ≤ 65536) && decide (paxLen (restP k v).length ≤ 65536)) = true then AVal.tuple [.str (lineB k v), .lit .nilIface] else .tuple [.str [], .iface 58 (.int .i64 15)]) = .tuple [.str [], .iface 58 (.int .i64 15)] := if_neg (by simp [h4])
   rw [e]
   rw [h2] at h1
   have gg:=trivial;repeat' first|simp (maxSteps:=2000000) (disch:=omega) only [gg,b121,h1,go_sem]|(refine br ?_ ?_<;>intro gg<;>try omega)|(apply And.intro;focus omega)|omega
 ·have h2' : kwB k = false := by simpa using h2
  have e : (if (kwB k && decide (v.length ≤ 65536) && decide (paxLen (restP k v).length ≤ 65536)) = true then AVal.tuple [.str (lineB k v), .lit .nilIface] else .tuple [.str [], .iface 58 (.int .i64 15)]) = .tuple [.str [], .iface 58 (.int .i64 15)] := if_neg (by simp [h2'])
  rw [e]
  rw [h2'] at h1
  have gg:=trivial;repeat' first|simp (maxSteps:=2000000) (disch:=omega) only [gg,b121,h1,go_sem]|(refine br ?_ ?_<;>intro gg<;>try omega)|(apply And.intro;focus omega)|omega
theorem lineB_length {k v : List UInt8} (hk : k.length ≤ 100) (hv : v.length ≤ 65536) : (lineB k v).length ≤ k.length + v.length + 10 := by
 have hl := restP_length (k := k) (v := v)
 have h6 := paxLen_le (rest := ((restP k v).length : Int)) (by omega) (by omega)
 have := digs_le7 (a := paxLen (restP k v).length) (by omega) (by omega)
 unfold digs at this
 unfold lineB
 rw [List.length_append]
 omega
end Go.Abs
namespace Go.Abs
open Am Lib
set_option maxRecDepth 10000
def kwOk (b : UInt8) : Bool := decide (32 < b.toNat ∧ b.toNat < 127 ∧ b.toNat ≠ 61)
theorem h181 (s : List UInt8) (hs : s.length ≤ 1000000) (v : Bool) : ∀ (rest pre : List UInt8) (i : Int), s = pre ++ rest → i = pre.length → v = (rest.all kwOk && (decide (1 ≤ (s.length : Int)) && decide ((s.length : Int) ≤ 100))) →
  HD AA 0 [0, 2, 3] l181_0 ⟨[.str s, .junk, .bool false, .int .i64 i, .junk, .junk, .junk, .junk, .junk, .junk, .junk, .junk, .junk, .junk, .junk, .junk, .junk, .junk, .junk, .junk, .junk, .junk, .junk, .junk, .junk, .junk, .junk, .junk, .junk, .junk, .junk, .junk, .junk, .junk], [], 0⟩ [.blk 0, .code r181_0] (Fin [(2, none)] 0 (.bool v) [])
 | [], pre, i, h1, h2, h4 => by
  have hl : s.length = pre.length := by rw [h1]; simp
  rw [List.all_nil, Bool.true_and] at h4
  subst h4
  refine hd_of (by unfold l181_0; rfl) ?_
  have gg:=trivial;repeat' first|simp (maxSteps:=2000000) (disch:=omega) only [gg,r181_0,go_sem]|(refine br ?_ ?_<;>intro gg<;>try omega)|(apply And.intro;focus omega)|omega
  (all_goals (first | (simp_all []; done) | (simp_all []; omega) | (simp_all []; intros; omega) | (simp_all []; rw [Bool.eq_iff_iff]; simp; done) | (simp_all []; rw [Bool.eq_iff_iff]; simp; omega)))
 | c :: r, pre, i, h1, h2, h4 => by
  have hl : s.length = pre.length + (r.length + 1) := by rw [h1]; simp
  have ei : i.toNat = pre.length := by omega
  have hxi : s[i.toNat]? = some c := by
   rw [ei, h1, List.getElem?_append_right (by omega)]
   simp
  have hc := c.toNat_lt
  have ih := h181 s hs (r.all kwOk && (decide (1 ≤ (s.length : Int)) && decide ((s.length : Int) ≤ 100))) r (pre ++ [c]) (i + 1) (by rw [h1]; simp) (by simp; omega) rfl
  have hv1 : decide (1 ≤ (s.length : Int)) = true := decide_eq_true (by omega)
  rw [hv1, Bool.true_and] at ih
  rw [List.all_cons, hv1, Bool.true_and] at h4
  cases ob : kwOk c with
  | true =>
   have hb := of_decide_eq_true ob
   rw [ob, Bool.true_and] at h4
   subst h4
   refine hd_of (by unfold l181_0; rfl) ?_
   have gg:=trivial;repeat' first|simp (maxSteps:=2000000) (disch:=omega) only [gg,hxi,lp_head,go_sem]|(refine br ?_ ?_<;>intro gg<;>try omega)|(apply And.intro;focus omega)|omega
  | false =>
   have hb := of_decide_eq_false ob
   rw [ob, Bool.false_and, Bool.false_and] at h4
   subst h4
   refine hd_of (by unfold l181_0; rfl) ?_
   have gg:=trivial;repeat' first|simp (maxSteps:=2000000) (disch:=omega) only [gg,hxi,lp_head,go_sem]|(refine br ?_ ?_<;>intro gg<;>try omega)|(apply And.intro;focus omega)|omega
   all_goals (exfalso; omega)
theorem kwOk_eq : kwOk = kwByte := by
 funext b
 unfold kwOk kwByte
 rw [Bool.eq_iff_iff]
 simp
 omega
theorem s181 (s : List UInt8) (hs : s.length ≤ 1000000) : callT AA 181 [.str s] [] = some (.bool (kwB s), []) := by
 have hh := h181 s hs (kwB s) s [] 0 rfl rfl (by
  unfold kwB
  rw [kwOk_eq, Bool.and_comm (s.all kwByte)]
  have e1 : decide (s ≠ []) = decide (1 ≤ (s.length : Int)) := by
   apply decide_eq_decide.2
   cases s with
   | nil => simp
   | cons a r => simp; omega
  have e2 : decide (s.length ≤ 100) = decide ((s.length : Int) ≤ 100) := by
   apply decide_eq_decide.2
   omega
  rw [e1, e2])
 refine enter fn181 np181 rfl ?_
 have gg:=trivial;repeat' first|simp (maxSteps:=2000000) (disch:=omega) only [gg,b181,lp_head,go_sem]|(refine br ?_ ?_<;>intro gg<;>try omega)|(apply And.intro;focus omega)|omega
end Go.Abs
namespace Go.Abs
open Am
set_option maxRecDepth 10000
structure Rcd where
 key : List UInt8
 value : List UInt8
def Rcd.av (r : Rcd) : AVal := .agg [.str r.key, .str r.value]
attribute [go_sem] Rcd.av
theorem s55a (k v : List UInt8) : callT AA 55 [.bool true, .str k, .str v, .ptr 0 0] [(0, .var [.lit (.slice none 0 0)])] = some (.tuple [], [(0, .var [.lit (.slice none 0 0)])]) := by
 refine enter fn55 np55 rfl ?_
 have gg:=trivial;repeat' first|simp (maxSteps:=2000000) (disch:=omega) only [gg,b55,go_sem]|(refine br ?_ ?_<;>intro gg<;>try omega)|(apply And.intro;focus omega)|omega
theorem s55b (k v : List UInt8) : callT AA 55 [.bool false, .str k, .str v, .ptr 0 0] [(0, .var [.lit (.slice none 0 0)])] = some (.tuple [], [(0, .var [.own 1 2 0 1 false]), (1, .row [.agg [.str k, .str v]] 2)]) := by
 refine enter fn55 np55 rfl ?_
 have gg:=trivial;repeat' first|simp (maxSteps:=2000000) (disch:=omega) only [gg,b55,go_sem]|(refine br ?_ ?_<;>intro gg<;>try omega)|(apply And.intro;focus omega)|omega
theorem s55c (k v : List UInt8) (n : Nat) (rs : List AVal) : callT AA 55 [.bool true, .str k, .str v, .ptr 0 0] [(0, .var [.own 1 2 0 n false]), (1, .row rs 2)] = some (.tuple [], [(0, .var [.own 1 2 0 n false]), (1, .row rs 2)]) := by
 refine enter fn55 np55 rfl ?_
 have gg:=trivial;repeat' first|simp (maxSteps:=2000000) (disch:=omega) only [gg,b55,go_sem]|(refine br ?_ ?_<;>intro gg<;>try omega)|(apply And.intro;focus omega)|omega
theorem s55d (k v : List UInt8) (n : Nat) (rs : List AVal) (hn : n = rs.length) (hl : n ≤ 10000) : callT AA 55 [.bool false, .str k, .str v, .ptr 0 0] [(0, .var [.own 1 2 0 n false]), (1, .row rs 2)] = some (.tuple [], [(0, .var [.own 2 2 0 (n + 1) false]), (2, .row (rs ++ [.agg [.str k, .str v]]) 2)]) := by
 have h : rs.take n = rs := List.take_of_length_le (by omega)
 refine enter fn55 np55 rfl ?_
 have gg:=trivial;repeat' first|simp (maxSteps:=2000000) (disch:=omega) only [gg,b55,h,go_sem]|(refine br ?_ ?_<;>intro gg<;>try omega)|(apply And.intro;focus omega)|omega
def gidB : List UInt8 := [103, 105, 100]
def linkpathB : List UInt8 := [108, 105, 110, 107, 112, 97, 116, 104]
def mtimeB : List UInt8 := [109, 116, 105, 109, 101]
def pathB : List UInt8 := [112, 97, 116, 104]
def uidB : List UInt8 := [117, 105, 100]
theorem gidB_eq : AVal.str [103, 105, 100] = .str gidB := rfl
theorem linkpathB_eq : AVal.str [108, 105, 110, 107, 112, 97, 116, 104] = .str linkpathB := rfl
theorem mtimeB_eq : AVal.str [109, 116, 105, 109, 101] = .str mtimeB := rfl
theorem pathB_eq : AVal.str [112, 97, 116, 104] = .str pathB := rfl
theorem uidB_eq : AVal.str [117, 105, 100] = .str uidB := rfl
def recIf (f : Bool) (k v : List UInt8) : List Rcd := if f then [] else [⟨k, v⟩]
def linkE (l : List UInt8) : Bool := decide (l = []) || linkB l
/-- bounds of an entry's numbers and texts -/
def EntB (e : Ent) : Prop := -9223372036854775808 ≤ e.gid ∧ e.gid ≤ 9223372036854775807 ∧ -9223372036854775808 ≤ e.uid ∧ e.uid ≤ 9223372036854775807 ∧ -9223372036854775808 ≤ e.time ∧ e.time ≤ 9223372036854775807 ∧ e.link.length ≤ 1000000 ∧ e.path.length ≤ 1000000
def recV (l : List Rcd) : AVal := if l = [] then .lit (.slice none 0 0) else .own 0 2 0 l.length false
def recH (l : List Rcd) : Heap := if l = [] then [] else [(0, .row (l.map Rcd.av) 2)]
def FinR (l : List Rcd) : FinP := Fin [(2, none)] 0 (recV l) (recH l)
theorem FinR_ne {l : List Rcd} (h : l ≠ []) : FinR l = Fin [(2, none)] 0 (.own 0 2 0 l.length false) [(0, .row (l.map Rcd.av) 2)] := by
 simp [FinR, recV, recH, h]
def p21_9 : ACode := .ret
def p21_8 : ACode := .seq (.reg false [] [⟨(some 49), (.ld 1 false (.t 3)), none⟩, ⟨(some 2), (.mov (.t 49)), none⟩]) p21_9
def p21_7 : ACode := .seq (.reg true [(0, 2), (0, 3), (2, 4), (3, 4), (0, 5), (1, 5), (2, 5), (3, 5), (0, 6)] [⟨(some 41), (.mov (.t 4)), none⟩, ⟨(some 42), (.fa 3 (.t 1)), none⟩, ⟨(some 43), (.ld 1 false (.t 42)), none⟩, ⟨(some 44), (.call (.c (.func (.func 46) [])) [(.t 43)]), none⟩, ⟨(some 45), (.fa 3 (.t 1)), none⟩, ⟨(some 46), (.ld 1 false (.t 45)), none⟩, ⟨(some 47), (.call (.c (.func (.func 56) [])) [(.t 46)]), none⟩, ⟨(some 48), (.call (.t 41) [(.t 44), (.c (.str [117, 105, 100])), (.t 47)]), none⟩]) p21_8
def p21_6 : ACode := .seq (.reg true [(0, 2), (0, 3), (2, 4), (3, 4), (0, 5), (1, 5), (2, 5), (3, 5)] [⟨(some 34), (.mov (.t 4)), none⟩, ⟨(some 35), (.fa 0 (.t 1)), none⟩, ⟨(some 36), (.ld 1 false (.t 35)), none⟩, ⟨(some 37), (.call (.c (.func (.func 44) [])) [(.t 36)]), none⟩, ⟨(some 38), (.fa 0 (.t 1)), none⟩, ⟨(some 39), (.ld 1 false (.t 38)), none⟩, ⟨(some 40), (.call (.t 34) [(.t 37), (.c (.str [112, 97, 116, 104])), (.t 39)]), none⟩]) p21_7
def p21_5 : ACode := .seq (.reg true [(0, 2), (0, 3), (2, 4), (3, 4), (0, 5), (1, 5), (2, 5), (3, 5), (0, 6)] [⟨(some 26), (.mov (.t 4)), none⟩, ⟨(some 27), (.fa 5 (.t 1)), none⟩, ⟨(some 28), (.ld 1 false (.t 27)), none⟩, ⟨(some 29), (.call (.c (.func (.func 48) [])) [(.t 28)]), none⟩, ⟨(some 30), (.fa 5 (.t 1)), none⟩, ⟨(some 31), (.ld 1 false (.t 30)), none⟩, ⟨(some 32), (.call (.c (.func (.func 56) [])) [(.t 31)]), none⟩, ⟨(some 33), (.call (.t 26) [(.t 29), (.c (.str [109, 116, 105, 109, 101])), (.t 32)]), none⟩]) p21_6
def p21_4 : ACode := .seq (.reg true [(0, 2), (0, 6), (0, 7), (2, 9), (6, 9), (7, 9), (0, 10), (1, 10), (2, 10), (3, 10), (4, 10), (5, 10), (6, 10), (7, 10), (8, 10)] [⟨(some 14), (.mov (.t 4)), none⟩, ⟨(some 15), (.fa 6 (.t 1)), none⟩, ⟨(some 16), (.ld 1 false (.t 15)), none⟩, ⟨(some 17), (.bin .eql .other true (.t 16) (.c (.str []))), none⟩, ⟨(some 18), (.mov (.t 17)), none⟩, ⟨(some 19), (.fa 6 (.t 1)), (some (18, false))⟩, ⟨(some 20), (.ld 1 false (.t 19)), (some (18, false))⟩, ⟨(some 21), (.call (.c (.func (.func 45) [])) [(.t 20)]), (some (18, false))⟩, ⟨(some 22), (.pick (.t 18) (.c (.bool true)) (.t 21)), none⟩, ⟨(some 23), (.fa 6 (.t 1)), none⟩, ⟨(some 24), (.ld 1 false (.t 23)), none⟩, ⟨(some 25), (.call (.t 14) [(.t 22), (.c (.str [108, 105, 110, 107, 112, 97, 116, 104])), (.t 24)]), none⟩]) p21_5
def p21_3 : ACode := .seq (.reg true [(0, 2), (0, 3), (2, 4), (3, 4), (0, 5), (1, 5), (2, 5), (3, 5), (0, 6)] [⟨(some 6), (.mov (.t 4)), none⟩, ⟨(some 7), (.fa 4 (.t 1)), none⟩, ⟨(some 8), (.ld 1 false (.t 7)), none⟩, ⟨(some 9), (.call (.c (.func (.func 46) [])) [(.t 8)]), none⟩, ⟨(some 10), (.fa 4 (.t 1)), none⟩, ⟨(some 11), (.ld 1 false (.t 10)), none⟩, ⟨(some 12), (.call (.c (.func (.func 56) [])) [(.t 11)]), none⟩, ⟨(some 13), (.call (.t 6) [(.t 9), (.c (.str [103, 105, 100])), (.t 12)]), none⟩]) p21_4
def p21_2 : ACode := .seq (.reg false [] [⟨(some 5), (.mkfn (.func 55) [(.t 3)]), none⟩, ⟨(some 4), (.mov (.t 5)), none⟩]) p21_3
def p21_1 : ACode := .seq (.reg false [] [⟨(some 3), (.alloc [(.lit (.slice none 0 0))]), none⟩]) p21_2
def p21_0 : ACode := .seq (.reg false [] [⟨(some 1), (.box (.t 0)), none⟩, ⟨(some 2), (.mov (.c (.lit (.slice none 0 0)))), none⟩]) p21_1
theorem b21_p : b21 = ⟨1, 50, [(2, none)], p21_0⟩ := rfl
def rst7 (e : Ent) : List Rcd := recIf (idB e.uid) uidB (Lib.itoa e.uid)
def rst6 (e : Ent) : List Rcd := recIf (splitN e.path).2.2 pathB e.path ++ rst7 e
def rst5 (e : Ent) : List Rcd := recIf (timeB e.time) mtimeB (Lib.itoa e.time) ++ rst6 e
def rst4 (e : Ent) : List Rcd := recIf (linkE e.link) linkpathB e.link ++ rst5 e
def rst3 (e : Ent) : List Rcd := recIf (idB e.gid) gidB (Lib.itoa e.gid) ++ rst4 e
def recsE (e : Ent) : List Rcd := rst3 e
theorem q21_8_own (e : Ent) (hb : EntB e) (l0 rs : List Rcd) (es : List AVal) (n r : Nat) (hr : 64 < r) (hn : n = rs.length) (he : es = rs.map Rcd.av) (hl : rs.length ≤ 8) (hne : rs ≠ []) (h : l0 = rs ++ []) :
  ∀ x5 x6 x7 x8 x9 x10 x11 x12 x13 x14 x15 x16 x17 x18 x19 x20 x21 x22 x23 x24 x25 x26 x27 x28 x29 x30 x31 x32 x33 x34 x35 x36 x37 x38 x39 x40 x41 x42 x43 x44 x45 x46 x47 x48 : AVal, EX AA 0 p21_8 ⟨[e.av, .ptr 0 0, .lit (.slice none 0 0), .ptr 64 0, .func (.func 55) [.ptr 64 0], x5, x6, x7, x8, x9, x10, x11, x12, x13, x14, x15, x16, x17, x18, x19, x20, x21, x22, x23, x24, x25, x26, x27, x28, x29, x30, x31, x32, x33, x34, x35, x36, x37, x38, x39, x40, x41, x42, x43, x44, x45, x46, x47, x48, .lit Go.undef], [(0, .var e.av.cells), (64, .var [.own r 2 0 n false]), (r, .row es 2)], 1536⟩ [] (FinR l0) := by
 intro x5 x6 x7 x8 x9 x10 x11 x12 x13 x14 x15 x16 x17 x18 x19 x20 x21 x22 x23 x24 x25 x26 x27 x28 x29 x30 x31 x32 x33 x34 x35 x36 x37 x38 x39 x40 x41 x42 x43 x44 x45 x46 x47 x48
 have a0 : (0 = r) = False := by simp; omega
 have b0 : (0 == r) = false := by simp; omega
 have a1 : (r = 0) = False := by simp; omega
 have b1 : (r == 0) = false := by simp; omega
 have a2 : (64 = r) = False := by simp; omega
 have b2 : (64 == r) = false := by simp; omega
 have a3 : (r = 64) = False := by simp; omega
 have b3 : (r == 64) = false := by simp; omega
 have h0 : FinR l0 = Fin [(2, none)] 0 (.own 0 2 0 n false) [(0, .row es 2)] := by
  have hl0 : l0 = rs := by rw [h, List.append_nil]
  rw [FinR_ne (by rw [hl0]; exact hne), hl0, hn, he]
 have h1 : n = es.length := by rw [he, hn, List.length_map]
 rw [h0]
 have gg:=trivial;repeat' first|simp (maxSteps:=2000000) (disch:=omega) only [gg,p21_8,p21_9,a0,a1,a2,a3,b0,b1,b2,b3,beq_self_eq_true,go_sem]|(refine br ?_ ?_<;>intro gg<;>try omega)|(apply And.intro;focus omega)|omega
theorem q21_8_nil (e : Ent) (hb : EntB e) (l0 : List Rcd) (h : l0 = []) :
  ∀ x5 x6 x7 x8 x9 x10 x11 x12 x13 x14 x15 x16 x17 x18 x19 x20 x21 x22 x23 x24 x25 x26 x27 x28 x29 x30 x31 x32 x33 x34 x35 x36 x37 x38 x39 x40 x41 x42 x43 x44 x45 x46 x47 x48 : AVal, EX AA 0 p21_8 ⟨[e.av, .ptr 0 0, .lit (.slice none 0 0), .ptr 64 0, .func (.func 55) [.ptr 64 0], x5, x6, x7, x8, x9, x10, x11, x12, x13, x14, x15, x16, x17, x18, x19, x20, x21, x22, x23, x24, x25, x26, x27, x28, x29, x30, x31, x32, x33, x34, x35, x36, x37, x38, x39, x40, x41, x42, x43, x44, x45, x46, x47, x48, .lit Go.undef], [(0, .var e.av.cells), (64, .var [.lit (.slice none 0 0)])], 1536⟩ [] (FinR l0) := by
 intro x5 x6 x7 x8 x9 x10 x11 x12 x13 x14 x15 x16 x17 x18 x19 x20 x21 x22 x23 x24 x25 x26 x27 x28 x29 x30 x31 x32 x33 x34 x35 x36 x37 x38 x39 x40 x41 x42 x43 x44 x45 x46 x47 x48
 have h0 : FinR l0 = Fin [(2, none)] 0 (.lit (.slice none 0 0)) [] := by rw [h]; rfl
 rw [h0]
 have gg:=trivial;repeat' first|simp (maxSteps:=2000000) (disch:=omega) only [gg,p21_8,p21_9,go_sem]|(refine br ?_ ?_<;>intro gg<;>try omega)|(apply And.intro;focus omega)|omega
theorem q21_7_own (e : Ent) (hb : EntB e) (l0 rs : List Rcd) (es : List AVal) (n r : Nat) (hr : 64 < r) (hn : n = rs.length) (he : es = rs.map Rcd.av) (hl : rs.length ≤ 7) (hne : rs ≠ []) (h : l0 = rs ++ rst7 e) :
  ∀ x5 x6 x7 x8 x9 x10 x11 x12 x13 x14 x15 x16 x17 x18 x19 x20 x21 x22 x23 x24 x25 x26 x27 x28 x29 x30 x31 x32 x33 x34 x35 x36 x37 x38 x39 x40 : AVal, EX AA 0 p21_7 ⟨[e.av, .ptr 0 0, .lit (.slice none 0 0), .ptr 64 0, .func (.func 55) [.ptr 64 0], x5, x6, x7, x8, x9, x10, x11, x12, x13, x14, x15, x16, x17, x18, x19, x20, x21, x22, x23, x24, x25, x26, x27, x28, x29, x30, x31, x32, x33, x34, x35, x36, x37, x38, x39, x40, .lit Go.undef, .lit Go.undef, .lit Go.undef, .lit Go.undef, .lit Go.undef, .lit Go.undef, .lit Go.undef, .lit Go.undef, .lit Go.undef], [(0, .var e.av.cells), (64, .var [.own r 2 0 n false]), (r, .row es 2)], 1280⟩ [] (FinR l0) := by
 intro x5 x6 x7 x8 x9 x10 x11 x12 x13 x14 x15 x16 x17 x18 x19 x20 x21 x22 x23 x24 x25 x26 x27 x28 x29 x30 x31 x32 x33 x34 x35 x36 x37 x38 x39 x40
 have a0 : (0 = r) = False := by simp; omega
 have b0 : (0 == r) = false := by simp; omega
 have a1 : (r = 0) = False := by simp; omega
 have b1 : (r == 0) = false := by simp; omega
 have a2 : (64 = r) = False := by simp; omega
 have b2 : (64 == r) = false := by simp; omega
 have a3 : (r = 64) = False := by simp; omega
 have b3 : (r == 64) = false := by simp; omega
 have c := i46 e.uid
 have d := s56 e.uid hb.2.2.1 hb.2.2.2.1
 have w := s55d uidB (Lib.itoa e.uid) n es (by rw [he, hn, List.length_map]) (by omega)
 unfold rst7 at h
 cases hf : (idB e.uid) with
 | true =>
  rw [hf] at c h
  have ih := q21_8_own e hb l0 rs es n r hr hn he (by omega) hne (by rw [h]; simp [recIf])
  have gg:=trivial;repeat' first|simp (maxSteps:=2000000) (disch:=omega) only [gg,p21_7,c,d,a0,a1,a2,a3,b0,b1,b2,b3,beq_self_eq_true,s55c,uidB_eq,go_sem]|(refine br ?_ ?_<;>intro gg<;>try omega)|(apply And.intro;focus omega)|omega
  apply ih
 | false =>
  rw [hf] at c h
  have ih := fun r hr => q21_8_own e hb l0 (rs ++ [⟨uidB, (Lib.itoa e.uid)⟩]) (es ++ [.agg [.str uidB, .str (Lib.itoa e.uid)]]) (n + 1) r hr (by simp [hn]) (by simp [he, Rcd.av]) (by simp; omega) (by simp) (by rw [h]; simp [recIf])
  have gg:=trivial;repeat' first|simp (maxSteps:=2000000) (disch:=omega) only [gg,p21_7,c,d,a0,a1,a2,a3,b0,b1,b2,b3,beq_self_eq_true,w,uidB_eq,go_sem]|(refine br ?_ ?_<;>intro gg<;>try omega)|(apply And.intro;focus omega)|omega
  apply ih
  omega
theorem q21_7_nil (e : Ent) (hb : EntB e) (l0 : List Rcd) (h : l0 = rst7 e) :
  ∀ x5 x6 x7 x8 x9 x10 x11 x12 x13 x14 x15 x16 x17 x18 x19 x20 x21 x22 x23 x24 x25 x26 x27 x28 x29 x30 x31 x32 x33 x34 x35 x36 x37 x38 x39 x40 : AVal, EX AA 0 p21_7 ⟨[e.av, .ptr 0 0, .lit (.slice none 0 0), .ptr 64 0, .func (.func 55) [.ptr 64 0], x5, x6, x7, x8, x9, x10, x11, x12, x13, x14, x15, x16, x17, x18, x19, x20, x21, x22, x23, x24, x25, x26, x27, x28, x29, x30, x31, x32, x33, x34, x35, x36, x37, x38, x39, x40, .lit Go.undef, .lit Go.undef, .lit Go.undef, .lit Go.undef, .lit Go.undef, .lit Go.undef, .lit Go.undef, .lit Go.undef, .lit Go.undef], [(0, .var e.av.cells), (64, .var [.lit (.slice none 0 0)])], 1280⟩ [] (FinR l0) := by
 intro x5 x6 x7 x8 x9 x10 x11 x12 x13 x14 x15 x16 x17 x18 x19 x20 x21 x22 x23 x24 x25 x26 x27 x28 x29 x30 x31 x32 x33 x34 x35 x36 x37 x38 x39 x40
 have c := i46 e.uid
 have d := s56 e.uid hb.2.2.1 hb.2.2.2.1
 have w := s55b uidB (Lib.itoa e.uid)
 unfold rst7 at h
 cases hf : (idB e.uid) with
 | true =>
  rw [hf] at c h
  have ih := q21_8_nil e hb l0 (by rw [h]; simp [recIf])
  have gg:=trivial;repeat' first|simp (maxSteps:=2000000) (disch:=omega) only [gg,p21_7,c,d,s55a,go_sem]|(refine br ?_ ?_<;>intro gg<;>try omega)|(apply And.intro;focus omega)|omega
  apply ih
 | false =>
  rw [hf] at c h
  have ih := fun r hr => q21_8_own e hb l0 [⟨uidB, (Lib.itoa e.uid)⟩] [.agg [.str uidB, .str (Lib.itoa e.uid)]] 1 r hr rfl rfl (by simp) (by simp) (by rw [h]; simp [recIf])
  have gg:=trivial;repeat' first|simp (maxSteps:=2000000) (disch:=omega) only [gg,p21_7,c,d,w,uidB_eq,go_sem]|(refine br ?_ ?_<;>intro gg<;>try omega)|(apply And.intro;focus omega)|omega
  apply ih
  omega
theorem q21_6_own (e : Ent) (hb : EntB e) (l0 rs : List Rcd) (es : List AVal) (n r : Nat) (hr : 64 < r) (hn : n = rs.length) (he : es = rs.map Rcd.av) (hl : rs.length ≤ 6) (hne : rs ≠ []) (h : l0 = rs ++ rst6 e) :
  ∀ x5 x6 x7 x8 x9 x10 x11 x12 x13 x14 x15 x16 x17 x18 x19 x20 x21 x22 x23 x24 x25 x26 x27 x28 x29 x30 x31 x32 x33 : AVal, EX AA 0 p21_6 ⟨[e.av, .ptr 0 0, .lit (.slice none 0 0), .ptr 64 0, .func (.func 55) [.ptr 64 0], x5, x6, x7, x8, x9, x10, x11, x12, x13, x14, x15, x16, x17, x18, x19, x20, x21, x22, x23, x24, x25, x26, x27, x28, x29, x30, x31, x32, x33, .lit Go.undef, .lit Go.undef, .lit Go.undef, .lit Go.undef, .lit Go.undef, .lit Go.undef, .lit Go.undef, .lit Go.undef, .lit Go.undef, .lit Go.undef, .lit Go.undef, .lit Go.undef, .lit Go.undef, .lit Go.undef, .lit Go.undef, .lit Go.undef], [(0, .var e.av.cells), (64, .var [.own r 2 0 n false]), (r, .row es 2)], 1056⟩ [] (FinR l0) := by
 intro x5 x6 x7 x8 x9 x10 x11 x12 x13 x14 x15 x16 x17 x18 x19 x20 x21 x22 x23 x24 x25 x26 x27 x28 x29 x30 x31 x32 x33
 have a0 : (0 = r) = False := by simp; omega
 have b0 : (0 == r) = false := by simp; omega
 have a1 : (r = 0) = False := by simp; omega
 have b1 : (r == 0) = false := by simp; omega
 have a2 : (64 = r) = False := by simp; omega
 have b2 : (64 == r) = false := by simp; omega
 have a3 : (r = 64) = False := by simp; omega
 have b3 : (r == 64) = false := by simp; omega
 have c := s44 e.path hb.2.2.2.2.2.2.2
 have w := s55d pathB e.path n es (by rw [he, hn, List.length_map]) (by omega)
 unfold rst6 at h
 cases hf : (splitN e.path).2.2 with
 | true =>
  rw [hf] at c h
  have ih := q21_7_own e hb l0 rs es n r hr hn he (by omega) hne (by rw [h]; simp [recIf])
  have gg:=trivial;repeat' first|simp (maxSteps:=2000000) (disch:=omega) only [gg,p21_6,c,a0,a1,a2,a3,b0,b1,b2,b3,beq_self_eq_true,s55c,pathB_eq,go_sem]|(refine br ?_ ?_<;>intro gg<;>try omega)|(apply And.intro;focus omega)|omega
  apply ih
 | false =>
  rw [hf] at c h
  have ih := fun r hr => q21_7_own e hb l0 (rs ++ [⟨pathB, e.path⟩]) (es ++ [.agg [.str pathB, .str e.path]]) (n + 1) r hr (by simp [hn]) (by simp [he, Rcd.av]) (by simp; omega) (by simp) (by rw [h]; simp [recIf])
  have gg:=trivial;repeat' first|simp (maxSteps:=2000000) (disch:=omega) only [gg,p21_6,c,a0,a1,a2,a3,b0,b1,b2,b3,beq_self_eq_true,w,pathB_eq,go_sem]|(refine br ?_ ?_<;>intro gg<;>try omega)|(apply And.intro;focus omega)|omega
  apply ih
  omega
theorem q21_6_nil (e : Ent) (hb : EntB e) (l0 : List Rcd) (h : l0 = rst6 e) :
  ∀ x5 x6 x7 x8 x9 x10 x11 x12 x13 x14 x15 x16 x17 x18 x19 x20 x21 x22 x23 x24 x25 x26 x27 x28 x29 x30 x31 x32 x33 : AVal, EX AA 0 p21_6 ⟨[e.av, .ptr 0 0, .lit (.slice none 0 0), .ptr 64 0, .func (.func 55) [.ptr 64 0], x5, x6, x7, x8, x9, x10, x11, x12, x13, x14, x15, x16, x17, x18, x19, x20, x21, x22, x23, x24, x25, x26, x27, x28, x29, x30, x31, x32, x33, .lit Go.undef, .lit Go.undef, .lit Go.undef, .lit Go.undef, .lit Go.undef, .lit Go.undef, .lit Go.undef, .lit Go.undef, .lit Go.undef, .lit Go.undef, .lit Go.undef, .lit Go.undef, .lit Go.undef, .lit Go.undef, .lit Go.undef, .lit Go.undef], [(0, .var e.av.cells), (64, .var [.lit (.slice none 0 0)])], 1056⟩ [] (FinR l0) := by
 intro x5 x6 x7 x8 x9 x10 x11 x12 x13 x14 x15 x16 x17 x18 x19 x20 x21 x22 x23 x24 x25 x26 x27 x28 x29 x30 x31 x32 x33
 have c := s44 e.path hb.2.2.2.2.2.2.2
 have w := s55b pathB e.path
 unfold rst6 at h
 cases hf : (splitN e.path).2.2 with
 | true =>
  rw [hf] at c h
  have ih := q21_7_nil e hb l0 (by rw [h]; simp [recIf])
  have gg:=trivial;repeat' first|simp (maxSteps:=2000000) (disch:=omega) only [gg,p21_6,c,s55a,go_sem]|(refine br ?_ ?_<;>intro gg<;>try omega)|(apply And.intro;focus omega)|omega
  apply ih
 | false =>
  rw [hf] at c h
  have ih := fun r hr => q21_7_own e hb l0 [⟨pathB, e.path⟩] [.agg [.str pathB, .str e.path]] 1 r hr rfl rfl (by simp) (by simp) (by rw [h]; simp [recIf])
  have gg:=trivial;repeat' first|simp (maxSteps:=2000000) (disch:=omega) only [gg,p21_6,c,w,pathB_eq,go_sem]|(refine br ?_ ?_<;>intro gg<;>try omega)|(apply And.intro;focus omega)|omega
  apply ih
  omega
theorem q21_5_own (e : Ent) (hb : EntB e) (l0 rs : List Rcd) (es : List AVal) (n r : Nat) (hr : 64 < r) (hn : n = rs.length) (he : es = rs.map Rcd.av) (hl : rs.length ≤ 5) (hne : rs ≠ []) (h : l0 = rs ++ rst5 e) :
  ∀ x5 x6 x7 x8 x9 x10 x11 x12 x13 x14 x15 x16 x17 x18 x19 x20 x21 x22 x23 x24 x25 : AVal, EX AA 0 p21_5 ⟨[e.av, .ptr 0 0, .lit (.slice none 0 0), .ptr 64 0, .func (.func 55) [.ptr 64 0], x5, x6, x7, x8, x9, x10, x11, x12, x13, x14, x15, x16, x17, x18, x19, x20, x21, x22, x23, x24, x25, .lit Go.undef, .lit Go.undef, .lit Go.undef, .lit Go.undef, .lit Go.undef, .lit Go.undef, .lit Go.undef, .lit Go.undef, .lit Go.undef, .lit Go.undef, .lit Go.undef, .lit Go.undef, .lit Go.undef, .lit Go.undef, .lit Go.undef, .lit Go.undef, .lit Go.undef, .lit Go.undef, .lit Go.undef, .lit Go.undef, .lit Go.undef, .lit Go.undef, .lit Go.undef, .lit Go.undef], [(0, .var e.av.cells), (64, .var [.own r 2 0 n false]), (r, .row es 2)], 800⟩ [] (FinR l0) := by
 intro x5 x6 x7 x8 x9 x10 x11 x12 x13 x14 x15 x16 x17 x18 x19 x20 x21 x22 x23 x24 x25
 have a0 : (0 = r) = False := by simp; omega
 have b0 : (0 == r) = false := by simp; omega
 have a1 : (r = 0) = False := by simp; omega
 have b1 : (r == 0) = false := by simp; omega
 have a2 : (64 = r) = False := by simp; omega
 have b2 : (64 == r) = false := by simp; omega
 have a3 : (r = 64) = False := by simp; omega
 have b3 : (r == 64) = false := by simp; omega
 have c := i48 e.time
 have d := s56 e.time hb.2.2.2.2.1 hb.2.2.2.2.2.1
 have w := s55d mtimeB (Lib.itoa e.time) n es (by rw [he, hn, List.length_map]) (by omega)
 unfold rst5 at h
 cases hf : (timeB e.time) with
 | true =>
  rw [hf] at c h
  have ih := q21_6_own e hb l0 rs es n r hr hn he (by omega) hne (by rw [h]; simp [recIf])
  have gg:=trivial;repeat' first|simp (maxSteps:=2000000) (disch:=omega) only [gg,p21_5,c,d,a0,a1,a2,a3,b0,b1,b2,b3,beq_self_eq_true,s55c,mtimeB_eq,go_sem]|(refine br ?_ ?_<;>intro gg<;>try omega)|(apply And.intro;focus omega)|omega
  apply ih
 | false =>
  rw [hf] at c h
  have ih := fun r hr => q21_6_own e hb l0 (rs ++ [⟨mtimeB, (Lib.itoa e.time)⟩]) (es ++ [.agg [.str mtimeB, .str (Lib.itoa e.time)]]) (n + 1) r hr (by simp [hn]) (by simp [he, Rcd.av]) (by simp; omega) (by simp) (by rw [h]; simp [recIf])
  have gg:=trivial;repeat' first|simp (maxSteps:=2000000) (disch:=omega) only [gg,p21_5,c,d,a0,a1,a2,a3,b0,b1,b2,b3,beq_self_eq_true,w,mtimeB_eq,go_sem]|(refine br ?_ ?_<;>intro gg<;>try omega)|(apply And.intro;focus omega)|omega
  apply ih
  omega
theorem q21_5_nil (e : Ent) (hb : EntB e) (l0 : List Rcd) (h : l0 = rst5 e) :
  ∀ x5 x6 x7 x8 x9 x10 x11 x12 x13 x14 x15 x16 x17 x18 x19 x20 x21 x22 x23 x24 x25 : AVal, EX AA 0 p21_5 ⟨[e.av, .ptr 0 0, .lit (.slice none 0 0), .ptr 64 0, .func (.func 55) [.ptr 64 0], x5, x6, x7, x8, x9, x10, x11, x12, x13, x14, x15, x16, x17, x18, x19, x20, x21, x22, x23, x24, x25, .lit Go.undef, .lit Go.undef, .lit Go.undef, .lit Go.undef, .lit Go.undef, .lit Go.undef, .lit Go.undef, .lit Go.undef, .lit Go.undef, .lit Go.undef, .lit Go.undef, .lit Go.undef, .lit Go.undef, .lit Go.undef, .lit Go.undef, .lit Go.undef, .lit Go.undef, .lit Go.undef, .lit Go.undef, .lit Go.undef, .lit Go.undef, .lit Go.undef, .lit Go.undef, .lit Go.undef], [(0, .var e.av.cells), (64, .var [.lit (.slice none 0 0)])], 800⟩ [] (FinR l0) := by
 intro x5 x6 x7 x8 x9 x10 x11 x12 x13 x14 x15 x16 x17 x18 x19 x20 x21 x22 x23 x24 x25
 have c := i48 e.time
 have d := s56 e.time hb.2.2.2.2.1 hb.2.2.2.2.2.1
 have w := s55b mtimeB (Lib.itoa e.time)
 unfold rst5 at h
 cases hf : (timeB e.time) with
 | true =>
  rw [hf] at c h
  have ih := q21_6_nil e hb l0 (by rw [h]; simp [recIf])
  have gg:=trivial;repeat' first|simp (maxSteps:=2000000) (disch:=omega) only [gg,p21_5,c,d,s55a,go_sem]|(refine br ?_ ?_<;>intro gg<;>try omega)|(apply And.intro;focus omega)|omega
  apply ih
 | false =>
  rw [hf] at c h
  have ih := fun r hr => q21_6_own e hb l0 [⟨mtimeB, (Lib.itoa e.time)⟩] [.agg [.str mtimeB, .str (Lib.itoa e.time)]] 1 r hr rfl rfl (by simp) (by simp) (by rw [h]; simp [recIf])
  have gg:=trivial;repeat' first|simp (maxSteps:=2000000) (disch:=omega) only [gg,p21_5,c,d,w,mtimeB_eq,go_sem]|(refine br ?_ ?_<;>intro gg<;>try omega)|(apply And.intro;focus omega)|omega
  apply ih
  omega
theorem q21_4_own (e : Ent) (hb : EntB e) (l0 rs : List Rcd) (es : List AVal) (n r : Nat) (hr : 64 < r) (hn : n = rs.length) (he : es = rs.map Rcd.av) (hl : rs.length ≤ 4) (hne : rs ≠ []) (h : l0 = rs ++ rst4 e) :
  ∀ x5 x6 x7 x8 x9 x10 x11 x12 x13 : AVal, EX AA 0 p21_4 ⟨[e.av, .ptr 0 0, .lit (.slice none 0 0), .ptr 64 0, .func (.func 55) [.ptr 64 0], x5, x6, x7, x8, x9, x10, x11, x12, x13, .lit Go.undef, .lit Go.undef, .lit Go.undef, .lit Go.undef, .lit Go.undef, .lit Go.undef, .lit Go.undef, .lit Go.undef, .lit Go.undef, .lit Go.undef, .lit Go.undef, .lit Go.undef, .lit Go.undef, .lit Go.undef, .lit Go.undef, .lit Go.undef, .lit Go.undef, .lit Go.undef, .lit Go.undef, .lit Go.undef, .lit Go.undef, .lit Go.undef, .lit Go.undef, .lit Go.undef, .lit Go.undef, .lit Go.undef, .lit Go.undef, .lit Go.undef, .lit Go.undef, .lit Go.undef, .lit Go.undef, .lit Go.undef, .lit Go.undef, .lit Go.undef, .lit Go.undef, .lit Go.undef], [(0, .var e.av.cells), (64, .var [.own r 2 0 n false]), (r, .row es 2)], 416⟩ [] (FinR l0) := by
 intro x5 x6 x7 x8 x9 x10 x11 x12 x13
 have a0 : (0 = r) = False := by simp; omega
 have b0 : (0 == r) = false := by simp; omega
 have a1 : (r = 0) = False := by simp; omega
 have b1 : (r == 0) = false := by simp; omega
 have a2 : (64 = r) = False := by simp; omega
 have b2 : (64 == r) = false := by simp; omega
 have a3 : (r = 64) = False := by simp; omega
 have b3 : (r == 64) = false := by simp; omega
 have c := i45 e.link hb.2.2.2.2.2.2.1
 have w := s55d linkpathB e.link n es (by rw [he, hn, List.length_map]) (by omega)
 unfold rst4 at h
 unfold linkE at h
 by_cases hz : e.link = []
 ·have ih := q21_5_own e hb l0 rs es n r hr hn he (by omega) hne (by rw [h]; simp [recIf, hz])
  have gg:=trivial;repeat' first|simp (maxSteps:=2000000) (disch:=omega) only [gg,p21_4,c,a0,a1,a2,a3,b0,b1,b2,b3,beq_self_eq_true,s55c,w,decide_eq_true hz,linkpathB_eq,go_sem]|(refine br ?_ ?_<;>intro gg<;>try omega)|(apply And.intro;focus omega)|omega
  apply ih
 have hz2 : decide (e.link = []) = false := decide_eq_false hz
 rw [hz2, Bool.false_or] at h
 cases hf : linkB e.link with
 | true =>
  rw [hf] at c h
  have ih := q21_5_own e hb l0 rs es n r hr hn he (by omega) hne (by rw [h]; simp [recIf])
  have gg:=trivial;repeat' first|simp (maxSteps:=2000000) (disch:=omega) only [gg,p21_4,c,a0,a1,a2,a3,b0,b1,b2,b3,beq_self_eq_true,s55c,hz,linkpathB_eq,go_sem]|(refine br ?_ ?_<;>intro gg<;>try omega)|(apply And.intro;focus omega)|omega
  apply ih
 | false =>
  rw [hf] at c h
  have ih := fun r hr => q21_5_own e hb l0 (rs ++ [⟨linkpathB, e.link⟩]) (es ++ [.agg [.str linkpathB, .str e.link]]) (n + 1) r hr (by simp [hn]) (by simp [he, Rcd.av]) (by simp; omega) (by simp) (by rw [h]; simp [recIf])
  have gg:=trivial;repeat' first|simp (maxSteps:=2000000) (disch:=omega) only [gg,p21_4,c,a0,a1,a2,a3,b0,b1,b2,b3,beq_self_eq_true,w,hz,linkpathB_eq,go_sem]|(refine br ?_ ?_<;>intro gg<;>try omega)|(apply And.intro;focus omega)|omega
  apply ih
  omega
theorem q21_4_nil (e : Ent) (hb : EntB e) (l0 : List Rcd) (h : l0 = rst4 e) :
  ∀ x5 x6 x7 x8 x9 x10 x11 x12 x13 : AVal, EX AA 0 p21_4 ⟨[e.av, .ptr 0 0, .lit (.slice none 0 0), .ptr 64 0, .func (.func 55) [.ptr 64 0], x5, x6, x7, x8, x9, x10, x11, x12, x13, .lit Go.undef, .lit Go.undef, .lit Go.undef, .lit Go.undef, .lit Go.undef, .lit Go.undef, .lit Go.undef, .lit Go.undef, .lit Go.undef, .lit Go.undef, .lit Go.undef, .lit Go.undef, .lit Go.undef, .lit Go.undef, .lit Go.undef, .lit Go.undef, .lit Go.undef, .lit Go.undef, .lit Go.undef, .lit Go.undef, .lit Go.undef, .lit Go.undef, .lit Go.undef, .lit Go.undef, .lit Go.undef, .lit Go.undef, .lit Go.undef, .lit Go.undef, .lit Go.undef, .lit Go.undef, .lit Go.undef, .lit Go.undef, .lit Go.undef, .lit Go.undef, .lit Go.undef, .lit Go.undef], [(0, .var e.av.cells), (64, .var [.lit (.slice none 0 0)])], 416⟩ [] (FinR l0) := by
 intro x5 x6 x7 x8 x9 x10 x11 x12 x13
 have c := i45 e.link hb.2.2.2.2.2.2.1
 have w := s55b linkpathB e.link
 unfold rst4 at h
 unfold linkE at h
 by_cases hz : e.link = []
 ·have ih := q21_5_nil e hb l0 (by rw [h]; simp [recIf, hz])
  have gg:=trivial;repeat' first|simp (maxSteps:=2000000) (disch:=omega) only [gg,p21_4,c,s55a,decide_eq_true hz,go_sem]|(refine br ?_ ?_<;>intro gg<;>try omega)|(apply And.intro;focus omega)|omega
  apply ih
 have hz2 : decide (e.link = []) = false := decide_eq_false hz
 rw [hz2, Bool.false_or] at h
 cases hf : linkB e.link with
 | true =>
  rw [hf] at c h
  have ih := q21_5_nil e hb l0 (by rw [h]; simp [recIf])
  have gg:=trivial;repeat' first|simp (maxSteps:=2000000) (disch:=omega) only [gg,p21_4,c,s55a,hz,go_sem]|(refine br ?_ ?_<;>intro gg<;>try omega)|(apply And.intro;focus omega)|omega
  apply ih
 | false =>
  rw [hf] at c h
  have ih := fun r hr => q21_5_own e hb l0 [⟨linkpathB, e.link⟩] [.agg [.str linkpathB, .str e.link]] 1 r hr rfl rfl (by simp) (by simp) (by rw [h]; simp [recIf])
  have gg:=trivial;repeat' first|simp (maxSteps:=2000000) (disch:=omega) only [gg,p21_4,c,w,hz,linkpathB_eq,go_sem]|(refine br ?_ ?_<;>intro gg<;>try omega)|(apply And.intro;focus omega)|omega
  apply ih
  omega
theorem q21_3_nil (e : Ent) (hb : EntB e) (l0 : List Rcd) (h : l0 = rst3 e) :
  ∀ x5 : AVal, EX AA 0 p21_3 ⟨[e.av, .ptr 0 0, .lit (.slice none 0 0), .ptr 64 0, .func (.func 55) [.ptr 64 0], x5, .lit Go.undef, .lit Go.undef, .lit Go.undef, .lit Go.undef, .lit Go.undef, .lit Go.undef, .lit Go.undef, .lit Go.undef, .lit Go.undef, .lit Go.undef, .lit Go.undef, .lit Go.undef, .lit Go.undef, .lit Go.undef, .lit Go.undef, .lit Go.undef, .lit Go.undef, .lit Go.undef, .lit Go.undef, .lit Go.undef, .lit Go.undef, .lit Go.undef, .lit Go.undef, .lit Go.undef, .lit Go.undef, .lit Go.undef, .lit Go.undef, .lit Go.undef, .lit Go.undef, .lit Go.undef, .lit Go.undef, .lit Go.undef, .lit Go.undef, .lit Go.undef, .lit Go.undef, .lit Go.undef, .lit Go.undef, .lit Go.undef, .lit Go.undef, .lit Go.undef, .lit Go.undef, .lit Go.undef, .lit Go.undef, .lit Go.undef], [(0, .var e.av.cells), (64, .var [.lit (.slice none 0 0)])], 160⟩ [] (FinR l0) := by
 intro x5
 have c := i46 e.gid
 have d := s56 e.gid hb.1 hb.2.1
 have w := s55b gidB (Lib.itoa e.gid)
 unfold rst3 at h
 cases hf : (idB e.gid) with
 | true =>
  rw [hf] at c h
  have ih := q21_4_nil e hb l0 (by rw [h]; simp [recIf])
  have gg:=trivial;repeat' first|simp (maxSteps:=2000000) (disch:=omega) only [gg,p21_3,c,d,s55a,go_sem]|(refine br ?_ ?_<;>intro gg<;>try omega)|(apply And.intro;focus omega)|omega
  apply ih
 | false =>
  rw [hf] at c h
  have ih := fun r hr => q21_4_own e hb l0 [⟨gidB, (Lib.itoa e.gid)⟩] [.agg [.str gidB, .str (Lib.itoa e.gid)]] 1 r hr rfl rfl (by simp) (by simp) (by rw [h]; simp [recIf])
  have gg:=trivial;repeat' first|simp (maxSteps:=2000000) (disch:=omega) only [gg,p21_3,c,d,w,gidB_eq,go_sem]|(refine br ?_ ?_<;>intro gg<;>try omega)|(apply And.intro;focus omega)|omega
  apply ih
  omega
theorem s21 (e : Ent) (hb : EntB e) : callT AA 21 [e.av] [] = some (recV (recsE e), recH (recsE e)) := by
 have ih := q21_3_nil e hb _ rfl
 refine enter fn21 np21 rfl ?_
 rw [b21_p]
 show EX AA 0 p21_0 _ [] (FinR (recsE e))
 have gg:=trivial;repeat' first|simp (maxSteps:=2000000) (disch:=omega) only [gg,p21_0,p21_1,p21_2,go_sem]|(refine br ?_ ?_<;>intro gg<;>try omega)|(apply And.intro;focus omega)|omega
 exact ih _
end Go.Abs
namespace Go.Abs
open Am
set_option maxRecDepth 10000
def paxStep (prev : Option Rcd) (out : List UInt8) (r : Rcd) : Bool :=
 lineOk r.key r.value && (match prev with | none => true | some p => Op.bytesLess p.key r.key) && decide (out.length + (lineB r.key r.value).length ≤ 65536)
def paxE (prev : Option Rcd) (out : List UInt8) : List Rcd → Option (List UInt8)
 | [] => some out
 | r :: rs => if paxStep prev out r = true then paxE (some r) (out ++ lineB r.key r.value) rs else none
def paxV (x : Option (List UInt8)) : AVal := match x with
 | none => .tuple [.lit (.slice none 0 0), .iface 58 (.int .i64 15)]
 | some o => .tuple [.own 0 1 0 o.length false, .lit .nilIface]
def paxH (x : Option (List UInt8)) : Heap := match x with
 | none => []
 | some o => [(0, .row (o.map .byte) 1)]
def RcdOk (r : Rcd) : Prop := r.key.length ≤ 1000000 ∧ r.value.length ≤ 1000000
theorem h109 (c t : Bool) (rs : List Rcd) (hs : rs.length ≤ 1000000) (hb : ∀ r ∈ rs, RcdOk r) (r0 : Option (List UInt8)) : ∀ (rest done : List Rcd) (p : Rcd) (out : List UInt8) (n i : Int) (q : Nat), rs = done ++ p :: rest → i = done.length + 1 → n = rs.length → q = out.length → out.length ≤ 65536 → r0 = paxE (some p) out rest →
  HD AA 0 [0, 2, 3, 4, 9, 10, 11] l109_0 ⟨[.view 2 (rs.map Rcd.av) c t, .junk, .lit (.slice none 0 0), .lit .nilIface, .own 0 1 0 q false, .junk, .junk, .junk, .junk, .view 2 (rs.map Rcd.av) c t, .int .i64 n, .int .i64 i, .junk, .junk, .junk, .junk, .junk, .junk, .junk, .junk, .junk, .junk, .junk, .junk, .junk, .junk, .junk, .junk, .junk, .junk, .junk, .junk, .junk, .junk, .junk, .junk, .junk, .junk, .junk, .junk, .junk, .junk, .junk, .junk, .junk, .junk, .junk, .junk, .junk, .junk, .junk, .junk, .junk, .junk, .junk], [(0, .row (out.map .byte) 1)], 1⟩ [.blk 0, .code r109_0] (Fin [(2, none), (3, none)] 0 (paxV r0) (paxH r0))
 | [], done, p, out, n, i, q, h1, h2, h3, h4, h5, h6 => by
  subst h1
  simp at h3
  have e : (out.map AVal.byte).take q = out.map .byte := List.take_of_length_le (by simp; omega)
  refine hd_of (by unfold l109_0; rfl) ?_
  simp only [paxE] at h6
  rw [h6]
  unfold paxV paxH
  have gg:=trivial;repeat' first|simp (maxSteps:=2000000) (disch:=omega) only [gg,r109_0,go_sem]|(refine br ?_ ?_<;>intro gg<;>try omega)|(apply And.intro;focus omega)|omega
  simp [h4]
 | r :: rest, done, p, out, n, i, q, h1, h2, h3, h4, h5, h6 => by
  have hg0 : rs[i.toNat]? = some r := by
   rw [h1, show i.toNat = done.length + 1 by omega]
   simp
  have hp0 : rs[(i - 1).toNat]? = some p := by
   rw [h1, show (i - 1).toNat = done.length by omega]
   simp
  have hl : i.toNat < rs.length := by rw [h1]; simp; omega
  have hl' : (i - 1).toNat < rs.length := by omega
  obtain ⟨hk, hv⟩ := hb r (by simp [h1])
  have hc := s121 r.key r.value hk hv
  have e : (out.map AVal.byte).take q = out.map .byte := List.take_of_length_le (by simp; omega)
  refine hd_of (by unfold l109_0; rfl) ?_
  unfold paxE at h6
  cases f1 : lineOk r.key r.value with
  | false =>
   rw [if_neg (by simp [paxStep, f1])] at h6
   rw [f1] at hc
   rw [h6]
   unfold paxV paxH
   have gg:=trivial;repeat' first|simp (maxSteps:=2000000) (disch:=omega) only [gg,hc,hg0,hp0,lp_head,go_sem]|(refine br ?_ ?_<;>intro gg<;>try omega)|(apply And.intro;focus omega)|omega
  | true =>
   have hll := lineB_length (k := r.key) (v := r.value) (by simp [lineOk, kwB] at f1; omega) (by simp [lineOk] at f1; omega)
   rw [f1] at hc
   generalize hL : lineB r.key r.value = L at *
   by_cases f2 : Op.bytesLess p.key r.key = true
   ·by_cases f3 : out.length + L.length ≤ 65536
    ·rw [if_pos (by simp [paxStep, f1, f2, hL, f3])] at h6
     have ih := h109 c t rs hs hb r0 rest (done ++ [p]) r (out ++ L) n (i + 1) (q + L.length) (by simp [h1]) (by simp; omega) h3 (by simp; omega) (by simp; omega) h6
     have gg:=trivial;repeat' first|simp (maxSteps:=2000000) (disch:=omega) only [gg,hc,hg0,hp0,f2,e,lp_head,← List.map_append,go_sem]|(refine br ?_ ?_<;>intro gg<;>try omega)|(apply And.intro;focus omega)|omega
    ·rw [if_neg (by simp [paxStep, f1, f2, hL]; omega)] at h6
     rw [h6]
     unfold paxV paxH
     have gg:=trivial;repeat' first|simp (maxSteps:=2000000) (disch:=omega) only [gg,hc,hg0,hp0,f2,lp_head,go_sem]|(refine br ?_ ?_<;>intro gg<;>try omega)|(apply And.intro;focus omega)|omega
   ·have f2' : Op.bytesLess p.key r.key = false := by simpa using f2
    rw [if_neg (by simp [paxStep, f2'])] at h6
    rw [h6]
    unfold paxV paxH
    have gg:=trivial;repeat' first|simp (maxSteps:=2000000) (disch:=omega) only [gg,hc,hg0,hp0,f2',lp_head,go_sem]|(refine br ?_ ?_<;>intro gg<;>try omega)|(apply And.intro;focus omega)|omega
theorem lineB_pos {k v : List UInt8} : 0 < (lineB k v).length := by
 simp [lineB, restP]
 omega
theorem s109 (c t : Bool) (r : Rcd) (rs : List Rcd) (hs : (r :: rs).length ≤ 1000000) (hb : ∀ x ∈ r :: rs, RcdOk x) : callT AA 109 [.view 2 ((r :: rs).map Rcd.av) c t] [] = some (paxV (paxE none [] (r :: rs)), paxH (paxE none [] (r :: rs))) := by
 obtain ⟨hk, hv⟩ := hb r (by simp)
 have hc := s121 r.key r.value hk hv
 have hh := h109 c t (r :: rs) hs hb (paxE none [] (r :: rs)) rs [] r
 refine enter fn109 np109 rfl ?_
 generalize hR : paxE none [] (r :: rs) = R at *
 unfold paxE at hR
 generalize hrs : r :: rs = l at *
 have hg0 : l[0]? = some r := by rw [← hrs]; rfl
 have hl : 0 < l.length := by rw [← hrs]; simp
 have gg:=trivial;repeat' first|simp (maxSteps:=2000000) (disch:=omega) only [gg,b109,lp_head,go_sem]|(refine br ?_ ?_<;>intro gg<;>try omega)|(apply And.intro;focus omega)|omega
 refine hd_of (by unfold l109_0; rfl) ?_
 cases f1 : lineOk r.key r.value with
 | false =>
  rw [if_neg (by simp [paxStep, f1])] at hR
  rw [f1] at hc
  rw [← hR]
  unfold paxV paxH
  have gg:=trivial;repeat' first|simp (maxSteps:=2000000) (disch:=omega) only [gg,hc,hg0,lp_head,go_sem]|(refine br ?_ ?_<;>intro gg<;>try omega)|(apply And.intro;focus omega)|omega
 | true =>
  have hll := lineB_length (k := r.key) (v := r.value) (by simp [lineOk, kwB] at f1; omega) (by simp [lineOk] at f1; omega)
  rw [f1] at hc
  generalize hL : lineB r.key r.value = L at *
  by_cases f3 : L.length ≤ 65536
  ·rw [if_pos (by simp [paxStep, f1, hL, f3])] at hR
   have hne : (L.map AVal.byte).isEmpty = false := by
    have := lineB_pos (k := r.key) (v := r.value)
    rw [hL] at this
    cases L with
    | nil => simp at this
    | cons x y => rfl
   have ih := hh L l.length 1 L.length (by simp [hrs]) rfl rfl rfl f3 (by rw [← hR]; simp)
   have gg:=trivial;repeat' first|simp (maxSteps:=2000000) (disch:=omega) only [gg,hc,hg0,hne,lp_head,go_sem]|(refine br ?_ ?_<;>intro gg<;>try omega)|(apply And.intro;focus omega)|omega
  ·rw [if_neg (by simp [paxStep, f1, hL]; omega)] at hR
   rw [← hR]
   unfold paxV paxH
   have gg:=trivial;repeat' first|simp (maxSteps:=2000000) (disch:=omega) only [gg,hc,hg0,lp_head,go_sem]|(refine br ?_ ?_<;>intro gg<;>try omega)|(apply And.intro;focus omega)|omega
end Go.Abs
namespace Go.Abs
open Am
set_option maxRecDepth 10000
theorem s148 (b : BS) : callT AA 148 [b.av] [] = some (b.clipped.av, []) := by
 refine enter fn148 np148 rfl ?_
 have gg:=trivial;repeat' first|simp (maxSteps:=2000000) (disch:=omega) only [gg,b148,go_sem]|(refine br ?_ ?_<;>intro gg<;>try omega)|(apply And.intro;focus omega)|omega
def padN (n : Nat) : Nat := (512 - n % 512) % 512
/-- bytes, filled up -/
def padL (l : List UInt8) : List UInt8 := l ++ List.replicate (padN l.length) 0
/-- what is given where nothing is lacking -/
def padV (b : BS) : AVal := if padN b.l.length = 0 then b.clipped.av else .own 0 1 0 (padL b.l).length false
def padH (b : BS) : Heap := if padN b.l.length = 0 then [] else [(0, .row ((padL b.l).map .byte) 1)]
theorem s110 (b : BS) (hb : b.l.length ≤ 1000000000) : callT AA 110 [b.av] [] = some (padV b, padH b) := by
 have h1 := s148 b
 refine enter fn110 np110 rfl ?_
 cases b with
 | nil =>
  have e0 : padN 0 = 0 := rfl
  have e1 : (0 : Int).tmod 512 = 0 := rfl
  have e2 : (512 : Int).tmod 512 = 0 := rfl
  simp only [padV, padH, BS.l, List.length_nil, e0, if_true]
  simp only [BS.clipped, av_nil] at h1 ⊢
  have gg:=trivial;repeat' first|simp (maxSteps:=2000000) (disch:=omega) only [gg,b110,h1,e1,e2,Int.sub_zero,List.replicate_zero,go_sem]|(refine br ?_ ?_<;>intro gg<;>try omega)|(apply And.intro;focus omega)|omega
 | mk c t l =>
  simp only [BS.l] at hb
  have e1 : ((l.length : Int)).tmod 512 = ((l.length % 512 : Nat) : Int) := by
   rw [Int.tmod_eq_emod_of_nonneg (by omega)]
   omega
  have e2 : ((512 : Int) - ((l.length % 512 : Nat) : Int)).tmod 512 = ((padN l.length : Nat) : Int) := by
   rw [Int.tmod_eq_emod_of_nonneg (by omega)]
   unfold padN
   omega
  have e3 : padN l.length < 512 := by
   unfold padN
   omega
  simp only [padV, padH, BS.l, padL]
  simp only [BS.clipped, mk_av] at h1 ⊢
  by_cases h0 : padN l.length = 0
  ·have gg:=trivial;repeat' first|simp (maxSteps:=2000000) (disch:=omega) only [gg,b110,h1,e1,e2,h0,List.replicate_zero,go_sem]|(refine br ?_ ?_<;>intro gg<;>try omega)|(apply And.intro;focus omega)|omega
  ·have e4 : ((List.replicate (padN l.length) (0 : UInt8)).map AVal.byte).isEmpty = false := by
    cases hp : padN l.length with
    | zero => exact (h0 hp).elim
    | succ n => rfl
   have gg:=trivial;repeat' first|simp (maxSteps:=2000000) (disch:=omega) only [gg,b110,h1,e1,e2,h0,e4,List.map_append,go_sem]|(refine br ?_ ?_<;>intro gg<;>try omega)|(apply And.intro;focus omega)|omega
/-- .. of bytes of one's own -/
def padOV (l : List UInt8) : AVal := if padN l.length = 0 then .own 0 1 0 l.length true else .own 1 1 0 (padL l).length false
def padOH (l : List UInt8) : Heap := if padN l.length = 0 then [(0, .row (l.map .byte) 1)] else [(0, .row (l.map .byte) 1), (1, .row ((padL l).map .byte) 1)]
theorem s148o (l : List AVal) (n : Nat) : callT AA 148 [.own 0 1 0 n false] [(0, .row l 1)] = some (.own 0 1 0 n true, [(0, .row l 1)]) := by
 refine enter fn148 np148 rfl ?_
 have gg:=trivial;repeat' first|simp (maxSteps:=2000000) (disch:=omega) only [gg,b148,go_sem]|(refine br ?_ ?_<;>intro gg<;>try omega)|(apply And.intro;focus omega)|omega
theorem s110o (l : List UInt8) (n : Nat) (hn : n = l.length) (hb : l.length ≤ 1000000000) : callT AA 110 [.own 0 1 0 n false] [(0, .row (l.map .byte) 1)] = some (padOV l, padOH l) := by
 subst hn
 have h1 := s148o (l.map .byte) l.length
 have e0 : (l.map AVal.byte).take l.length = l.map AVal.byte := List.take_of_length_le (by simp)
 refine enter fn110 np110 rfl ?_
 have e1 : ((l.length : Int)).tmod 512 = ((l.length % 512 : Nat) : Int) := by
  rw [Int.tmod_eq_emod_of_nonneg (by omega)]
  omega
 have e2 : ((512 : Int) - ((l.length % 512 : Nat) : Int)).tmod 512 = ((padN l.length : Nat) : Int) := by
  rw [Int.tmod_eq_emod_of_nonneg (by omega)]
  unfold padN
  omega
 have e3 : padN l.length < 512 := by
  unfold padN
  omega
 simp only [padOV, padOH, padL]
 by_cases h0 : padN l.length = 0
 ·have gg:=trivial;repeat' first|simp (maxSteps:=2000000) (disch:=omega) only [gg,b110,h1,e1,e2,e0,h0,List.replicate_zero,go_sem]|(refine br ?_ ?_<;>intro gg<;>try omega)|(apply And.intro;focus omega)|omega
 ·have e4 : ((List.replicate (padN l.length) (0 : UInt8)).map AVal.byte).isEmpty = false := by
   cases hp : padN l.length with
   | zero => exact (h0 hp).elim
   | succ n => rfl
  have gg:=trivial;repeat' first|simp (maxSteps:=2000000) (disch:=omega) only [gg,b110,h1,e1,e2,e0,h0,e4,List.map_append,go_sem]|(refine br ?_ ?_<;>intro gg<;>try omega)|(apply And.intro;focus omega)|omega
end Go.Abs
