import Derived.Test.YtambgnjkakdoeaaGreatDoorReads7
import Derived.Lib.TrimAscii
import Derived.Lib.TrimUEq
import Derived.Lib.ValidLaws
/- PART OF A PROOF (texts joined by a program): F2 F3 F4 F5 F6 F7 F8 F60 F61 F62 F63 F64 F65. -/
set_option linter.unusedVariables false
set_option linter.unusedSimpArgs false
set_option linter.unusedSectionVars false
namespace Go.Abs
open Am
set_option maxRecDepth 10000
def textB (s : List UInt8) (most : Int) : Bool := decide (s ≠ []) && decide ((s.length : Int) ≤ most) && Lib.validD s && decide (Lib.indexByte s 0 < 0)
def partB (s : List UInt8) : Bool := textB s 120 && decide (s ≠ [46]) && decide (s ≠ [46, 46]) && decide (Lib.indexByte s 47 < 0)
theorem s151 (s : List UInt8) (most : Int) (hs : s.length ≤ 1000000) : callT AA 151 [.str s, .int .i64 most] [] = some (.bool (textB s most), []) := by
 refine enter fn151 np151 rfl ?_
 have gg:=trivial;repeat' first|simp (maxSteps:=2000000) (disch:=omega) only [gg,b151,s192,go_sem]|(refine br ?_ ?_<;>intro gg<;>try omega)|(apply And.intro;focus omega)|omega
 (all_goals (first | (simp_all [textB]; done) | (simp_all [textB]; omega) | (simp_all [textB]; intros; omega) | (simp_all [textB]; rw [Bool.eq_iff_iff]; simp; done) | (simp_all [textB]; rw [Bool.eq_iff_iff]; simp; omega)))
theorem s190 (s : List UInt8) (hs : s.length ≤ 1000000) : callT AA 190 [.str s] [] = some (.bool (partB s), []) := by
 have h := s151 s 120 hs
 refine enter fn190 np190 rfl ?_
 have gg:=trivial;repeat' first|simp (maxSteps:=2000000) (disch:=omega) only [gg,b190,h,s225,go_sem]|(refine br ?_ ?_<;>intro gg<;>try omega)|(apply And.intro;focus omega)|omega
 (all_goals (first | (simp_all [partB]; done) | (simp_all [partB]; omega) | (simp_all [partB]; intros; omega) | (simp_all [partB]; rw [Bool.eq_iff_iff]; simp; done) | (simp_all [partB]; rw [Bool.eq_iff_iff]; simp; omega)))
theorem s189 (s : List UInt8) (hs : s.length ≤ 1000000) : callT AA 189 [.str s] [] = some (.bool (!partB s), []) := by
 have h := s190 s hs
 refine enter fn189 np189 rfl ?_
 have gg:=trivial;repeat' first|simp (maxSteps:=2000000) (disch:=omega) only [gg,b189,h,go_sem]|(refine br ?_ ?_<;>intro gg<;>try omega)|(apply And.intro;focus omega)|omega
/-- the first that is no part -/
def badAt (i : Int) : List (List UInt8) → Int
 | [] => -1
 | p :: r => if partB p = true then badAt (i + 1) r else i
theorem badAt_neg : ∀ (ps : List (List UInt8)) (i : Int), 0 ≤ i → (decide (0 ≤ badAt i ps) = !ps.all partB)
 | [], i, _ => by simp [badAt]
 | p :: r, i, h => by
  unfold badAt
  have ih := badAt_neg r (i + 1) (by omega)
  by_cases hp : partB p = true
  ·simp [hp, ih]
  ·simp [hp, h]
theorem h224 (c t : Bool) (ps : List (List UInt8)) (hps : ps.length ≤ 2000000) (hq : ∀ p ∈ ps, p.length ≤ 1000000) (r0 : Int) : ∀ (rest done : List (List UInt8)) (n i : Int), ps = done ++ rest → i = done.length → n = ps.length → r0 = badAt i rest →
  HD AA 0 [0, 1, 4, 7, 8] l224_0 ⟨[.view 1 (ps.map .str) c t, .func (.func 189) [], .junk, .junk, .int .i64 0, .junk, .junk, .int .i64 n, .int .i64 i, .junk, .junk, .junk, .junk, .junk, .junk, .junk, .junk, .junk, .junk], [], 0⟩ [.blk 0, .code r224_0] (Fin [(4, none)] 0 (.int .i64 r0) [])
 | [], done, n, i, h1, h2, h3, h4 => by
  subst h1
  refine hd_of (by unfold l224_0; rfl) ?_
  simp at h3
  have gg:=trivial;repeat' first|simp (maxSteps:=2000000) (disch:=omega) only [gg,r224_0,go_sem]|(refine br ?_ ?_<;>intro gg<;>try omega)|(apply And.intro;focus omega)|omega
  simp [h4, badAt]
 | p :: r, done, n, i, h1, h2, h3, h4 => by
  have hp := s189 p (hq p (by simp [h1]))
  have hg : ps[i.toNat]? = some p := by
   rw [h1]
   simp [h2]
  have hl : i.toNat < ps.length := by rw [h1]; simp; omega
  have ih := h224 c t ps hps hq r0 r (done ++ [p]) n (i + 1) (by simp [h1]) (by first | omega | (simp; omega) | (simp; done)) h3
  refine hd_of (by unfold l224_0; rfl) ?_
  unfold badAt at h4
  by_cases hb : partB p = true
  ·rw [if_pos hb] at h4
   have ih := ih h4
   have gg:=trivial;repeat' first|simp (maxSteps:=2000000) (disch:=omega) only [gg,hp,hg,hb,lp_head,ih,go_sem]|(refine br ?_ ?_<;>intro gg<;>try omega)|(apply And.intro;focus omega)|omega
  ·rw [if_neg hb] at h4
   have hb' : partB p = false := by simpa using hb
   have gg:=trivial;repeat' first|simp (maxSteps:=2000000) (disch:=omega) only [gg,hp,hg,hb',lp_head,go_sem]|(refine br ?_ ?_<;>intro gg<;>try omega)|(apply And.intro;focus omega)|omega
   simp [h4]
theorem s188 (c t : Bool) (ps : List (List UInt8)) (hps : ps.length ≤ 2000000) (hq : ∀ p ∈ ps, p.length ≤ 1000000) : callT AA 188 [.view 1 (ps.map .str) c t, .func (.func 189) []] [] = some (.bool (!ps.all partB), []) := by
 have h : callT AA 224 [.view 1 (ps.map .str) c t, .func (.func 189) []] [] = some (.int .i64 (badAt 0 ps), []) := by
  refine enter fn224 np224 rfl ?_
  have gg:=trivial;repeat' first|simp (maxSteps:=2000000) (disch:=omega) only [gg,b224,lp_head,go_sem]|(refine br ?_ ?_<;>intro gg<;>try omega)|(apply And.intro;focus omega)|omega
  exact h224 c t ps hps hq _ ps [] _ _ rfl rfl rfl rfl
 have e := badAt_neg ps 0 (by omega)
 refine enter fn188 np188 rfl ?_
 have gg:=trivial;repeat' first|simp (maxSteps:=2000000) (disch:=omega) only [gg,b188,h,e,go_sem]|(refine br ?_ ?_<;>intro gg<;>try omega)|(apply And.intro;focus omega)|omega
def splitP (s : List UInt8) : List (List UInt8) := splitOn 47 s
def goodB (s : List UInt8) : Bool := decide (s.length ≤ 400) && (splitP s).all partB
theorem split_short (c : UInt8) : ∀ (s : List UInt8), ∀ p ∈ splitOn c s, p.length ≤ s.length
 | [], p, h => by simp [splitOn] at h; simp [h]
 | x :: r, p, h => by
  rw [splitOn_cons] at h
  have ih := split_short c r
  split at h
  ·rcases List.mem_cons.1 h with rfl | h
   ·simp
   ·have := ih p h; simp; omega
  ·split at h
   ·rename_i he; exact (splitOn_ne c r he).elim
   ·rename_i q qs he
    rcases List.mem_cons.1 h with rfl | h
    ·have := ih q (by simp [he]); simp; omega
    ·have := ih p (by simp [he, h]); simp; omega
theorem s112 (s : List UInt8) (hs : s.length ≤ 1000000) : callT AA 112 [.str s] [] = some (.bool (goodB s), []) := by
 have h187 := s187 s 47 hs
 have h188 := fun c t => s188 c t (splitOn 47 s) (by rw [split_length]; have := count_le s 47; omega) (fun p hp => Nat.le_trans (split_short 47 s p hp) hs)
 have hn : 0 < (splitOn 47 s).length := by rw [split_length]; omega
 have h149 : s.length ≤ 400 ∧ (splitOn 47 s).all partB = true → callT AA 149 [.str s] [] = some (.own 0 1 0 (splitOn 47 s).length false, [(0, .row ((splitOn 47 s).map .str) 1)]) := by
  rintro ⟨h1, h2⟩
  refine enter fn149 np149 rfl ?_
  have gg:=trivial;repeat' first|simp (maxSteps:=2000000) (disch:=omega) only [gg,b149,h187,h188,h2,go_sem]|(refine br ?_ ?_<;>intro gg<;>try omega)|(apply And.intro;focus omega)|omega
 have h149' : ¬ (s.length ≤ 400 ∧ (splitOn 47 s).all partB = true) → callT AA 149 [.str s] [] = some (.nilS, []) := by
  intro h1
  by_cases h2 : s.length ≤ 400
  ·have h3 : (splitOn 47 s).all partB = false := by
    cases hx : (splitOn 47 s).all partB with
    | false => rfl
    | true => exact (h1 ⟨h2, hx⟩).elim
   refine enter fn149 np149 rfl ?_
   have gg:=trivial;repeat' first|simp (maxSteps:=2000000) (disch:=omega) only [gg,b149,h187,h188,h3,go_sem]|(refine br ?_ ?_<;>intro gg<;>try omega)|(apply And.intro;focus omega)|omega
  ·refine enter fn149 np149 rfl ?_
   have gg:=trivial;repeat' first|simp (maxSteps:=2000000) (disch:=omega) only [gg,b149,h187,h188,go_sem]|(refine br ?_ ?_<;>intro gg<;>try omega)|(apply And.intro;focus omega)|omega
 refine enter fn112 np112 rfl ?_
 by_cases hg : s.length ≤ 400 ∧ (splitOn 47 s).all partB = true
 ·have h := h149 hg
  have e : goodB s = true := by simp [goodB, splitP, hg]
  have gg:=trivial;repeat' first|simp (maxSteps:=2000000) (disch:=omega) only [gg,b112,h,e,go_sem]|(refine br ?_ ?_<;>intro gg<;>try omega)|(apply And.intro;focus omega)|omega
 ·have h := h149' hg
  have e : goodB s = false := by
   unfold goodB splitP
   by_cases h1 : s.length ≤ 400
   ·have : (splitOn 47 s).all partB = false := by
     cases hx : (splitOn 47 s).all partB with
     | false => rfl
     | true => exact (hg ⟨h1, hx⟩).elim
    simp [this]
   ·simp [h1]
  have gg:=trivial;repeat' first|simp (maxSteps:=2000000) (disch:=omega) only [gg,b112,h,e,go_sem]|(refine br ?_ ?_<;>intro gg<;>try omega)|(apply And.intro;focus omega)|omega
def lastAt (c : UInt8) : Nat → List UInt8 → Int
 | 0, _ => -1
 | k + 1, s => if s[k]? = some c then k else lastAt c k s
theorem h164 (s : List UInt8) (c : UInt8) (hs : s.length ≤ 1000000) (r0 : Int) : ∀ (k : Nat) (i : Int), k ≤ s.length → i = (k : Int) - 1 → r0 = lastAt c k s →
  HD AA 0 [0, 1, 4, 5] l164_0 ⟨[.str s, .int .u8 c.toNat, .junk, .junk, .int .i64 0, .int .i64 i, .junk, .junk, .junk, .junk, .junk, .junk, .junk, .junk, .junk, .junk, .junk, .junk, .junk], [], 0⟩ [.blk 0, .code r164_0] (Fin [(4, none)] 0 (.int .i64 r0) [])
 | 0, i, h1, h2, h3 => by
  refine hd_of (by unfold l164_0; rfl) ?_
  have gg:=trivial;repeat' first|simp (maxSteps:=2000000) (disch:=omega) only [gg,r164_0,go_sem]|(refine br ?_ ?_<;>intro gg<;>try omega)|(apply And.intro;focus omega)|omega
  simp [h3, lastAt]
 | k + 1, i, h1, h2, h3 => by
  have hk : k < s.length := h1
  have hi : i.toNat = k := by omega
  have hik : i = k := by omega
  have hg : s[k]? = some s[k] := List.getElem?_eq_getElem hk
  have ih := h164 s c hs r0 k (i - 1) (by omega) (by omega)
  refine hd_of (by unfold l164_0; rfl) ?_
  unfold lastAt at h3
  rw [hg] at h3
  by_cases hb : s[k] = c
  ·rw [if_pos (by rw [hb])] at h3
   have gg:=trivial;repeat' first|simp (maxSteps:=2000000) (disch:=omega) only [gg,hi,hg,lp_head,hb,go_sem]|(refine br ?_ ?_<;>intro gg<;>try omega)|(apply And.intro;focus omega)|omega
   simp [h3, hik]
  ·rw [if_neg (by simpa using hb)] at h3
   have hn : ¬ ((s[k].toNat : Int) = (c.toNat : Int)) := fun h => hb (UInt8.toNat_inj.1 (by omega))
   have ih := ih h3
   have gg:=trivial;repeat' first|simp (maxSteps:=2000000) (disch:=omega) only [gg,hi,hg,lp_head,hn,ih,go_sem]|(refine br ?_ ?_<;>intro gg<;>try omega)|(apply And.intro;focus omega)|omega
def lastB (c : UInt8) (s : List UInt8) : Int := lastAt c s.length s
theorem s129 (s : List UInt8) (c : UInt8) (hs : s.length ≤ 1000000) : callT AA 129 [.str s, .int .u8 c.toNat] [] = some (.int .i64 (lastB c s), []) := by
 have h : callT AA 164 [.str s, .int .u8 c.toNat] [] = some (.int .i64 (lastB c s), []) := by
  refine enter fn164 np164 rfl ?_
  have gg:=trivial;repeat' first|simp (maxSteps:=2000000) (disch:=omega) only [gg,b164,lp_head,go_sem]|(refine br ?_ ?_<;>intro gg<;>try omega)|(apply And.intro;focus omega)|omega
  exact h164 s c hs _ s.length _ (Nat.le_refl _) rfl rfl
 refine enter fn129 np129 rfl ?_
 have gg:=trivial;repeat' first|simp (maxSteps:=2000000) (disch:=omega) only [gg,b129,h,go_sem]|(refine br ?_ ?_<;>intro gg<;>try omega)|(apply And.intro;focus omega)|omega
end Go.Abs
namespace Go.Abs
open Am
set_option maxRecDepth 10000
theorem lastAt_lt (c : UInt8) (s : List UInt8) : ∀ k : Nat, lastAt c k s < k ∧ -1 ≤ lastAt c k s
 | 0 => by simp [lastAt]
 | k + 1 => by
  have := lastAt_lt c s k
  unfold lastAt
  split <;> omega
def parentP (s : List UInt8) : List UInt8 × Bool := if 0 ≤ lastB 47 s ∧ goodB s = true then (s.take (lastB 47 s).toNat, true) else ([], false)
theorem s84 (s : List UInt8) (hs : s.length ≤ 1000000) : callT AA 84 [.str s] [] = some (.tuple [.str (parentP s).1, .bool (parentP s).2], []) := by
 have h1 := s129 s 47 hs
 have h2 := s112 s hs
 have h3 := lastAt_lt 47 s s.length
 have h4 : lastB 47 s = lastAt 47 s.length s := rfl
 have e47 : ((47 : UInt8).toNat : Int) = 47 := rfl
 rw [e47] at h1
 refine enter fn84 np84 rfl ?_
 unfold parentP
 by_cases hl : lastB 47 s < 0
 ·have hx : ¬ (0 ≤ lastB 47 s ∧ goodB s = true) := by omega
  rw [if_neg hx]
  have gg:=trivial;repeat' first|simp (maxSteps:=2000000) (disch:=omega) only [gg,b84,h1,h2,go_sem]|(refine br ?_ ?_<;>intro gg<;>try omega)|(apply And.intro;focus omega)|omega
 ·cases hg : goodB s with
  | true =>
   rw [if_pos ⟨by omega, rfl⟩]
   rw [hg] at h2
   have gg:=trivial;repeat' first|simp (maxSteps:=2000000) (disch:=omega) only [gg,b84,h1,h2,go_sem]|(refine br ?_ ?_<;>intro gg<;>try omega)|(apply And.intro;focus omega)|omega
  | false =>
   rw [if_neg (by simp)]
   rw [hg] at h2
   have gg:=trivial;repeat' first|simp (maxSteps:=2000000) (disch:=omega) only [gg,b84,h1,h2,go_sem]|(refine br ?_ ?_<;>intro gg<;>try omega)|(apply And.intro;focus omega)|omega
def cutB (c : UInt8) (s : List UInt8) : List UInt8 × List UInt8 × Bool := if 0 ≤ Lib.indexByte s c then (s.take (Lib.indexByte s c).toNat, s.drop ((Lib.indexByte s c).toNat + 1), true) else (s, [], false)
theorem s119 (s : List UInt8) (c : UInt8) (hs : s.length ≤ 1000000) : callT AA 119 [.str s, .str [c]] [] = some (.tuple [.str (cutB c s).1, .str (cutB c s).2.1, .bool (cutB c s).2.2], []) := by
 have h1 := s202 s c
 have h3 := Lib.indexByte_ge s c
 have h4 := @indexByte_lt s c
 have h : callT AA 155 [.str s, .str [c]] [] = some (.tuple [.str (cutB c s).1, .str (cutB c s).2.1, .bool (cutB c s).2.2], []) := by
  refine enter fn155 np155 rfl ?_
  unfold cutB
  by_cases hl : 0 ≤ Lib.indexByte s c
  ·rw [if_pos hl]
   have gg:=trivial;repeat' first|simp (maxSteps:=2000000) (disch:=omega) only [gg,b155,h1,go_sem]|(refine br ?_ ?_<;>intro gg<;>try omega)|(apply And.intro;focus omega)|omega
  ·rw [if_neg hl]
   have gg:=trivial;repeat' first|simp (maxSteps:=2000000) (disch:=omega) only [gg,b155,h1,go_sem]|(refine br ?_ ?_<;>intro gg<;>try omega)|(apply And.intro;focus omega)|omega
 refine enter fn119 np119 rfl ?_
 have gg:=trivial;repeat' first|simp (maxSteps:=2000000) (disch:=omega) only [gg,b119,h,go_sem]|(refine br ?_ ?_<;>intro gg<;>try omega)|(apply And.intro;focus omega)|omega
theorem s132 (s t : List UInt8) : callT AA 132 [.str s, .str t] [] = some (.int .i64 (Lib.compareBytes s t), []) := by
 have h : callT AA 175 [.str s, .str t] [] = some (.int .i64 (Lib.compareBytes s t), []) := by
  refine enter fn175 np175 rfl ?_
  have gg:=trivial;repeat' first|simp (maxSteps:=2000000) (disch:=omega) only [gg,b175,go_sem]|(refine br ?_ ?_<;>intro gg<;>try omega)|(apply And.intro;focus omega)|omega
 refine enter fn132 np132 rfl ?_
 have gg:=trivial;repeat' first|simp (maxSteps:=2000000) (disch:=omega) only [gg,b132,h,go_sem]|(refine br ?_ ?_<;>intro gg<;>try omega)|(apply And.intro;focus omega)|omega
def cmpParts : List (List UInt8) → List (List UInt8) → Int
 | x :: xs, y :: ys => if Lib.compareBytes x y ≠ 0 then Lib.compareBytes x y else match xs, ys with
  | [], [] => 0
  | [], _ => -1
  | _, [] => 1
  | xs, ys => cmpParts xs ys
 | _, _ => 0
def cmpPath (a b : List UInt8) : Int := cmpParts (splitP a) (splitP b)
theorem cut_yes {c : UInt8} {s : List UInt8} (h : 0 ≤ Lib.indexByte s c) : cutB c s = (s.take (Lib.indexByte s c).toNat, s.drop ((Lib.indexByte s c).toNat + 1), true) ∧ splitOn c s = (cutB c s).1 :: splitOn c (cutB c s).2.1 := by
 have e : cutB c s = (s.take (Lib.indexByte s c).toNat, s.drop ((Lib.indexByte s c).toNat + 1), true) := if_pos h
 refine ⟨e, ?_⟩
 rw [e]
 exact (split_some h).1
theorem cut_no {c : UInt8} {s : List UInt8} (h : ¬ 0 ≤ Lib.indexByte s c) : cutB c s = (s, [], false) ∧ splitOn c s = [s] := ⟨if_neg h, (split_none (by omega)).1⟩
theorem cmp_yy {x y : List UInt8} {xs ys : List (List UInt8)} (h1 : xs ≠ []) (h2 : ys ≠ []) : cmpParts (x :: xs) (y :: ys) = if Lib.compareBytes x y ≠ 0 then Lib.compareBytes x y else cmpParts xs ys := by
 cases xs with
 | nil => exact (h1 rfl).elim
 | cons a ar => cases ys with
  | nil => exact (h2 rfl).elim
  | cons b br => rfl
theorem cmp_yn {x y : List UInt8} {xs : List (List UInt8)} (h1 : xs ≠ []) : cmpParts (x :: xs) [y] = if Lib.compareBytes x y ≠ 0 then Lib.compareBytes x y else 1 := by
 cases xs with
 | nil => exact (h1 rfl).elim
 | cons a ar => rfl
theorem cmp_ny {x y : List UInt8} {ys : List (List UInt8)} (h1 : ys ≠ []) : cmpParts [x] (y :: ys) = if Lib.compareBytes x y ≠ 0 then Lib.compareBytes x y else -1 := by
 cases ys with
 | nil => exact (h1 rfl).elim
 | cons a ar => rfl
theorem cmp_nn {x y : List UInt8} : cmpParts [x] [y] = if Lib.compareBytes x y ≠ 0 then Lib.compareBytes x y else 0 := rfl
theorem h87 (s t : List UInt8) (r0 : Int) (hs : s.length ≤ 1000000) (ht : t.length ≤ 1000000) (hr : r0 = cmpParts (splitP s) (splitP t)) :
  HD AA 0 [0, 1, 4] l87_0 ⟨[.str s, .str t, .junk, .junk, .int .i64 0, .junk, .junk, .junk, .junk, .junk, .junk, .junk, .junk, .junk, .junk, .junk, .junk, .junk, .junk, .junk, .junk, .junk, .junk, .junk, .junk, .junk, .junk, .junk, .junk, .junk, .junk, .junk, .junk, .junk, .junk, .junk, .junk, .junk, .junk, .junk, .junk, .junk, .junk, .junk, .junk, .junk], [], 0⟩ [.blk 0] (Fin [(4, none)] 0 (.int .i64 r0) []) := by
 have c1 := s119 s 47 hs
 have c2 := s119 t 47 ht
 unfold splitP at hr
 refine hd_of (by unfold l87_0; rfl) ?_
 by_cases hs' : 0 ≤ Lib.indexByte s 47
 ·obtain ⟨a1, a2⟩ := cut_yes hs'
  have a3 : (cutB 47 s).2.2 = true := by rw [a1]
  have a4 : (cutB 47 s).2.1.length < s.length := by
   rw [a1]
   have := @indexByte_lt s 47
   simp
   omega
  have an := splitOn_ne 47 (cutB 47 s).2.1
  rw [a3] at c1
  rw [a2] at hr
  by_cases ht' : 0 ≤ Lib.indexByte t 47
  ·obtain ⟨b1, b2⟩ := cut_yes ht'
   have b3 : (cutB 47 t).2.2 = true := by rw [b1]
   have b4 : (cutB 47 t).2.1.length < t.length := by
    rw [b1]
    have := @indexByte_lt t 47
    simp
    omega
   have bn := splitOn_ne 47 (cutB 47 t).2.1
   rw [b3] at c2
   rw [b2, cmp_yy an bn] at hr
   by_cases hc : Lib.compareBytes (cutB 47 s).1 (cutB 47 t).1 = 0
   ·rw [if_neg (by simpa using hc)] at hr
    have ih := h87 (cutB 47 s).2.1 (cutB 47 t).2.1 r0 (by omega) (by omega) hr
    have gg:=trivial;repeat' first|simp (maxSteps:=2000000) (disch:=omega) only [gg,c1,c2,s132,hc,lp_head,ih,go_sem]|(refine br ?_ ?_<;>intro gg<;>try omega)|(apply And.intro;focus omega)|omega
   ·rw [if_pos hc] at hr
    have gg:=trivial;repeat' first|simp (maxSteps:=2000000) (disch:=omega) only [gg,c1,c2,s132,hc,lp_head,hr,go_sem]|(refine br ?_ ?_<;>intro gg<;>try omega)|(apply And.intro;focus omega)|omega
  ·obtain ⟨b1, b2⟩ := cut_no ht'
   have b3 : (cutB 47 t).2.2 = false := by rw [b1]
   have b4 : (cutB 47 t).1 = t := by rw [b1]
   rw [b3, b4] at c2
   rw [b2, cmp_yn an] at hr
   by_cases hc : Lib.compareBytes (cutB 47 s).1 t = 0
   ·rw [if_neg (by simpa using hc)] at hr
    have gg:=trivial;repeat' first|simp (maxSteps:=2000000) (disch:=omega) only [gg,c1,c2,s132,hc,lp_head,hr,go_sem]|(refine br ?_ ?_<;>intro gg<;>try omega)|(apply And.intro;focus omega)|omega
   ·rw [if_pos hc] at hr
    have gg:=trivial;repeat' first|simp (maxSteps:=2000000) (disch:=omega) only [gg,c1,c2,s132,hc,lp_head,hr,go_sem]|(refine br ?_ ?_<;>intro gg<;>try omega)|(apply And.intro;focus omega)|omega
 ·obtain ⟨a1, a2⟩ := cut_no hs'
  have a3 : (cutB 47 s).2.2 = false := by rw [a1]
  have a4 : (cutB 47 s).1 = s := by rw [a1]
  rw [a3, a4] at c1
  rw [a2] at hr
  by_cases ht' : 0 ≤ Lib.indexByte t 47
  ·obtain ⟨b1, b2⟩ := cut_yes ht'
   have b3 : (cutB 47 t).2.2 = true := by rw [b1]
   have bn := splitOn_ne 47 (cutB 47 t).2.1
   rw [b3] at c2
   rw [b2, cmp_ny bn] at hr
   by_cases hc : Lib.compareBytes s (cutB 47 t).1 = 0
   ·rw [if_neg (by simpa using hc)] at hr
    have gg:=trivial;repeat' first|simp (maxSteps:=2000000) (disch:=omega) only [gg,c1,c2,s132,hc,lp_head,hr,go_sem]|(refine br ?_ ?_<;>intro gg<;>try omega)|(apply And.intro;focus omega)|omega
   ·rw [if_pos hc] at hr
    have gg:=trivial;repeat' first|simp (maxSteps:=2000000) (disch:=omega) only [gg,c1,c2,s132,hc,lp_head,hr,go_sem]|(refine br ?_ ?_<;>intro gg<;>try omega)|(apply And.intro;focus omega)|omega
  ·obtain ⟨b1, b2⟩ := cut_no ht'
   have b3 : (cutB 47 t).2.2 = false := by rw [b1]
   have b4 : (cutB 47 t).1 = t := by rw [b1]
   rw [b3, b4] at c2
   rw [b2, cmp_nn] at hr
   by_cases hc : Lib.compareBytes s t = 0
   ·rw [if_neg (by simpa using hc)] at hr
    have gg:=trivial;repeat' first|simp (maxSteps:=2000000) (disch:=omega) only [gg,c1,c2,s132,hc,lp_head,hr,go_sem]|(refine br ?_ ?_<;>intro gg<;>try omega)|(apply And.intro;focus omega)|omega
   ·rw [if_pos hc] at hr
    have gg:=trivial;repeat' first|simp (maxSteps:=2000000) (disch:=omega) only [gg,c1,c2,s132,hc,lp_head,hr,go_sem]|(refine br ?_ ?_<;>intro gg<;>try omega)|(apply And.intro;focus omega)|omega
termination_by s.length
theorem s87 (s t : List UInt8) (hs : s.length ≤ 1000000) (ht : t.length ≤ 1000000) : callT AA 87 [.str s, .str t] [] = some (.int .i64 (cmpPath s t), []) := by
 refine enter fn87 np87 rfl ?_
 have gg:=trivial;repeat' first|simp (maxSteps:=2000000) (disch:=omega) only [gg,b87,lp_head,go_sem]|(refine br ?_ ?_<;>intro gg<;>try omega)|(apply And.intro;focus omega)|omega
 exact h87 s t _ hs ht rfl
end Go.Abs
namespace Go.Abs
open Am
set_option maxRecDepth 10000
def metaB (n least : Int) : Bool := decide (least ≤ n) && decide (n ≤ 1099511627776)
theorem s150 (n least : Int) : callT AA 150 [.int .i64 n, .int .i64 least] [] = some (.bool (metaB n least), []) := by
 refine enter fn150 np150 rfl ?_
 have gg:=trivial;repeat' first|simp (maxSteps:=2000000) (disch:=omega) only [gg,b150,go_sem]|(refine br ?_ ?_<;>intro gg<;>try omega)|(apply And.intro;focus omega)|omega
 (all_goals (first | (simp_all [metaB]; done) | (simp_all [metaB]; omega) | (simp_all [metaB]; intros; omega) | (simp_all [metaB]; rw [Bool.eq_iff_iff]; simp; done) | (simp_all [metaB]; rw [Bool.eq_iff_iff]; simp; omega)))
def fieldsB (e : Ent) : Bool :=
 if e.mode < 0 ∨ 4095 < e.mode then false else
 if metaB e.uid 0 = false ∨ metaB e.gid 0 = false ∨ metaB e.time (-1099511627776) = false then false else
 if e.kind = 1 then decide (e.link = []) && decide (e.data.l.length = 0) else
 if e.kind = 2 then decide (e.link = []) && decide (e.data.l.length ≤ 65536) else
 if e.kind = 3 then textB e.link 400 && decide (e.data.l.length = 0) else
 if e.kind = 4 then goodB e.link && decide (e.data.l.length = 0) && decide (e.mode = 0) && decide (e.uid = 0) && decide (e.gid = 0) && decide (e.time = 0) else false
set_option maxHeartbeats 1000000 in
theorem s113 (e : Ent) (hl : e.link.length ≤ 1000000) : callT AA 113 [e.av] [] = some (.bool (fieldsB e), []) := by
 have h1 := s151 e.link 400 hl
 have h2 := s112 e.link hl
 have hd : (e.data.l.length : Int) = 0 ↔ e.data.l = [] := by
  constructor
  ·intro h; exact List.eq_nil_of_length_eq_zero (by omega)
  ·intro h; simp [h]
 refine enter fn113 np113 rfl ?_
 have gg:=trivial;repeat' first|simp (maxSteps:=2000000) (disch:=omega) only [gg,b113,s150,h1,h2,go_sem]|(refine br ?_ ?_<;>intro gg<;>try omega)|(apply And.intro;focus omega)|omega
 all_goals (clear h1 h2 hl)
 (all_goals (first | (simp_all [fieldsB]; done) | (simp_all [fieldsB]; omega) | (simp_all [fieldsB]; intros; omega) | (simp_all [fieldsB]; rw [Bool.eq_iff_iff]; simp; done) | (simp_all [fieldsB]; rw [Bool.eq_iff_iff]; simp; omega)))
structure Ck where
 ks : Kinds
 last : List UInt8
 size : Int
def Ck.heap (c : Ck) : Heap := [(0, .var [.mapr 1, .str c.last, .int .i64 c.size]), (1, .map (c.ks.map kv))]
attribute [go_sem] Ck.heap
/-- an entry behind others: the error's number, what is known behind it -/
def entryE (c : Ck) (e : Ent) : Int × Ck :=
 if goodB e.path = false then (12, c) else
 if fieldsB e = false then (13, c) else
 if 0 < c.ks.length ∧ 0 ≤ cmpPath c.last e.path then (13, c) else
 if (parentP e.path).2 = true ∧ lk (parentP e.path).1 c.ks ≠ 1 then (13, c) else
 if e.kind = 4 ∧ lk e.link c.ks ≠ 2 then (13, c) else
 if 1048576 < c.size + e.data.l.length then (18, { c with size := c.size + e.data.l.length }) else
 (0, { ks := putK e.path e.kind c.ks, last := e.path, size := c.size + e.data.l.length })
set_option maxHeartbeats 2000000 in
theorem s67 (c : Ck) (e : Ent) (hl : e.link.length ≤ 1000000) (hp : e.path.length ≤ 1000000) (hc : c.last.length ≤ 1000000) (hs : 0 ≤ c.size ∧ c.size ≤ 1048576) (hd : e.data.l.length ≤ 281474976710656) :
  callT AA 67 [.ptr 0 0, e.av] c.heap = some (errV (entryE c e).1, (entryE c e).2.heap) := by
 have h1 := s112 e.path hp
 have h2 := s113 e hl
 have h3 := s87 c.last e.path hc hp
 have h4 := s84 e.path hp
 simp only [Ent.av] at h2
 have e12 : errV 12 = .iface 58 (.int .i64 12) := rfl
 have e13 : errV 13 = .iface 58 (.int .i64 13) := rfl
 have e18 : errV 18 = .iface 58 (.int .i64 18) := rfl
 have e0 : errV 0 = .lit .nilIface := rfl
 refine enter fn67 np67 rfl ?_
 cases g1 : goodB e.path with
 | false =>
  have he : entryE c e = (12, c) := by simp [entryE, g1]
  rw [g1] at h1
  rw [he, e12]
  have gg:=trivial;repeat' first|simp (maxSteps:=2000000) (disch:=omega) only [gg,b67,h1,go_sem]|(refine br ?_ ?_<;>intro gg<;>try omega)|(apply And.intro;focus omega)|omega
 | true =>
  rw [g1] at h1
  cases g2 : fieldsB e with
  | false =>
   have he : entryE c e = (13, c) := by simp [entryE, g1, g2]
   rw [g2] at h2
   rw [he, e13]
   have gg:=trivial;repeat' first|simp (maxSteps:=2000000) (disch:=omega) only [gg,b67,h1,h2,go_sem]|(refine br ?_ ?_<;>intro gg<;>try omega)|(apply And.intro;focus omega)|omega
  | true =>
   rw [g2] at h2
   by_cases g3 : 0 < c.ks.length ∧ 0 ≤ cmpPath c.last e.path
   ·have he : entryE c e = (13, c) := by simp [entryE, g1, g2, g3]
    obtain ⟨g3a, g3b⟩ := g3
    rw [he, e13]
    have gg:=trivial;repeat' first|simp (maxSteps:=2000000) (disch:=omega) only [gg,b67,h1,h2,h3,go_sem]|(refine br ?_ ?_<;>intro gg<;>try omega)|(apply And.intro;focus omega)|omega
   ·by_cases g4 : (parentP e.path).2 = true ∧ lk (parentP e.path).1 c.ks ≠ 1
    ·have he : entryE c e = (13, c) := by
      unfold entryE
      rw [if_neg (by simp [g1]), if_neg (by simp [g2]), if_neg g3, if_pos g4]
     obtain ⟨g4a, g4b⟩ := g4
     rw [g4a] at h4
     rw [he, e13]
     have gg:=trivial;repeat' first|simp (maxSteps:=2000000) (disch:=omega) only [gg,b67,h1,h2,h3,h4,go_sem]|(refine br ?_ ?_<;>intro gg<;>try omega)|(apply And.intro;focus omega)|omega
    ·by_cases g5 : e.kind = 4 ∧ lk e.link c.ks ≠ 2
     ·have he : entryE c e = (13, c) := by
       unfold entryE
       rw [if_neg (by simp [g1]), if_neg (by simp [g2]), if_neg g3, if_neg g4, if_pos g5]
      obtain ⟨g5a, g5b⟩ := g5
      rw [he, e13]
      have gg:=trivial;repeat' first|simp (maxSteps:=2000000) (disch:=omega) only [gg,b67,h1,h2,h3,h4,go_sem]|(refine br ?_ ?_<;>intro gg<;>try omega)|(apply And.intro;focus omega)|omega
      (all_goals (first | (simp_all []; done) | (simp_all []; omega) | (simp_all []; intros; omega) | (simp_all []; rw [Bool.eq_iff_iff]; simp; done) | (simp_all []; rw [Bool.eq_iff_iff]; simp; omega)))
     ·by_cases g6 : 1048576 < c.size + e.data.l.length
      ·have he : entryE c e = (18, { c with size := c.size + e.data.l.length }) := by
        unfold entryE
        rw [if_neg (by simp [g1]), if_neg (by simp [g2]), if_neg g3, if_neg g4, if_neg g5, if_pos g6]
       rw [he, e18]
       have gg:=trivial;repeat' first|simp (maxSteps:=2000000) (disch:=omega) only [gg,b67,h1,h2,h3,h4,go_sem]|(refine br ?_ ?_<;>intro gg<;>try omega)|(apply And.intro;focus omega)|omega
       (all_goals (first | (simp_all []; done) | (simp_all []; omega) | (simp_all []; intros; omega) | (simp_all []; rw [Bool.eq_iff_iff]; simp; done) | (simp_all []; rw [Bool.eq_iff_iff]; simp; omega)))
      ·have he : entryE c e = (0, { ks := putK e.path e.kind c.ks, last := e.path, size := c.size + e.data.l.length }) := by
        unfold entryE
        rw [if_neg (by simp [g1]), if_neg (by simp [g2]), if_neg g3, if_neg g4, if_neg g5, if_neg g6]
       rw [he, e0]
       have gg:=trivial;repeat' first|simp (maxSteps:=2000000) (disch:=omega) only [gg,b67,h1,h2,h3,h4,go_sem]|(refine br ?_ ?_<;>intro gg<;>try omega)|(apply And.intro;focus omega)|omega
       (all_goals (first | (simp_all []; done) | (simp_all []; omega) | (simp_all []; intros; omega) | (simp_all []; rw [Bool.eq_iff_iff]; simp; done) | (simp_all []; rw [Bool.eq_iff_iff]; simp; omega)))
end Go.Abs
namespace Go.Abs
open Am
set_option maxRecDepth 10000
def checkL (c : Ck) (i : Int) : List Ent → Int × Int
 | [] => (-1, 0)
 | e :: r => if (entryE c e).1 = 0 then checkL (entryE c e).2 (i + 1) r else (i, (entryE c e).1)
def checkT (t : List Ent) : Int × Int := if 200 < t.length then (t.length, 19) else checkL ⟨[], [], 0⟩ 0 t
/-- what texts and rows there may be -/
def EntOk (e : Ent) : Prop := e.link.length ≤ 1000000 ∧ e.path.length ≤ 1000000 ∧ e.data.l.length ≤ 281474976710656 ∧ e.data.isTmp = false
theorem entryE_err (c : Ck) (e : Ent) : (entryE c e).1 = 0 ∨ 0 < (entryE c e).1 := by
 unfold entryE
 repeat' split
 all_goals simp
theorem entryE_ok {c : Ck} {e : Ent} (h : (entryE c e).1 = 0) : (entryE c e).2.last = e.path ∧ (entryE c e).2.size ≤ 1048576 ∧ (entryE c e).2.size = c.size + e.data.l.length := by
 unfold entryE at h ⊢
 by_cases g1 : goodB e.path = false
 ·rw [if_pos g1] at h; simp at h
 rw [if_neg g1] at h ⊢
 by_cases g2 : fieldsB e = false
 ·rw [if_pos g2] at h; simp at h
 rw [if_neg g2] at h ⊢
 by_cases g3 : 0 < c.ks.length ∧ 0 ≤ cmpPath c.last e.path
 ·rw [if_pos g3] at h; simp at h
 rw [if_neg g3] at h ⊢
 by_cases g4 : (parentP e.path).2 = true ∧ lk (parentP e.path).1 c.ks ≠ 1
 ·rw [if_pos g4] at h; simp at h
 rw [if_neg g4] at h ⊢
 by_cases g5 : e.kind = 4 ∧ lk e.link c.ks ≠ 2
 ·rw [if_pos g5] at h; simp at h
 rw [if_neg g5] at h ⊢
 by_cases g6 : 1048576 < c.size + e.data.l.length
 ·rw [if_pos g6] at h; simp at h
 rw [if_neg g6]
 exact ⟨rfl, by show c.size + e.data.l.length ≤ 1048576; omega, rfl⟩
theorem h31 (cl tmp : Bool) (t : List Ent) (ht : t.length ≤ 200) (hq : ∀ e ∈ t, EntOk e) (r0 : Int × Int) : ∀ (rest done : List Ent) (c : Ck) (n i : Int), t = done ++ rest → i = done.length → n = t.length → c.last.length ≤ 1000000 → (0 ≤ c.size ∧ c.size ≤ 1048576) → r0 = checkL c i rest →
  HD AA 0 [2, 3, 4, 17, 18, 19] l31_0 ⟨[.junk, .junk, .int .i64 0, .lit .nilIface, .ptr 0 0, .junk, .junk, .junk, .junk, .junk, .junk, .junk, .junk, .junk, .junk, .junk, .junk, .view 8 (t.map Ent.av) cl tmp, .int .i64 n, .int .i64 i, .junk, .junk, .junk, .junk, .junk, .junk, .junk, .junk, .junk, .junk, .junk, .junk], c.heap, 2⟩ [.blk 0, .code r31_0] (Fin [(2, none), (3, none)] 0 (.tuple [.int .i64 r0.1, errV r0.2]) [])
 | [], done, c, n, i, h1, h2, h3, h4, h5, h6 => by
  subst h1
  refine hd_of (by unfold l31_0; rfl) ?_
  simp at h3
  have e0 : errV 0 = .lit .nilIface := rfl
  have gg:=trivial;repeat' first|simp (maxSteps:=2000000) (disch:=omega) only [gg,r31_0,go_sem]|(refine br ?_ ?_<;>intro gg<;>try omega)|(apply And.intro;focus omega)|omega
  simp [h6, checkL, errV]
 | e :: r, done, c, n, i, h1, h2, h3, h4, h5, h6 => by
  obtain ⟨q1, q2, q3, q4⟩ := hq e (by simp [h1])
  have hp := s67 c e q1 q2 h4 h5 q3
  simp only [Ent.av] at hp
  have hg : t[i.toNat]? = some e := by
   rw [h1]
   simp [h2]
  have hl : i.toNat < t.length := by rw [h1]; simp; omega
  refine hd_of (by unfold l31_0; rfl) ?_
  unfold checkL at h6
  rcases entryE_err c e with he | he
  ·rw [if_pos he] at h6
   obtain ⟨k1, k2, k3⟩ := entryE_ok he
   have ih := h31 cl tmp t ht hq r0 r (done ++ [e]) (entryE c e).2 n (i + 1) (by simp [h1]) (by first | omega | (simp; omega) | (simp; done)) h3 (by rw [k1]; exact q2) ⟨by omega, k2⟩ h6
   have e0 : errV (entryE c e).1 = .lit .nilIface := by rw [he]; rfl
   rw [e0] at hp
   simp only [Ck.heap] at hp ih
   have gg:=trivial;repeat' first|simp (maxSteps:=2000000) (disch:=omega) only [gg,hp,hg,lp_head,ih,go_sem]|(refine br ?_ ?_<;>intro gg<;>try omega)|(apply And.intro;focus omega)|omega
  ·rw [if_neg (by omega)] at h6
   have e0 : errV (entryE c e).1 = .iface 58 (.int .i64 (entryE c e).1) := by unfold errV; rw [if_neg (by omega)]
   rw [e0] at hp
   simp only [Ck.heap] at hp
   have gg:=trivial;repeat' first|simp (maxSteps:=2000000) (disch:=omega) only [gg,hp,hg,lp_head,go_sem]|(refine br ?_ ?_<;>intro gg<;>try omega)|(apply And.intro;focus omega)|omega
   simp [h6, e0]
theorem s31 (cl tmp : Bool) (t : List Ent) (hq : ∀ e ∈ t, EntOk e) (hl : t.length ≤ 1000000000) : callT AA 31 [.view 8 (t.map Ent.av) cl tmp] [] = some (.tuple [.int .i64 (checkT t).1, errV (checkT t).2], []) := by
 refine enter fn31 np31 rfl ?_
 unfold checkT
 by_cases ht : 200 < t.length
 ·rw [if_pos ht]
  have e0 : errV 19 = .iface 58 (.int .i64 19) := rfl
  have gg:=trivial;repeat' first|simp (maxSteps:=2000000) (disch:=omega) only [gg,b31,e0,go_sem]|(refine br ?_ ?_<;>intro gg<;>try omega)|(apply And.intro;focus omega)|omega
 ·rw [if_neg ht]
  have gg:=trivial;repeat' first|simp (maxSteps:=2000000) (disch:=omega) only [gg,b31,lp_head,go_sem]|(refine br ?_ ?_<;>intro gg<;>try omega)|(apply And.intro;focus omega)|omega
  exact h31 cl tmp t (by omega) hq _ t [] ⟨[], [], 0⟩ _ _ rfl rfl rfl (by simp) (by simp) rfl
theorem s31n : callT AA 31 [.lit (.slice none 0 0)] [] = some (.tuple [.int .i64 (-1), .lit .nilIface], []) := by
 refine enter fn31 np31 rfl ?_
 have gg:=trivial;repeat' first|simp (maxSteps:=2000000) (disch:=omega) only [gg,b31,lp_head,go_sem]|(refine br ?_ ?_<;>intro gg<;>try omega)|(apply And.intro;focus omega)|omega
 refine hd_of (by unfold l31_0; rfl) ?_
 have gg:=trivial;repeat' first|simp (maxSteps:=2000000) (disch:=omega) only [gg,r31_0,go_sem]|(refine br ?_ ?_<;>intro gg<;>try omega)|(apply And.intro;focus omega)|omega
theorem s101 (c t : Bool) (l : List UInt8) (hl : l.length ≤ 281474976710656 / 4) : callT AA 101 [(BS.mk c t l).av] [] = some (.own 0 1 0 l.length false, [(0, .row (l.map .byte) 1)]) := by
 refine enter fn101 np101 rfl ?_
 have gg:=trivial;repeat' first|simp (maxSteps:=2000000) (disch:=omega) only [gg,b101,BS.isNil,go_sem]|(refine br ?_ ?_<;>intro gg<;>try omega)|(apply And.intro;focus omega)|omega
theorem s101n : callT AA 101 [.lit (.slice none 0 0)] [] = some (.lit (.slice none 0 0), []) := by
 refine enter fn101 np101 rfl ?_
 have gg:=trivial;repeat' first|simp (maxSteps:=2000000) (disch:=omega) only [gg,b101,BS.isNil,go_sem]|(refine br ?_ ?_<;>intro gg<;>try omega)|(apply And.intro;focus omega)|omega
theorem s108 (e : Ent) (c t : Bool) (l : List UInt8) (he : e.data = .mk c t l) (hl : l.length ≤ 281474976710656 / 4) : callT AA 108 [e.av] [] = some (.agg [.str e.path, .int .i64 e.kind, .int .i64 e.mode, .int .i64 e.uid, .int .i64 e.gid, .int .i64 e.time, .str e.link, .own 0 1 0 l.length false], [(0, .row (l.map .byte) 1)]) := by
 have h := s101 c t l hl
 refine enter fn108 np108 rfl ?_
 have gg:=trivial;repeat' first|simp (maxSteps:=2000000) (disch:=omega) only [gg,b108,h,he,go_sem]|(refine br ?_ ?_<;>intro gg<;>try omega)|(apply And.intro;focus omega)|omega
theorem s108n (e : Ent) (he : e.data = .nil) : callT AA 108 [e.av] [] = some (e.av, []) := by
 refine enter fn108 np108 rfl ?_
 have gg:=trivial;repeat' first|simp (maxSteps:=2000000) (disch:=omega) only [gg,b108,s101n,he,go_sem]|(refine br ?_ ?_<;>intro gg<;>try omega)|(apply And.intro;focus omega)|omega
theorem h65 (c tmp : Bool) (t : List Ent) (ht : t.length ≤ 1000000) (hq : ∀ e ∈ t, e.data.l.length ≤ 281474976710656 / 4) : ∀ (rest done : List Ent) (n i : Int) (q : Nat), t = done ++ rest → i = done.length → n = t.length → q = done.length →
  HD AA 0 [2, 3, 6, 7, 8] l65_0 ⟨[.junk, .junk, .lit (.slice none 0 0), .own 0 8 0 q false, .junk, .junk, .view 8 (t.map Ent.av) c tmp, .int .i64 n, .int .i64 i, .junk, .junk, .junk, .junk, .junk, .junk, .junk, .junk, .junk, .junk], [(0, .row (done.map Ent.cav) 8)], 1⟩ [.blk 0, .code r65_0] (Fin [(2, none)] 0 (.own 0 8 0 t.length false) [(0, .row (t.map Ent.cav) 8)])
 | [], done, n, i, q, h1, h2, h3, h4 => by
  subst h1
  refine hd_of (by unfold l65_0; rfl) ?_
  simp at h3
  have gg:=trivial;repeat' first|simp (maxSteps:=2000000) (disch:=omega) only [gg,r65_0,go_sem]|(refine br ?_ ?_<;>intro gg<;>try omega)|(apply And.intro;focus omega)|omega
  simp [h4]
 | e :: r, done, n, i, q, h1, h2, h3, h4 => by
  have hg : t[i.toNat]? = some e := by
   rw [h1]
   simp [h2]
  have hl : i.toNat < t.length := by rw [h1]; simp; omega
  have he := hq e (by simp [h1])
  have ih := h65 c tmp t ht hq r (done ++ [e]) n (i + 1) (q + 1) (by simp [h1]) (by first | omega | (simp; omega) | (simp; done)) h3 (by first | omega | (simp; omega) | (simp; done))
  refine hd_of (by unfold l65_0; rfl) ?_
  subst h4
  cases hd : e.data with
  | nil =>
   have hp := s108n e hd
   simp only [Ent.av, hd, av_nil] at hp
   simp only [List.map_append, List.map_cons, List.map_nil, Ent.cav, hd, cp_nil, av_nil] at ih
   have gg:=trivial;repeat' first|simp (maxSteps:=2000000) (disch:=omega) only [gg,hp,hg,hd,lp_head,go_sem]|(refine br ?_ ?_<;>intro gg<;>try omega)|(apply And.intro;focus omega)|omega
  | mk cc tt l =>
   rw [hd] at he
   have hp := s108 e cc tt l hd he
   simp only [Ent.av, hd] at hp
   simp only [List.map_append, List.map_cons, List.map_nil, Ent.cav, hd, cp_mk, mk_av] at ih
   have gg:=trivial;repeat' first|simp (maxSteps:=2000000) (disch:=omega) only [gg,hp,hg,hd,lp_head,go_sem]|(refine br ?_ ?_<;>intro gg<;>try omega)|(apply And.intro;focus omega)|omega
/-- what Copy gives: nil, or a row of one's own -/
theorem s65n : callT AA 65 [.lit (.slice none 0 0)] [] = some (.lit (.slice none 0 0), []) := by
 refine enter fn65 np65 rfl ?_
 have gg:=trivial;repeat' first|simp (maxSteps:=2000000) (disch:=omega) only [gg,b65,lp_head,go_sem]|(refine br ?_ ?_<;>intro gg<;>try omega)|(apply And.intro;focus omega)|omega
 refine hd_of (by unfold l65_0; rfl) ?_
 have gg:=trivial;repeat' first|simp (maxSteps:=2000000) (disch:=omega) only [gg,r65_0,go_sem]|(refine br ?_ ?_<;>intro gg<;>try omega)|(apply And.intro;focus omega)|omega
theorem s65 (c tmp : Bool) (e : Ent) (r : List Ent) (ht : (e :: r).length ≤ 1000000) (hq : ∀ x ∈ e :: r, x.data.l.length ≤ 281474976710656 / 4) : callT AA 65 [.view 8 ((e :: r).map Ent.av) c tmp] [] = some (.own 0 8 0 (e :: r).length false, [(0, .row ((e :: r).map Ent.cav) 8)]) := by
 have he := hq e (by simp)
 have ih := h65 c tmp (e :: r) ht hq r [e] (e :: r).length 1 1 rfl rfl rfl rfl
 refine enter fn65 np65 rfl ?_
 generalize ht' : e :: r = t at *
 have hg : t[0]? = some e := by rw [← ht']; rfl
 have hl : 0 < t.length := by rw [← ht']; simp
 have gg:=trivial;repeat' first|simp (maxSteps:=2000000) (disch:=omega) only [gg,b65,lp_head,go_sem]|(refine br ?_ ?_<;>intro gg<;>try omega)|(apply And.intro;focus omega)|omega
 refine hd_of (by unfold l65_0; rfl) ?_
 cases hd : e.data with
 | nil =>
  have hp := s108n e hd
  simp only [Ent.av, hd, av_nil] at hp
  simp only [List.map_append, List.map_cons, List.map_nil, Ent.cav, hd, cp_nil, av_nil] at ih
  have gg:=trivial;repeat' first|simp (maxSteps:=2000000) (disch:=omega) only [gg,hp,hg,hd,lp_head,go_sem]|(refine br ?_ ?_<;>intro gg<;>try omega)|(apply And.intro;focus omega)|omega
 | mk cc tt l =>
  rw [hd] at he
  have hp := s108 e cc tt l hd he
  simp only [Ent.av, hd] at hp
  simp only [List.map_append, List.map_cons, List.map_nil, Ent.cav, hd, cp_mk, mk_av] at ih
  have gg:=trivial;repeat' first|simp (maxSteps:=2000000) (disch:=omega) only [gg,hp,hg,hd,lp_head,go_sem]|(refine br ?_ ?_<;>intro gg<;>try omega)|(apply And.intro;focus omega)|omega
end Go.Abs
namespace Go.Abs
open Am
set_option maxRecDepth 10000
theorem s46 (n : Int) : callT AA 46 [.int .i64 n] [] = some (.bool (decide (0 ≤ n ∧ n < 2097152)), []) := by
 refine enter fn46 np46 rfl ?_
 have gg:=trivial;repeat' first|simp (maxSteps:=2000000) (disch:=omega) only [gg,b46,go_sem]|(refine br ?_ ?_<;>intro gg<;>try omega)|(apply And.intro;focus omega)|omega
 (all_goals (first | (simp_all []; done) | (simp_all []; omega) | (simp_all []; intros; omega) | (simp_all []; rw [Bool.eq_iff_iff]; simp; done) | (simp_all []; rw [Bool.eq_iff_iff]; simp; omega)))
theorem s48 (n : Int) : callT AA 48 [.int .i64 n] [] = some (.bool (decide (0 ≤ n ∧ n < 8589934592)), []) := by
 refine enter fn48 np48 rfl ?_
 have gg:=trivial;repeat' first|simp (maxSteps:=2000000) (disch:=omega) only [gg,b48,go_sem]|(refine br ?_ ?_<;>intro gg<;>try omega)|(apply And.intro;focus omega)|omega
 (all_goals (first | (simp_all []; done) | (simp_all []; omega) | (simp_all []; intros; omega) | (simp_all []; rw [Bool.eq_iff_iff]; simp; done) | (simp_all []; rw [Bool.eq_iff_iff]; simp; omega)))
theorem s127 (n : Int) : callT AA 127 [.int .i32 n] [] = some (.bool (decide (n = 0 ∨ 127 < n)), []) := by
 refine enter fn127 np127 rfl ?_
 have gg:=trivial;repeat' first|simp (maxSteps:=2000000) (disch:=omega) only [gg,b127,go_sem]|(refine br ?_ ?_<;>intro gg<;>try omega)|(apply And.intro;focus omega)|omega
 (all_goals (first | (simp_all []; done) | (simp_all []; omega) | (simp_all []; intros; omega) | (simp_all []; rw [Bool.eq_iff_iff]; simp; done) | (simp_all []; rw [Bool.eq_iff_iff]; simp; omega)))
def okByte (b : UInt8) : Bool := decide (b.toNat ≠ 0 ∧ b.toNat < 128)
theorem decode_high (b : UInt8) (t : List UInt8) (h : 128 ≤ b.toNat) : 128 ≤ (Lib.decodeL (b :: t)).1 := by
 rw [Lib.decodeL_N]
 have h0 : ((b :: t).getD 0 0).toNat = b.toNat := rfl
 rw [h0]
 have hb := b.toNat_lt
 unfold Lib.decodeN
 repeat' split
 all_goals (simp only []; omega)
/-- the place of the first byte that is none of 1..127 -/
def badByte : Int → List UInt8 → Int
 | _, [] => -1
 | i, b :: r => if okByte b = true then badByte (i + 1) r else i
theorem badByte_neg : ∀ (s : List UInt8) (i : Int), 0 ≤ i → (decide (badByte i s < 0) = s.all okByte)
 | [], i, _ => by simp [badByte]
 | b :: r, i, h => by
  unfold badByte
  have ih := badByte_neg r (i + 1) (by omega)
  by_cases hp : okByte b = true
  ·simp [hp, ih]
  ·simp [hp]; omega
theorem h161 (s : List UInt8) (hs : s.length ≤ 1000000) (r0 : Int) : ∀ (rest done : List UInt8) (pos : Nat), s = done ++ rest → pos = done.length → r0 = badByte pos rest →
  HD AA 0 [1, 2, 6, 10] l161_0 ⟨[.junk, .func (.func 127) [], .bool true, .junk, .junk, .junk, .int .i64 0, .junk, .junk, .junk, .ptr 0 0, .junk, .junk, .junk, .junk, .junk, .junk, .junk, .junk, .junk, .junk], [(0, .iter s pos)], 1⟩ [.blk 0, .code r161_0] (Fin [(6, none)] 0 (.int .i64 r0) [])
 | [], done, pos, h1, h2, h3 => by
  subst h1
  have hn : ¬ pos < done.length := by omega
  refine hd_of (by unfold l161_0; rfl) ?_
  have gg:=trivial;repeat' first|simp (maxSteps:=2000000) (disch:=omega) only [gg,r161_0,List.append_nil,hn,go_sem]|(refine br ?_ ?_<;>intro gg<;>try omega)|(apply And.intro;focus omega)|omega
  simp [h3, badByte]
 | b :: r, done, pos, h1, h2, h3 => by
  have hp : pos < s.length := by rw [h1, h2]; simp
  have hd : Utf8.decode ⟨s.toArray⟩ pos = Lib.decodeL (b :: r) := by
   rw [← Lib.decodeL_drop]
   have : (ByteArray.mk s.toArray).data.toList.drop pos = b :: r := by
    rw [h1, h2]; simp
   rw [this]
  refine hd_of (by unfold l161_0; rfl) ?_
  unfold badByte at h3
  by_cases hb : b.toNat < 128
  ·have ha := Lib.decodeL_ascii b r hb
   rw [ha] at hd
   by_cases hz : b.toNat = 0
   ·rw [if_neg (by simp [okByte, hz])] at h3
    have hf := s127 (b.toNat : Int)
    rw [decide_eq_true (by omega)] at hf
    have gg:=trivial;repeat' first|simp (maxSteps:=2000000) (disch:=omega) only [gg,hp,hd,hf,lp_head,go_sem]|(refine br ?_ ?_<;>intro gg<;>try omega)|(apply And.intro;focus omega)|omega
    simp [h3]
   ·rw [if_pos (by simp [okByte, hz, hb])] at h3
    have ih := h161 s hs r0 r (done ++ [b]) (pos + 1) (by simp [h1]) (by first | omega | (simp; omega) | (simp; done)) (by rw [h3]; simp)
    have hf := s127 (b.toNat : Int)
    rw [decide_eq_false (by omega)] at hf
    have gg:=trivial;repeat' first|simp (maxSteps:=2000000) (disch:=omega) only [gg,hp,hd,hf,lp_head,go_sem]|(refine br ?_ ?_<;>intro gg<;>try omega)|(apply And.intro;focus omega)|omega
  ·rw [if_neg (by simp [okByte]; omega)] at h3
   have hh := decode_high b r (by omega)
   generalize Lib.decodeL (b :: r) = dd at hd hh
   obtain ⟨d1, d2⟩ := dd
   simp only at hh
   have hf := s127 (d1 : Int)
   rw [decide_eq_true (by omega)] at hf
   have gg:=trivial;repeat' first|simp (maxSteps:=2000000) (disch:=omega) only [gg,hp,hd,hf,lp_head,go_sem]|(refine br ?_ ?_<;>intro gg<;>try omega)|(apply And.intro;focus omega)|omega
   simp [h3]
def asciiB (s : List UInt8) : Bool := s.all okByte
theorem s82 (s : List UInt8) (hs : s.length ≤ 1000000) : callT AA 82 [.str s] [] = some (.bool (asciiB s), []) := by
 have h1 : callT AA 161 [.str s, .func (.func 127) [], .bool true] [] = some (.int .i64 (badByte 0 s), []) := by
  refine enter fn161 np161 rfl ?_
  have gg:=trivial;repeat' first|simp (maxSteps:=2000000) (disch:=omega) only [gg,b161,lp_head,go_sem]|(refine br ?_ ?_<;>intro gg<;>try omega)|(apply And.intro;focus omega)|omega
  exact h161 s hs _ s [] 0 rfl rfl rfl
 have h2 : callT AA 126 [.str s, .func (.func 127) []] [] = some (.int .i64 (badByte 0 s), []) := by
  refine enter fn126 np126 rfl ?_
  have gg:=trivial;repeat' first|simp (maxSteps:=2000000) (disch:=omega) only [gg,b126,h1,go_sem]|(refine br ?_ ?_<;>intro gg<;>try omega)|(apply And.intro;focus omega)|omega
 have h3 := badByte_neg s 0 (by omega)
 refine enter fn82 np82 rfl ?_
 have gg:=trivial;repeat' first|simp (maxSteps:=2000000) (disch:=omega) only [gg,b82,h2,h3,asciiB,go_sem]|(refine br ?_ ?_<;>intro gg<;>try omega)|(apply And.intro;focus omega)|omega
theorem s45 (s : List UInt8) (hs : s.length ≤ 1000000) : callT AA 45 [.str s] [] = some (.bool (decide (s ≠ []) && decide ((s.length : Int) ≤ 100) && asciiB s), []) := by
 have h1 := s82 s hs
 refine enter fn45 np45 rfl ?_
 have gg:=trivial;repeat' first|simp (maxSteps:=2000000) (disch:=omega) only [gg,b45,h1,go_sem]|(refine br ?_ ?_<;>intro gg<;>try omega)|(apply And.intro;focus omega)|omega
 (all_goals (first | (simp_all []; done) | (simp_all []; omega) | (simp_all []; intros; omega) | (simp_all []; rw [Bool.eq_iff_iff]; simp; done) | (simp_all []; rw [Bool.eq_iff_iff]; simp; omega)))
end Go.Abs
namespace Go.Abs
open Am
set_option maxRecDepth 10000
def spOk (p : List UInt8) (i : Nat) : Bool := decide (p[i]? = some 47) && decide (1 ≤ i) && decide (i ≤ 155) && decide (i + 2 ≤ p.length) && decide (p.length ≤ i + 101)
def spAt (p : List UInt8) : Nat → Nat → List UInt8 × List UInt8 × Bool
 | 0, _ => ([], [], false)
 | k + 1, i => if spOk p i = true then (p.take i, p.drop (i + 1), true) else spAt p k (i + 1)
def splitN (p : List UInt8) : List UInt8 × List UInt8 × Bool :=
 if p = [] ∨ asciiB p = false then ([], [], false) else if p.length ≤ 100 then ([], p, true) else spAt p p.length 0
theorem h81 (p : List UInt8) (hp : p.length ≤ 1000000) (r0 : List UInt8 × List UInt8 × Bool) : ∀ (k i : Nat) (n j : Int), i + k = p.length → j = i → n = p.length → r0 = spAt p k i →
  HD AA 0 [0, 2, 3, 4, 18, 19] l81_0 ⟨[.str p, .junk, .str [], .str [], .bool false, .junk, .junk, .junk, .junk, .junk, .junk, .junk, .junk, .junk, .junk, .junk, .junk, .junk, .int .i64 n, .int .i64 j, .junk, .junk, .junk, .junk, .junk, .junk, .junk, .junk, .junk, .junk, .junk, .junk, .junk, .junk, .junk, .junk, .junk, .junk, .junk, .junk, .junk, .junk, .junk, .junk, .junk, .junk, .junk, .junk, .junk, .junk, .junk, .junk, .junk, .junk, .junk, .junk, .junk, .junk], [], 0⟩ [.blk 0, .code r81_0] (Fin [(2, none), (3, none), (4, none)] 0 (.tuple [.str r0.1, .str r0.2.1, .bool r0.2.2]) [])
 | 0, i, n, j, h1, h2, h3, h4 => by
  refine hd_of (by unfold l81_0; rfl) ?_
  have gg:=trivial;repeat' first|simp (maxSteps:=2000000) (disch:=omega) only [gg,r81_0,go_sem]|(refine br ?_ ?_<;>intro gg<;>try omega)|(apply And.intro;focus omega)|omega
  simp [h4, spAt]
 | k + 1, i, n, j, h1, h2, h3, h4 => by
  have hl : i < p.length := by omega
  have hg : p[i]? = some p[i] := List.getElem?_eq_getElem hl
  have hj : j.toNat = i := by omega
  refine hd_of (by unfold l81_0; rfl) ?_
  unfold spAt at h4
  by_cases hok : spOk p i = true
  ·rw [if_pos hok] at h4
   simp only [spOk, hg, Bool.and_eq_true, decide_eq_true_eq, Option.some.injEq] at hok
   have h47 : (p[i].toNat : Int) = 47 := by rw [hok.1.1.1.1]; rfl
   have gg:=trivial;repeat' first|simp (maxSteps:=2000000) (disch:=omega) only [gg,hg,hj,h47,go_sem]|(refine br ?_ ?_<;>intro gg<;>try omega)|(apply And.intro;focus omega)|omega
   simp [h4]
  ·rw [if_neg hok] at h4
   have ih := h81 p hp r0 k (i + 1) n (j + 1) (by first | omega | (simp; omega) | (simp; done)) (by first | omega | (simp; omega) | (simp; done)) h3 h4
   simp only [spOk, hg, Bool.and_eq_true, decide_eq_true_eq, Option.some.injEq] at hok
   have hne : ¬ ((p[i].toNat : Int) = 47 ∧ 1 ≤ i ∧ i ≤ 155 ∧ i + 2 ≤ p.length ∧ p.length ≤ i + 101) := by
    rintro ⟨a, b⟩
    refine hok ⟨⟨⟨⟨UInt8.toNat_inj.1 (by rw [show (47 : UInt8).toNat = 47 from rfl]; omega), b.1⟩, b.2.1⟩, b.2.2.1⟩, b.2.2.2⟩
   have gg:=trivial;repeat' first|simp (maxSteps:=2000000) (disch:=omega) only [gg,hg,hj,lp_head,go_sem]|(refine br ?_ ?_<;>intro gg<;>try omega)|(apply And.intro;focus omega)|omega
theorem s81 (p : List UInt8) (hp : p.length ≤ 1000000) : callT AA 81 [.str p] [] = some (.tuple [.str (splitN p).1, .str (splitN p).2.1, .bool (splitN p).2.2], []) := by
 have h1 := s82 p hp
 refine enter fn81 np81 rfl ?_
 unfold splitN
 by_cases h0 : p = [] ∨ asciiB p = false
 ·rw [if_pos h0]
  by_cases he : p = []
  ·have gg:=trivial;repeat' first|simp (maxSteps:=2000000) (disch:=omega) only [gg,b81,h1,he,go_sem]|(refine br ?_ ?_<;>intro gg<;>try omega)|(apply And.intro;focus omega)|omega
  ·have ha : asciiB p = false := by simpa [he] using h0
   have gg:=trivial;repeat' first|simp (maxSteps:=2000000) (disch:=omega) only [gg,b81,h1,he,ha,go_sem]|(refine br ?_ ?_<;>intro gg<;>try omega)|(apply And.intro;focus omega)|omega
 ·rw [if_neg h0]
  have he : ¬ p = [] := fun h => h0 (.inl h)
  have ha : asciiB p = true := by
   cases hx : asciiB p with
   | true => rfl
   | false => exact (h0 (.inr hx)).elim
  by_cases hl : p.length ≤ 100
  ·rw [if_pos hl]
   have gg:=trivial;repeat' first|simp (maxSteps:=2000000) (disch:=omega) only [gg,b81,h1,he,ha,go_sem]|(refine br ?_ ?_<;>intro gg<;>try omega)|(apply And.intro;focus omega)|omega
  ·rw [if_neg hl]
   have gg:=trivial;repeat' first|simp (maxSteps:=2000000) (disch:=omega) only [gg,b81,h1,he,ha,lp_head,go_sem]|(refine br ?_ ?_<;>intro gg<;>try omega)|(apply And.intro;focus omega)|omega
   exact h81 p hp _ p.length 0 _ _ (by omega) rfl rfl rfl
theorem s44 (p : List UInt8) (hp : p.length ≤ 1000000) : callT AA 44 [.str p] [] = some (.bool (splitN p).2.2, []) := by
 have h1 := s81 p hp
 refine enter fn44 np44 rfl ?_
 have gg:=trivial;repeat' first|simp (maxSteps:=2000000) (disch:=omega) only [gg,b44,h1,go_sem]|(refine br ?_ ?_<;>intro gg<;>try omega)|(apply And.intro;focus omega)|omega
def idB (n : Int) : Bool := decide (0 ≤ n ∧ n < 2097152)
def timeB (n : Int) : Bool := decide (0 ≤ n ∧ n < 8589934592)
def linkB (s : List UInt8) : Bool := decide (s ≠ []) && decide ((s.length : Int) ≤ 100) && asciiB s
theorem i46 (n : Int) : callT AA 46 [.int .i64 n] [] = some (.bool (idB n), []) := s46 n
theorem i48 (n : Int) : callT AA 48 [.int .i64 n] [] = some (.bool (timeB n), []) := s48 n
theorem i45 (s : List UInt8) (hs : s.length ≤ 1000000) : callT AA 45 [.str s] [] = some (.bool (linkB s), []) := s45 s hs
theorem idB_iff {n : Int} : idB n = true ↔ 0 ≤ n ∧ n < 2097152 := by simp [idB]
theorem timeB_iff {n : Int} : timeB n = true ↔ 0 ≤ n ∧ n < 8589934592 := by simp [timeB]
attribute [irreducible] idB timeB linkB
def fitsB (h : Hd) : Bool :=
 idB h.mode && idB h.uid && idB h.gid && timeB h.size && timeB h.time &&
 (if h.type = 49 ∨ h.type = 50 then linkB h.link && decide (h.size = 0) else
  if h.type = 53 then decide (h.link = []) && decide (h.size = 0) else
  if h.type = 48 ∨ h.type = 120 then decide (h.link = []) else false)
theorem ty_eq (t : UInt8) (n : Nat) (hn : n < 256) : ((t.toNat : Int) = n) = (t = UInt8.ofNat n) := by
 apply propext
 constructor
 ·intro h
  have : t.toNat = n := by omega
  rw [← this]; simp
 ·rintro rfl
  simp; omega
theorem s115 (h : Hd) (hl : h.link.length ≤ 1000000) : callT AA 115 [h.av] [] = some (.bool (fitsB h), []) := by
 have h1 := i45 h.link hl
 have t49 : ((h.type.toNat : Int) = 49) = (h.type = 49) := ty_eq _ 49 (by omega)
 have t50 : ((h.type.toNat : Int) = 50) = (h.type = 50) := ty_eq _ 50 (by omega)
 have t53 : ((h.type.toNat : Int) = 53) = (h.type = 53) := ty_eq _ 53 (by omega)
 have t48 : ((h.type.toNat : Int) = 48) = (h.type = 48) := ty_eq _ 48 (by omega)
 have t120 : ((h.type.toNat : Int) = 120) = (h.type = 120) := ty_eq _ 120 (by omega)
 refine enter fn115 np115 rfl ?_
 have gg:=trivial;repeat' first|simp (maxSteps:=2000000) (disch:=omega) only [gg,b115,h1,i46,i48,t49,t50,t53,t48,t120,go_sem]|(refine br ?_ ?_<;>intro gg<;>try omega)|(apply And.intro;focus omega)|omega
 all_goals (clear h1 t49 t50 t53 t48 t120)
 (all_goals (first | (simp_all [fitsB]; done) | (simp_all [fitsB]; omega) | (simp_all [fitsB]; intros; omega) | (simp_all [fitsB]; rw [Bool.eq_iff_iff]; simp; done) | (simp_all [fitsB]; rw [Bool.eq_iff_iff]; simp; omega)))
end Go.Abs
namespace Go.Abs
open Am
set_option maxRecDepth 10000
@[go_sem high] theorem aBin_and7 {e : EqK} {c : Bool} {x : Int} (h0 : 0 ≤ x) (h1 : x ≤ 9223372036854775807) : aBin .and e c (.int .i64 x) (.int .i64 7) = some (.int .i64 (x % 8)) := by
 rw [aBin_and]
 have e : ((BitVec.ofInt IntKind.i64.bits x &&& BitVec.ofInt IntKind.i64.bits 7).toNat : Int) = x % 8 := and7 h0 h1
 rw [e, wrap_i64 (by omega) (by omega)]
/-- digits in octal, from the last on -/
def octW (bs : List UInt8) (pos : Nat) : Nat → Int → List UInt8
 | 0, _ => bs
 | k + 1, n => octW (bs.set (pos + k) (UInt8.ofNat (48 + n % 8).toNat)) pos k (n / 8)
theorem octW_length (pos : Nat) : ∀ (k : Nat) (bs : List UInt8) (n : Int), (octW bs pos k n).length = bs.length
 | 0, bs, n => rfl
 | k + 1, bs, n => by
  unfold octW
  rw [octW_length pos k]
  simp
theorem h116 (pos : Nat) (r0 : List UInt8) : ∀ (k : Nat) (bs : List UInt8) (q : Nat) (n i p : Int), p = pos → i = (k : Int) - 1 → q = bs.length → bs.length ≤ 1000000 → pos + k ≤ bs.length → 0 ≤ n → n ≤ 9223372036854775807 → r0 = octW bs pos k n →
  HD AA 1 [0, 1, 3, 8] l116_0 ⟨[.own 0 1 0 q false, .int .i64 p, .junk, .int .i64 n, .junk, .junk, .junk, .junk, .int .i64 i, .junk, .junk, .junk, .junk, .junk, .junk, .junk, .junk, .junk, .junk, .junk, .junk, .junk, .junk, .junk, .junk, .junk], [(0, .row (bs.map .byte) 1)], 2⟩ [.blk 0] (Fin [] 1 (.tuple []) [(0, .row (r0.map .byte) 1)])
 | 0, bs, q, n, i, p, h1, h2, h3, h4, h5, h6, h7, h8 => by
  refine hd_of (by unfold l116_0; rfl) ?_
  have gg:=trivial;repeat' first|simp (maxSteps:=2000000) (disch:=omega) only [gg,go_sem]|(refine br ?_ ?_<;>intro gg<;>try omega)|(apply And.intro;focus omega)|omega
  simp [h8, octW]
 | k + 1, bs, q, n, i, p, h1, h2, h3, h4, h5, h6, h7, h8 => by
  have ih := h116 pos r0 k (bs.set (pos + k) (UInt8.ofNat (48 + n % 8).toNat)) q (n / 8) (i - 1) p h1 (by first | omega | (simp; omega) | (simp; done)) (by simp [h3]) (by simp [h4]) (by simp; omega) (by omega) (by omega) h8
  have hi : (p + i).toNat = pos + k := by omega
  refine hd_of (by unfold l116_0; rfl) ?_
  have gg:=trivial;repeat' first|simp (maxSteps:=2000000) (disch:=omega) only [gg,and7,hi,lp_head,go_sem]|(refine br ?_ ?_<;>intro gg<;>try omega)|(apply And.intro;focus omega)|omega
theorem s116 (bs : List UInt8) (p digits n : Int) (pos k q : Nat) (h1 : p = pos) (h2 : digits = k) (h3 : q = bs.length) (h4 : bs.length ≤ 1000000) (h5 : pos + k ≤ bs.length) (h6 : 0 ≤ n) (h7 : n ≤ 9223372036854775807) :
  callT AA 116 [.own 0 1 0 q false, .int .i64 p, .int .i64 digits, .int .i64 n] [(0, .row (bs.map .byte) 1)] = some (.tuple [], [(0, .row ((octW bs pos k n).map .byte) 1)]) := by
 refine enter fn116 np116 rfl ?_
 have gg:=trivial;repeat' first|simp (maxSteps:=2000000) (disch:=omega) only [gg,b116,lp_head,go_sem]|(refine br ?_ ?_<;>intro gg<;>try omega)|(apply And.intro;focus omega)|omega
 exact h116 pos _ k bs q n (digits - 1) p h1 (by omega) h3 h4 h5 h6 h7 rfl
def sumL : Nat → List UInt8 → Int
 | _, [] => 0
 | i, c :: r => (if i < 148 ∨ 156 ≤ i then (c.toNat : Int) else 0) + sumL (i + 1) r
theorem sumL_le : ∀ (r : List UInt8) (i : Nat), 0 ≤ sumL i r ∧ sumL i r ≤ 255 * r.length
 | [], i => by simp [sumL]
 | c :: r, i => by
  have ih := sumL_le r (i + 1)
  have hc := c.toNat_lt
  unfold sumL
  simp only [List.length_cons]
  split <;> omega
theorem h117 (c t : Bool) (bs : List UInt8) (hb : bs.length ≤ 1000000) (r0 : Int) : ∀ (rest done : List UInt8) (acc n i : Int), bs = done ++ rest → i = done.length → n = bs.length → (0 ≤ acc ∧ acc ≤ 256 + 255 * done.length) → r0 = acc + sumL done.length rest →
  HD AA 0 [2, 3, 6, 7, 8] l117_0 ⟨[.junk, .junk, .int .i64 0, .int .i64 acc, .junk, .junk, .view 1 (bs.map .byte) c t, .int .i64 n, .int .i64 i, .junk, .junk, .junk, .junk, .junk, .junk, .junk, .junk, .junk, .junk, .junk, .junk, .junk, .junk, .junk, .junk], [], 0⟩ [.blk 0, .code r117_0] (Fin [(2, none)] 0 (.int .i64 r0) [])
 | [], done, acc, n, i, h1, h2, h3, h4, h5 => by
  subst h1
  simp at h3
  refine hd_of (by unfold l117_0; rfl) ?_
  have gg:=trivial;repeat' first|simp (maxSteps:=2000000) (disch:=omega) only [gg,r117_0,go_sem]|(refine br ?_ ?_<;>intro gg<;>try omega)|(apply And.intro;focus omega)|omega
  simp [h5, sumL]
 | x :: r, done, acc, n, i, h1, h2, h3, h4, h5 => by
  have hg : bs[i.toNat]? = some x := by
   rw [h1]
   simp [h2]
  have hl : i.toNat < bs.length := by rw [h1]; simp; omega
  have hx := x.toNat_lt
  refine hd_of (by unfold l117_0; rfl) ?_
  unfold sumL at h5
  by_cases hs : done.length < 148 ∨ 156 ≤ done.length
  ·rw [if_pos hs] at h5
   have ih := h117 c t bs hb r0 r (done ++ [x]) (acc + x.toNat) n (i + 1) (by simp [h1]) (by first | omega | (simp; omega) | (simp; done)) h3 (by first | omega | (simp; omega) | (simp; done)) (by rw [h5]; simp; omega)
   have gg:=trivial;repeat' first|simp (maxSteps:=2000000) (disch:=omega) only [gg,hg,lp_head,go_sem]|(refine br ?_ ?_<;>intro gg<;>try omega)|(apply And.intro;focus omega)|omega
  ·rw [if_neg hs] at h5
   have ih := h117 c t bs hb r0 r (done ++ [x]) acc n (i + 1) (by simp [h1]) (by first | omega | (simp; omega) | (simp; done)) h3 (by first | omega | (simp; omega) | (simp; done)) (by rw [h5]; simp)
   have gg:=trivial;repeat' first|simp (maxSteps:=2000000) (disch:=omega) only [gg,hg,lp_head,go_sem]|(refine br ?_ ?_<;>intro gg<;>try omega)|(apply And.intro;focus omega)|omega
theorem s117 (c t : Bool) (bs : List UInt8) (hb : bs.length ≤ 1000000) : callT AA 117 [.view 1 (bs.map .byte) c t] [] = some (.int .i64 (256 + sumL 0 bs), []) := by
 refine enter fn117 np117 rfl ?_
 have gg:=trivial;repeat' first|simp (maxSteps:=2000000) (disch:=omega) only [gg,b117,lp_head,go_sem]|(refine br ?_ ?_<;>intro gg<;>try omega)|(apply And.intro;focus omega)|omega
 exact h117 c t bs hb _ bs [] _ _ _ rfl rfl rfl (by simp) rfl
end Go.Abs
namespace Go.Abs
open Am
set_option maxRecDepth 10000
theorem split_mid {c : UInt8} : ∀ (a r : List UInt8), (∀ x ∈ a, x ≠ c) → splitOn c (a ++ c :: r) = a :: splitOn c r
 | [], r, _ => by simp [splitOn]
 | x :: a, r, h => by
  have ih := split_mid a r fun y hy => h y (by simp [hy])
  have hx : x ≠ c := h x (by simp)
  simp [splitOn, hx, ih]
theorem split_end {c : UInt8} : ∀ (a : List UInt8), (∀ x ∈ a, x ≠ c) → splitOn c a = [a]
 | [], _ => rfl
 | x :: a, h => by
  have ih := split_end a fun y hy => h y (by simp [hy])
  have hx : x ≠ c := h x (by simp)
  simp [splitOn, hx, ih]
theorem dt_eq {s pre a rest : List UInt8} (h : s = pre ++ (a ++ rest)) : List.take (pre.length + a.length - pre.length) (List.drop pre.length s) = a := by
 rw [h, List.drop_left' rfl, Nat.add_sub_cancel_left, List.take_left' rfl]
set_option maxHeartbeats 2000000 in
theorem h125o (s : List UInt8) (hs : s.length ≤ 1000000) (r0 : List (List UInt8)) : ∀ (rest a pre : List UInt8) (done : List (List UInt8)) (f i : Int) (q : Nat), s = pre ++ (a ++ rest) → f = pre.length → i = pre.length + a.length → (∀ x ∈ a, x ≠ 47) → q = done.length → done.length ≤ pre.length → r0 = done ++ splitOn 47 (a ++ rest) →
  HD AA 0 [0, 2, 3, 4, 5] l125_0 ⟨[.str s, .junk, .lit (.slice none 0 0), .own 0 1 0 q false, .int .i64 f, .int .i64 i, .junk, .junk, .junk, .junk, .junk, .junk, .junk, .junk, .junk, .junk, .junk, .junk, .junk, .junk, .junk, .junk, .junk, .junk, .junk, .junk, .junk, .junk, .junk, .junk, .junk, .junk], [(0, .row (done.map .str) 1)], 1⟩ [.blk 0, .code r125_0] (Fin [(2, none)] 0 (.own 0 1 0 r0.length false) [(0, .row (r0.map .str) 1)])
 | [], a, pre, done, f, i, q, h1, h2, h3, h4, h5, h6, h7 => by
  have hl : s.length = pre.length + a.length := by rw [h1]; simp
  have hd := dt_eq h1
  have ef : f.toNat = pre.length := by omega
  have ei : i.toNat = pre.length + a.length := by omega
  rw [List.append_nil, split_end a h4] at h7
  have et : (done.map AVal.str).take q = done.map .str := List.take_of_length_le (by rw [List.length_map]; omega)
  have hd1 : decide (i = (s.length : Int)) = true := decide_eq_true (by omega)
  refine hd_of (by unfold l125_0; rfl) ?_
  have gg:=trivial;repeat' first|simp (maxSteps:=2000000) (disch:=omega) only [gg,hd1,ef,ei,hd,et,lp_head,go_sem]|(refine br ?_ ?_<;>intro gg<;>try omega)|(apply And.intro;focus omega)|omega
  refine hd_of (by unfold l125_0; rfl) ?_
  rw [h7]
  have gg:=trivial;repeat' first|simp (maxSteps:=2000000) (disch:=omega) only [gg,r125_0,go_sem]|(refine br ?_ ?_<;>intro gg<;>try omega)|(apply And.intro;focus omega)|omega
  all_goals simp [h5]
 | x :: rest, a, pre, done, f, i, q, h1, h2, h3, h4, h5, h6, h7 => by
  have hl : s.length = pre.length + (a.length + (rest.length + 1)) := by rw [h1]; simp
  have hd := dt_eq h1
  have ef : f.toNat = pre.length := by omega
  have ei : i.toNat = pre.length + a.length := by omega
  have hd1 : decide (i = (s.length : Int)) = false := decide_eq_false (by omega)
  have hg : s[i.toNat]? = some x := by
   rw [ei, h1, ← List.append_assoc, List.getElem?_append_right (by simp)]
   simp
  rw [ei] at hg
  have et : (done.map AVal.str).take q = done.map .str := List.take_of_length_le (by rw [List.length_map]; omega)
  by_cases hx : x = 47
  ·subst hx
   rw [split_mid a rest h4] at h7
   have hx2 : ((47 : UInt8).toNat : Int) = 47 := rfl
   have ih := h125o s hs r0 rest [] (pre ++ (a ++ [47])) (done ++ [a]) (i + 1) (i + 1) (q + 1) (by rw [h1]; simp) (by simp; omega) (by simp; omega) (by simp) (by simp [h5]) (by simp; omega) (by rw [h7]; simp)
   simp only [List.map_append, List.map_cons, List.map_nil] at ih
   refine hd_of (by unfold l125_0; rfl) ?_
   have gg:=trivial;repeat' first|simp (maxSteps:=2000000) (disch:=omega) only [gg,hd1,ef,ei,hd,hg,et,hx2,lp_head,go_sem]|(refine br ?_ ?_<;>intro gg<;>try omega)|(apply And.intro;focus omega)|omega
  ·have hx2 : ¬ (x.toNat : Int) = 47 := by
    intro hh
    exact hx ((ty_eq x 47 (by omega)).mp hh)
   have ih := h125o s hs r0 rest (a ++ [x]) pre done f (i + 1) q (by rw [h1]; simp) h2 (by simp; omega) (by
    intro y hy
    rcases List.mem_append.1 hy with hy | hy
    ·exact h4 y hy
    ·rw [List.mem_singleton.1 hy]; exact hx) h5 h6 (by rw [h7]; simp)
   refine hd_of (by unfold l125_0; rfl) ?_
   have gg:=trivial;repeat' first|simp (maxSteps:=2000000) (disch:=omega) only [gg,hd1,ei,hg,hx2,lp_head,go_sem]|(refine br ?_ ?_<;>intro gg<;>try omega)|(apply And.intro;focus omega)|omega
set_option maxHeartbeats 2000000 in
theorem h125n (s : List UInt8) (hs : s.length ≤ 1000000) (r0 : List (List UInt8)) : ∀ (rest a : List UInt8) (i : Int), s = a ++ rest → i = a.length → (∀ x ∈ a, x ≠ 47) → r0 = splitOn 47 (a ++ rest) →
  HD AA 0 [0, 2, 3, 4, 5] l125_0 ⟨[.str s, .junk, .lit (.slice none 0 0), .lit (.slice none 0 0), .int .i64 0, .int .i64 i, .junk, .junk, .junk, .junk, .junk, .junk, .junk, .junk, .junk, .junk, .junk, .junk, .junk, .junk, .junk, .junk, .junk, .junk, .junk, .junk, .junk, .junk, .junk, .junk, .junk, .junk], [], 0⟩ [.blk 0, .code r125_0] (Fin [(2, none)] 0 (.own 0 1 0 r0.length false) [(0, .row (r0.map .str) 1)])
 | [], a, i, h1, h3, h4, h7 => by
  have hl : s.length = a.length := by rw [h1]; simp
  have hsa : s = a := by rw [h1]; simp
  have hd : List.take s.length s = s := List.take_length
  have ei : i.toNat = s.length := by omega
  rw [List.append_nil, split_end a h4, ← hsa] at h7
  have hd1 : decide (i = (s.length : Int)) = true := decide_eq_true (by omega)
  refine hd_of (by unfold l125_0; rfl) ?_
  have gg:=trivial;repeat' first|simp (maxSteps:=2000000) (disch:=omega) only [gg,hd1,ei,hd,Nat.sub_zero,List.drop_zero,lp_head,go_sem]|(refine br ?_ ?_<;>intro gg<;>try omega)|(apply And.intro;focus omega)|omega
  refine hd_of (by unfold l125_0; rfl) ?_
  rw [h7]
  have gg:=trivial;repeat' first|simp (maxSteps:=2000000) (disch:=omega) only [gg,r125_0,go_sem]|(refine br ?_ ?_<;>intro gg<;>try omega)|(apply And.intro;focus omega)|omega
 | x :: rest, a, i, h1, h3, h4, h7 => by
  have hl : s.length = a.length + (rest.length + 1) := by rw [h1]; simp
  have hd : List.take a.length s = a := by rw [h1, List.take_left' rfl]
  have ei : i.toNat = a.length := by omega
  have hd1 : decide (i = (s.length : Int)) = false := decide_eq_false (by omega)
  have hg : s[a.length]? = some x := by
   rw [h1, List.getElem?_append_right (by omega)]
   simp
  by_cases hx : x = 47
  ·subst hx
   rw [split_mid a rest h4] at h7
   have hx2 : ((47 : UInt8).toNat : Int) = 47 := rfl
   have ih := h125o s hs r0 rest [] (a ++ [47]) [a] (i + 1) (i + 1) 1 (by rw [h1]; simp) (by simp; omega) (by simp; omega) (by simp) rfl (by simp) (by rw [h7]; simp)
   simp only [List.map_cons, List.map_nil] at ih
   refine hd_of (by unfold l125_0; rfl) ?_
   have gg:=trivial;repeat' first|simp (maxSteps:=2000000) (disch:=omega) only [gg,hd1,ei,hd,hg,hx2,Nat.sub_zero,List.drop_zero,lp_head,go_sem]|(refine br ?_ ?_<;>intro gg<;>try omega)|(apply And.intro;focus omega)|omega
  ·have hx2 : ¬ (x.toNat : Int) = 47 := by
    intro hh
    exact hx ((ty_eq x 47 (by omega)).mp hh)
   have ih := h125n s hs r0 rest (a ++ [x]) (i + 1) (by rw [h1]; simp) (by simp; omega) (by
    intro y hy
    rcases List.mem_append.1 hy with hy | hy
    ·exact h4 y hy
    ·rw [List.mem_singleton.1 hy]; exact hx) (by rw [h7]; simp)
   refine hd_of (by unfold l125_0; rfl) ?_
   have gg:=trivial;repeat' first|simp (maxSteps:=2000000) (disch:=omega) only [gg,hd1,ei,hg,hx2,lp_head,go_sem]|(refine br ?_ ?_<;>intro gg<;>try omega)|(apply And.intro;focus omega)|omega
theorem s125 (s : List UInt8) (hs : s.length ≤ 1000000) : callT AA 125 [.str s] [] = some (.own 0 1 0 (splitOn 47 s).length false, [(0, .row ((splitOn 47 s).map .str) 1)]) := by
 have hh := h125n s hs (splitOn 47 s) s [] 0 rfl rfl (by simp) rfl
 refine enter fn125 np125 rfl ?_
 have gg:=trivial;repeat' first|simp (maxSteps:=2000000) (disch:=omega) only [gg,b125,lp_head,go_sem]|(refine br ?_ ?_<;>intro gg<;>try omega)|(apply And.intro;focus omega)|omega
end Go.Abs
namespace Go.Abs
open Am Lib
set_option maxRecDepth 10000
/-- how many bytes begin so; the bounds of the second -/
def utfT (c : Nat) : Nat × Int × Int :=
 if c < 128 then (1, 128, 191) else
 if 194 ≤ c ∧ c ≤ 223 then (2, 128, 191) else
 if c = 224 then (3, 160, 191) else
 if c = 237 then (3, 128, 159) else
 if 224 ≤ c ∧ c ≤ 239 then (3, 128, 191) else
 if c = 240 then (4, 144, 191) else
 if c = 244 then (4, 128, 143) else
 if 240 ≤ c ∧ c ≤ 244 then (4, 128, 191) else (0, 128, 191)
/-- what follows -/
def contB : Int → Int → List UInt8 → Bool
 | _, _, [] => true
 | lo, hi, b :: r => if (b.toNat : Int) < lo ∨ hi < b.toNat then false else contB 128 191 r
def utfF : Nat → List UInt8 → Bool
 | 0, _ => true
 | _ + 1, [] => true
 | k + 1, c :: r => if (utfT c.toNat).1 = 0 ∨ r.length + 1 < (utfT c.toNat).1 then false else
  if contB (utfT c.toNat).2.1 (utfT c.toNat).2.2 (r.take ((utfT c.toNat).1 - 1)) = false then false else utfF k (r.drop ((utfT c.toNat).1 - 1))
theorem utfT_le (c : Nat) : (utfT c).1 ≤ 4 := by
 unfold utfT
 repeat' split
 all_goals simp
theorem utf_first (c : Nat) (h : 128 ≤ c) (h2 : c < 256) : ((utfT c).1 = 0 ∧ firstT c % 8 = 1) ∨ ((utfT c).1 = firstT c % 8 ∧ ((utfT c).1 = 2 ∨ (utfT c).1 = 3 ∨ (utfT c).1 = 4) ∧ (utfT c).2.1 = (accLo (firstT c / 16) : Int) ∧ (utfT c).2.2 = (accHi (firstT c / 16) : Int)) := by
 have h3 : ∀ c : _root_.Fin 256, 128 ≤ c.val → ((utfT c.val).1 = 0 ∧ firstT c.val % 8 = 1) ∨ ((utfT c.val).1 = firstT c.val % 8 ∧ ((utfT c.val).1 = 2 ∨ (utfT c.val).1 = 3 ∨ (utfT c.val).1 = 4) ∧ (utfT c.val).2.1 = (accLo (firstT c.val / 16) : Int) ∧ (utfT c.val).2.2 = (accHi (firstT c.val / 16) : Int)) := by decide
 exact h3 ⟨c, h2⟩ h
theorem ut1 {c : Nat} (h : (c : Int) < 128) : utfT c = (1, 128, 191) := by unfold utfT; rw [if_pos (by omega)]
theorem ut2 {c : Nat} (h : 194 ≤ (c : Int)) (h2 : (c : Int) ≤ 223) : utfT c = (2, 128, 191) := by unfold utfT; rw [if_neg (by omega), if_pos (by omega)]
theorem ut3 {c : Nat} (h : (c : Int) = 224) : utfT c = (3, 160, 191) := by unfold utfT; rw [if_neg (by omega), if_neg (by omega), if_pos (by omega)]
theorem ut4 {c : Nat} (h : (c : Int) = 237) : utfT c = (3, 128, 159) := by unfold utfT; rw [if_neg (by omega), if_neg (by omega), if_neg (by omega), if_pos (by omega)]
theorem ut5 {c : Nat} (h : 224 ≤ (c : Int)) (h2 : (c : Int) ≤ 239) (h3 : ¬ (c : Int) = 224) (h4 : ¬ (c : Int) = 237) : utfT c = (3, 128, 191) := by unfold utfT; rw [if_neg (by omega), if_neg (by omega), if_neg (by omega), if_neg (by omega), if_pos (by omega)]
theorem ut6 {c : Nat} (h : (c : Int) = 240) : utfT c = (4, 144, 191) := by unfold utfT; rw [if_neg (by omega), if_neg (by omega), if_neg (by omega), if_neg (by omega), if_neg (by omega), if_pos (by omega)]
theorem ut7 {c : Nat} (h : (c : Int) = 244) : utfT c = (4, 128, 143) := by unfold utfT; rw [if_neg (by omega), if_neg (by omega), if_neg (by omega), if_neg (by omega), if_neg (by omega), if_neg (by omega), if_pos (by omega)]
theorem ut8 {c : Nat} (h : 240 ≤ (c : Int)) (h2 : (c : Int) ≤ 244) (h3 : ¬ (c : Int) = 240) (h4 : ¬ (c : Int) = 244) : utfT c = (4, 128, 191) := by unfold utfT; rw [if_neg (by omega), if_neg (by omega), if_neg (by omega), if_neg (by omega), if_neg (by omega), if_neg (by omega), if_neg (by omega), if_pos (by omega)]
theorem ut9 {c : Nat} (h : 128 ≤ (c : Int)) (h2 : ¬ (194 ≤ (c : Int) ∧ (c : Int) ≤ 223)) (h3 : ¬ (224 ≤ (c : Int) ∧ (c : Int) ≤ 239)) (h4 : ¬ (240 ≤ (c : Int) ∧ (c : Int) ≤ 244)) : utfT c = (0, 128, 191) := by unfold utfT; rw [if_neg (by omega), if_neg (by omega), if_neg (by omega), if_neg (by omega), if_neg (by omega), if_neg (by omega), if_neg (by omega), if_neg (by omega)]
/-- The table's form is utf8's. -/
theorem utf_valid : ∀ (k : Nat) (s : List UInt8), s.length ≤ k → utfF k s = Lib.validD s
 | 0, s, h => by
  have : s = [] := List.length_eq_zero_iff.1 (by omega)
  subst this; rfl
 | k + 1, [], _ => rfl
 | k + 1, c :: r, h => by
  rw [List.length_cons] at h
  by_cases hc : c.toNat < 128
  ·have h1 : utfT c.toNat = (1, 128, 191) := by unfold utfT; rw [if_pos hc]
   rw [validD_cons c r hc, ← utf_valid k r (by omega), utfF, h1]
   simp [contB]
  ·rw [validD_lead (c :: r) (by simp) (by simpa using hc)]
   have hd : ((c :: r).getD 0 0).toNat = c.toNat := rfl
   rw [hd, utfF]
   rcases utf_first c.toNat (by omega) c.toNat_lt with ⟨h1, h2⟩ | ⟨h1, h2, h3, h4⟩
   ·rw [h1, h2, if_pos (Or.inl rfl)]
    rfl
   ·rw [← h1, h3, h4]
    generalize accLo (firstT c.toNat / 16) = lo
    generalize accHi (firstT c.toNat / 16) = hi
    generalize (utfT c.toNat).1 = n at h2
    rcases h2 with rfl | rfl | rfl
    ·match r, h with
     | [], _ => simp [checkN]
     | a :: r, h =>
      have ih := utf_valid k r (by simp at h; omega)
      have e1 : (((a.toNat : Int) < lo ∨ (hi : Int) < a.toNat)) ↔ (a.toNat < lo ∨ hi < a.toNat) := by omega
      have hz : ¬ (2 = 0 ∨ (a :: r).length + 1 < 2) := by simp
      rw [if_neg hz]
      simp only [contB, checkN, List.length_cons, List.getD_cons_succ, List.getD_cons_zero, Nat.add_sub_cancel, List.take_succ_cons, List.take_zero, List.drop_succ_cons, List.drop_zero, e1, Nat.reduceSub]
      by_cases h5 : a.toNat < lo ∨ hi < a.toNat
      ·have h6 : r.length + 1 + 1 < 2 ∨ a.toNat < lo ∨ hi < a.toNat := by omega
       simp only [if_pos h5, if_pos h6, if_true]
      ·have h6 : ¬ (r.length + 1 + 1 < 2 ∨ a.toNat < lo ∨ hi < a.toNat) := by omega
       simp only [if_neg h5, if_neg h6, if_true, ih, Bool.true_eq_false, if_false, List.drop_succ_cons, List.drop_zero]
    ·match r, h with
     | [], _ => simp [checkN]
     | [a], _ => simp [checkN]
     | a :: b :: r, h =>
      have ih := utf_valid k r (by simp at h; omega)
      have e1 : (((a.toNat : Int) < lo ∨ (hi : Int) < a.toNat)) ↔ (a.toNat < lo ∨ hi < a.toNat) := by omega
      have e2 : (((b.toNat : Int) < 128 ∨ (191 : Int) < b.toNat)) ↔ (b.toNat < 128 ∨ 191 < b.toNat) := by omega
      have hz : ¬ (3 = 0 ∨ (a :: b :: r).length + 1 < 3) := by simp
      rw [if_neg hz]
      simp only [contB, checkN, List.length_cons, List.getD_cons_succ, List.getD_cons_zero, Nat.add_sub_cancel, List.take_succ_cons, List.take_zero, List.drop_succ_cons, List.drop_zero, e1, e2, Nat.reduceSub, Nat.reduceEqDiff, if_false]
      by_cases h5 : a.toNat < lo ∨ hi < a.toNat
      ·have h6 : r.length + 1 + 1 + 1 < 3 ∨ a.toNat < lo ∨ hi < a.toNat ∨ b.toNat < 128 ∨ 191 < b.toNat := by omega
       simp only [if_pos h5, if_pos h6, if_true]
      ·by_cases h7 : b.toNat < 128 ∨ 191 < b.toNat
       ·have h6 : r.length + 1 + 1 + 1 < 3 ∨ a.toNat < lo ∨ hi < a.toNat ∨ b.toNat < 128 ∨ 191 < b.toNat := by omega
        simp only [if_neg h5, if_pos h7, if_pos h6, if_true]
       ·have h6 : ¬ (r.length + 1 + 1 + 1 < 3 ∨ a.toNat < lo ∨ hi < a.toNat ∨ b.toNat < 128 ∨ 191 < b.toNat) := by omega
        simp only [if_neg h5, if_neg h7, if_neg h6, if_true, ih, Bool.true_eq_false, if_false, List.drop_succ_cons, List.drop_zero]
    ·match r, h with
     | [], _ => simp [checkN]
     | [a], _ => simp [checkN]
     | [a, b], _ => simp [checkN]
     | a :: b :: d :: r, h =>
      have ih := utf_valid k r (by simp at h; omega)
      have e1 : (((a.toNat : Int) < lo ∨ (hi : Int) < a.toNat)) ↔ (a.toNat < lo ∨ hi < a.toNat) := by omega
      have e2 : (((b.toNat : Int) < 128 ∨ (191 : Int) < b.toNat)) ↔ (b.toNat < 128 ∨ 191 < b.toNat) := by omega
      have e3 : (((d.toNat : Int) < 128 ∨ (191 : Int) < d.toNat)) ↔ (d.toNat < 128 ∨ 191 < d.toNat) := by omega
      have hz : ¬ (4 = 0 ∨ (a :: b :: d :: r).length + 1 < 4) := by simp
      rw [if_neg hz]
      simp only [contB, checkN, List.length_cons, List.getD_cons_succ, List.getD_cons_zero, Nat.add_sub_cancel, List.take_succ_cons, List.take_zero, List.drop_succ_cons, List.drop_zero, e1, e2, e3, Nat.reduceSub, Nat.reduceEqDiff, if_false]
      by_cases h5 : a.toNat < lo ∨ hi < a.toNat
      ·have h6 : r.length + 1 + 1 + 1 + 1 < 4 ∨ a.toNat < lo ∨ hi < a.toNat ∨ b.toNat < 128 ∨ 191 < b.toNat ∨ d.toNat < 128 ∨ 191 < d.toNat := by omega
       simp only [if_pos h5, if_pos h6, if_true]
      ·by_cases h7 : b.toNat < 128 ∨ 191 < b.toNat
       ·have h6 : r.length + 1 + 1 + 1 + 1 < 4 ∨ a.toNat < lo ∨ hi < a.toNat ∨ b.toNat < 128 ∨ 191 < b.toNat ∨ d.toNat < 128 ∨ 191 < d.toNat := by omega
        simp only [if_neg h5, if_pos h7, if_pos h6, if_true]
       ·by_cases h8 : d.toNat < 128 ∨ 191 < d.toNat
        ·have h6 : r.length + 1 + 1 + 1 + 1 < 4 ∨ a.toNat < lo ∨ hi < a.toNat ∨ b.toNat < 128 ∨ 191 < b.toNat ∨ d.toNat < 128 ∨ 191 < d.toNat := by omega
         simp only [if_neg h5, if_neg h7, if_pos h8, if_pos h6, if_true]
        ·have h6 : ¬ (r.length + 1 + 1 + 1 + 1 < 4 ∨ a.toNat < lo ∨ hi < a.toNat ∨ b.toNat < 128 ∨ 191 < b.toNat ∨ d.toNat < 128 ∨ 191 < d.toNat) := by omega
         simp only [if_neg h5, if_neg h7, if_neg h8, if_neg h6, if_true, ih, Bool.true_eq_false, if_false, List.drop_succ_cons, List.drop_zero]
set_option maxHeartbeats 4000000 in
theorem h160i (s : List UInt8) (hs : s.length ≤ 1000000) (i : Int) (n : Nat) (v : Bool) (h0 : 0 ≤ i) (h9 : n ≤ 4) : ∀ (cs tail pre : List UInt8) (lo hi k : Int), s = pre ++ (cs ++ tail) → i + k = pre.length → 0 ≤ k → k + cs.length = n → (contB lo hi cs = false → v = false) → (contB lo hi cs = true → HD AA 0 [0, 2, 3] l160_1 ⟨[.str s, .junk, .bool false, .int .i64 (i + n), .junk, .junk, .junk, .junk, .junk, .junk, .junk, .junk, .junk, .junk, .junk, .junk, .junk, .junk, .junk, .junk, .junk, .junk, .junk, .junk, .junk, .junk, .junk, .junk, .junk, .junk, .junk, .junk, .junk, .junk, .junk, .junk, .junk, .junk, .junk, .junk, .junk, .junk, .junk, .junk, .junk, .junk, .junk, .junk, .junk, .junk, .junk, .junk, .junk, .junk, .junk, .junk, .junk, .junk, .junk, .junk, .junk, .junk, .junk, .junk, .junk, .junk, .junk, .junk, .junk, .junk, .junk, .junk, .junk, .junk, .junk, .junk, .junk, .junk, .junk, .junk, .junk, .junk], [], 0⟩ [.blk 0, .code r160_1] (Fin [(2, none)] 0 (.bool v) [])) →
  HD AA 0 [0, 2, 3, 5, 6, 7, 8] l160_0 ⟨[.str s, .junk, .bool false, .int .i64 i, .junk, .int .i64 n, .int .u8 lo, .int .u8 hi, .int .i64 k, .junk, .junk, .junk, .junk, .junk, .junk, .junk, .junk, .junk, .junk, .junk, .junk, .junk, .junk, .junk, .junk, .junk, .junk, .junk, .junk, .junk, .junk, .junk, .junk, .junk, .junk, .junk, .junk, .junk, .junk, .junk, .junk, .junk, .junk, .junk, .junk, .junk, .junk, .junk, .junk, .junk, .junk, .junk, .junk, .junk, .junk, .junk, .junk, .junk, .junk, .junk, .junk, .junk, .junk, .junk, .junk, .junk, .junk, .junk, .junk, .junk, .junk, .junk, .junk, .junk, .junk, .junk, .junk, .junk, .junk, .junk, .junk, .junk], [], 0⟩ [.blk 3, .code r160_0, .blk 1, .loop [0, 2, 3] l160_1, .blk 0, .code r160_1] (Fin [(2, none)] 0 (.bool v) [])
 | [], tail, pre, lo, hi, k, h1, h2, h3, h4, h5, h6 => by
  have h7 := h6 rfl
  have h8 : k = n := by simpa using h4
  have hl : s.length = pre.length + tail.length := by rw [h1]; simp
  refine hd_of (by unfold l160_0; rfl) ?_
  have gg:=trivial;repeat' first|simp (maxSteps:=2000000) (disch:=omega) only [gg,r160_0,lp_head,go_sem]|(refine br ?_ ?_<;>intro gg<;>try omega)|(apply And.intro;focus omega)|omega
 | b :: cs, tail, pre, lo, hi, k, h1, h2, h3, h4, h5, h6 => by
  have hl : s.length = pre.length + (cs.length + 1 + tail.length) := by rw [h1]; simp; omega
  rw [List.length_cons] at h4
  have hb := b.toNat_lt
  have ei : (i + k).toNat = pre.length := by omega
  have hxi : s[(i + k).toNat]? = some b := by
   rw [ei, h1, List.getElem?_append_right (by omega)]
   simp
  have hk : ¬ ((b.toNat : Int) < lo ∨ hi < b.toNat) → HD AA 0 [0, 2, 3, 5, 6, 7, 8] l160_0 ⟨[.str s, .junk, .bool false, .int .i64 i, .junk, .int .i64 n, .int .u8 128, .int .u8 191, .int .i64 (k + 1), .junk, .junk, .junk, .junk, .junk, .junk, .junk, .junk, .junk, .junk, .junk, .junk, .junk, .junk, .junk, .junk, .junk, .junk, .junk, .junk, .junk, .junk, .junk, .junk, .junk, .junk, .junk, .junk, .junk, .junk, .junk, .junk, .junk, .junk, .junk, .junk, .junk, .junk, .junk, .junk, .junk, .junk, .junk, .junk, .junk, .junk, .junk, .junk, .junk, .junk, .junk, .junk, .junk, .junk, .junk, .junk, .junk, .junk, .junk, .junk, .junk, .junk, .junk, .junk, .junk, .junk, .junk, .junk, .junk, .junk, .junk, .junk, .junk], [], 0⟩ [.blk 3, .code r160_0, .blk 1, .loop [0, 2, 3] l160_1, .blk 0, .code r160_1] (Fin [(2, none)] 0 (.bool v) []) := by
   intro hn
   have e : contB lo hi (b :: cs) = contB 128 191 cs := by rw [contB, if_neg hn]
   rw [e] at h5 h6
   exact h160i s hs i n v h0 h9 cs tail (pre ++ [b]) 128 191 (k + 1) (by rw [h1]; simp) (by simp; omega) (by omega) (by omega) h5 h6
  have hv : ((b.toNat : Int) < lo ∨ hi < b.toNat) → v = false := fun hn => h5 (by rw [contB, if_pos hn])
  refine hd_of (by unfold l160_0; rfl) ?_
  have gg:=trivial;repeat' first|simp (maxSteps:=2000000) (disch:=omega) only [gg,hxi,lp_head,go_sem]|(refine br ?_ ?_<;>intro gg<;>try omega)|(apply And.intro;focus omega)|omega
  all_goals first
   | exact hk (by omega)
   |(rw [hv (by omega)])
set_option maxHeartbeats 4000000 in
theorem t160 (s : List UInt8) (hs : s.length ≤ 1000000) (i : Int) (c : UInt8) (v : Bool) (h0 : 0 ≤ i) (hxi : s[i.toNat]? = some c) (hl : i < s.length) (K1 : ∀ n lo hi, utfT c.toNat = (n, lo, hi) → n = 0 ∨ (s.length : Int) < i + n → v = false) (K : ∀ (n : Nat) (lo hi : Int), utfT c.toNat = (n, lo, hi) → 1 ≤ n → i + n ≤ s.length → HD AA 0 [0, 2, 3, 5, 6, 7, 8] l160_0 ⟨[.str s, .junk, .bool false, .int .i64 i, .junk, .int .i64 n, .int .u8 lo, .int .u8 hi, .int .i64 1, .junk, .junk, .junk, .junk, .junk, .junk, .junk, .junk, .junk, .junk, .junk, .junk, .junk, .junk, .junk, .junk, .junk, .junk, .junk, .junk, .junk, .junk, .junk, .junk, .junk, .junk, .junk, .junk, .junk, .junk, .junk, .junk, .junk, .junk, .junk, .junk, .junk, .junk, .junk, .junk, .junk, .junk, .junk, .junk, .junk, .junk, .junk, .junk, .junk, .junk, .junk, .junk, .junk, .junk, .junk, .junk, .junk, .junk, .junk, .junk, .junk, .junk, .junk, .junk, .junk, .junk, .junk, .junk, .junk, .junk, .junk, .junk, .junk], [], 0⟩ [.blk 3, .code r160_0, .blk 1, .loop [0, 2, 3] l160_1, .blk 0, .code r160_1] (Fin [(2, none)] 0 (.bool v) [])) :
  HD AA 0 [0, 2, 3] l160_1 ⟨[.str s, .junk, .bool false, .int .i64 i, .junk, .junk, .junk, .junk, .junk, .junk, .junk, .junk, .junk, .junk, .junk, .junk, .junk, .junk, .junk, .junk, .junk, .junk, .junk, .junk, .junk, .junk, .junk, .junk, .junk, .junk, .junk, .junk, .junk, .junk, .junk, .junk, .junk, .junk, .junk, .junk, .junk, .junk, .junk, .junk, .junk, .junk, .junk, .junk, .junk, .junk, .junk, .junk, .junk, .junk, .junk, .junk, .junk, .junk, .junk, .junk, .junk, .junk, .junk, .junk, .junk, .junk, .junk, .junk, .junk, .junk, .junk, .junk, .junk, .junk, .junk, .junk, .junk, .junk, .junk, .junk, .junk, .junk], [], 0⟩ [.blk 0, .code r160_1] (Fin [(2, none)] 0 (.bool v) []) := by
 have hc := c.toNat_lt
 dsimp only at K
 refine hd_of (by unfold l160_1; rfl) ?_
 have gg:=trivial;repeat' first|simp (maxSteps:=2000000) (disch:=omega) only [gg,hxi,lp_head,go_sem]|(refine br ?_ ?_<;>intro gg<;>try omega)|(apply And.intro;focus omega)|omega
 all_goals first
   |(have hK := K _ _ _ (ut1 (by omega)) (by omega) (by omega); exact hK)
   |(have hK := K _ _ _ (ut2 (by omega) (by omega)) (by omega) (by omega); exact hK)
   |(have hK := K _ _ _ (ut3 (by omega)) (by omega) (by omega); exact hK)
   |(have hK := K _ _ _ (ut4 (by omega)) (by omega) (by omega); exact hK)
   |(have hK := K _ _ _ (ut5 (by omega) (by omega) (by omega) (by omega)) (by omega) (by omega); exact hK)
   |(have hK := K _ _ _ (ut6 (by omega)) (by omega) (by omega); exact hK)
   |(have hK := K _ _ _ (ut7 (by omega)) (by omega) (by omega); exact hK)
   |(have hK := K _ _ _ (ut8 (by omega) (by omega) (by omega) (by omega)) (by omega) (by omega); exact hK)
   | rw [K1 _ _ _ (ut1 (by omega)) (by omega)]
   | rw [K1 _ _ _ (ut2 (by omega) (by omega)) (by omega)]
   | rw [K1 _ _ _ (ut3 (by omega)) (by omega)]
   | rw [K1 _ _ _ (ut4 (by omega)) (by omega)]
   | rw [K1 _ _ _ (ut5 (by omega) (by omega) (by omega) (by omega)) (by omega)]
   | rw [K1 _ _ _ (ut6 (by omega)) (by omega)]
   | rw [K1 _ _ _ (ut7 (by omega)) (by omega)]
   | rw [K1 _ _ _ (ut8 (by omega) (by omega) (by omega) (by omega)) (by omega)]
   | rw [K1 _ _ _ (ut9 (by omega) (by omega) (by omega) (by omega)) (by omega)]
set_option maxHeartbeats 4000000 in
theorem h160 (s : List UInt8) (hs : s.length ≤ 1000000) (v : Bool) : ∀ (k : Nat) (rest pre : List UInt8) (i : Int), s = pre ++ rest → i = pre.length → rest.length ≤ k → v = utfF k rest →
  HD AA 0 [0, 2, 3] l160_1 ⟨[.str s, .junk, .bool false, .int .i64 i, .junk, .junk, .junk, .junk, .junk, .junk, .junk, .junk, .junk, .junk, .junk, .junk, .junk, .junk, .junk, .junk, .junk, .junk, .junk, .junk, .junk, .junk, .junk, .junk, .junk, .junk, .junk, .junk, .junk, .junk, .junk, .junk, .junk, .junk, .junk, .junk, .junk, .junk, .junk, .junk, .junk, .junk, .junk, .junk, .junk, .junk, .junk, .junk, .junk, .junk, .junk, .junk, .junk, .junk, .junk, .junk, .junk, .junk, .junk, .junk, .junk, .junk, .junk, .junk, .junk, .junk, .junk, .junk, .junk, .junk, .junk, .junk, .junk, .junk, .junk, .junk, .junk, .junk], [], 0⟩ [.blk 0, .code r160_1] (Fin [(2, none)] 0 (.bool v) [])
 | k, [], pre, i, h1, h2, h3, h4 => by
  have hv : v = true := by rw [h4]; cases k <;> rfl
  have hl : s.length = pre.length := by rw [h1]; simp
  subst hv
  refine hd_of (by unfold l160_1; rfl) ?_
  have gg:=trivial;repeat' first|simp (maxSteps:=2000000) (disch:=omega) only [gg,r160_1,go_sem]|(refine br ?_ ?_<;>intro gg<;>try omega)|(apply And.intro;focus omega)|omega
 | k + 1, c :: r, pre, i, h1, h2, h3, h4 => by
  rw [List.length_cons] at h3
  have hl : s.length = pre.length + (r.length + 1) := by rw [h1]; simp
  have ei : i.toNat = pre.length := by omega
  have hg : s[i.toNat]? = some c := by
   rw [ei, h1, List.getElem?_append_right (by omega)]
   simp
  have hle := utfT_le c.toNat
  refine t160 s hs i c v (by omega) hg (by omega) ?_ ?_
  ·intro n lo hi hu hn
   rw [h4, utfF, hu, if_pos (by dsimp only; omega)]
  ·intro n lo hi hu h5 h6
   rw [utfF, hu, if_neg (by dsimp only; omega)] at h4
   dsimp only at h4
   rw [hu] at hle
   dsimp only at hle
   have e1 : r.take (n - 1) ++ r.drop (n - 1) = r := List.take_append_drop _ _
   have e2 : (r.take (n - 1)).length = n - 1 := by rw [List.length_take]; omega
   have e3 : (r.drop (n - 1)).length ≤ k := by rw [List.length_drop]; omega
   refine h160i s hs i n v (by omega) hle (r.take (n - 1)) (r.drop (n - 1)) (pre ++ [c]) lo hi 1 ?_ ?_ (by omega) (by omega) ?_ ?_
   ·rw [e1, h1]; simp
   ·rw [List.length_append]; simp; omega
   ·intro h7
    rw [h4, if_pos h7]
   ·intro h7
    rw [h7] at h4
    refine h160 s hs v k (r.drop (n - 1)) (pre ++ c :: r.take (n - 1)) (i + n) ?_ ?_ e3 (by simpa using h4)
    ·rw [List.append_assoc, List.cons_append, e1, h1]
    ·rw [List.length_append, List.length_cons, e2]; omega
theorem s160 (s : List UInt8) (hs : s.length ≤ 1000000) : callT AA 160 [.str s] [] = some (.bool (Lib.validD s), []) := by
 have hh := h160 s hs (Lib.validD s) s.length s [] 0 rfl rfl (Nat.le_refl _) (utf_valid _ s (Nat.le_refl _)).symm
 refine enter fn160 np160 rfl ?_
 have gg:=trivial;repeat' first|simp (maxSteps:=2000000) (disch:=omega) only [gg,b160,lp_head,go_sem]|(refine br ?_ ?_<;>intro gg<;>try omega)|(apply And.intro;focus omega)|omega
end Go.Abs
namespace Go.Abs
open Am Lib
set_option maxRecDepth 10000
def noz : List UInt8 → Bool
 | [] => true
 | x :: r => decide (x ≠ 0) && noz r
theorem noz_index : ∀ s : List UInt8, noz s = decide (indexByte s 0 < 0)
 | [] => by simp [noz, indexByte]
 | x :: r => by
  have ih := noz_index r
  have hge := indexByte_ge r 0
  have e : indexByte (x :: r) 0 = if x = 0 then 0 else if indexByte r 0 = -1 then -1 else indexByte r 0 + 1 := by
   rw [indexByte]
   simp
  rw [noz, ih, e]
  by_cases hx : x = 0
  ·simp [hx]
  ·rw [if_neg hx]
   by_cases h : indexByte r 0 < 0
   ·have h1 : indexByte r 0 = -1 := by omega
    simp [h1, hx]
   ·have h1 : ¬ indexByte r 0 = -1 := by omega
    have h2 : ¬ indexByte r 0 + 1 < 0 := by omega
    simp [h1, h, h2]
set_option maxHeartbeats 2000000 in
theorem h124 (s : List UInt8) (hs : s.length ≤ 1000000) (v : Bool) : ∀ (rest pre : List UInt8) (i : Int), s = pre ++ rest → i = pre.length → v = (noz rest && validD s) →
  HD AA 0 [0, 4, 5] l124_0 ⟨[.str s, .junk, .junk, .junk, .bool false, .int .i64 i, .junk, .junk, .junk, .junk, .junk, .junk, .junk, .junk, .junk, .junk, .junk, .junk, .junk, .junk, .junk, .junk, .junk, .junk, .junk, .junk, .junk], [], 0⟩ [.blk 0, .code r124_0] (Fin [(4, none)] 0 (.bool v) [])
 | [], pre, i, h1, h2, h4 => by
  have hl : s.length = pre.length := by rw [h1]; simp
  have hv : v = validD s := by rw [h4]; rfl
  subst hv
  refine hd_of (by unfold l124_0; rfl) ?_
  have gg:=trivial;repeat' first|simp (maxSteps:=2000000) (disch:=omega) only [gg,r124_0,s160,hs,go_sem]|(refine br ?_ ?_<;>intro gg<;>try omega)|(apply And.intro;focus omega)|omega
 | c :: r, pre, i, h1, h2, h4 => by
  have hl : s.length = pre.length + (r.length + 1) := by rw [h1]; simp
  have ei : i.toNat = pre.length := by omega
  have hxi : s[i.toNat]? = some c := by
   rw [ei, h1, List.getElem?_append_right (by omega)]
   simp
  by_cases hc : c = 0
  ·subst hc
   have hv : v = false := by rw [h4]; rfl
   subst hv
   have hc2 : ((0 : UInt8).toNat : Int) = 0 := rfl
   refine hd_of (by unfold l124_0; rfl) ?_
   have gg:=trivial;repeat' first|simp (maxSteps:=2000000) (disch:=omega) only [gg,hxi,hc2,go_sem]|(refine br ?_ ?_<;>intro gg<;>try omega)|(apply And.intro;focus omega)|omega
  ·have hc2 : ¬ (c.toNat : Int) = 0 := by
    intro hh
    exact hc ((ty_eq c 0 (by omega)).mp hh)
   have ih := h124 s hs v r (pre ++ [c]) (i + 1) (by rw [h1]; simp) (by simp; omega) (by rw [h4, noz]; simp [hc])
   refine hd_of (by unfold l124_0; rfl) ?_
   have gg:=trivial;repeat' first|simp (maxSteps:=2000000) (disch:=omega) only [gg,hxi,hc2,lp_head,go_sem]|(refine br ?_ ?_<;>intro gg<;>try omega)|(apply And.intro;focus omega)|omega
theorem s124 (s : List UInt8) (most : Int) (hs : s.length ≤ 1000000) : callT AA 124 [.str s, .int .i64 most] [] = some (.bool (textB s most), []) := by
 have hh := h124 s hs (noz s && validD s) s [] 0 rfl rfl rfl
 have he : textB s most = (decide (s ≠ []) && decide ((s.length : Int) ≤ most) && (noz s && validD s)) := by
  unfold textB
  rw [noz_index, Bool.and_assoc, Bool.and_comm (validD s)]
 rw [he]
 refine enter fn124 np124 rfl ?_
 rcases Nat.eq_zero_or_pos s.length with h0 | h0
 ·have : s = [] := List.length_eq_zero_iff.1 h0
  subst this
  have gg:=trivial;repeat' first|simp (maxSteps:=2000000) (disch:=omega) only [gg,b124,lp_head,go_sem]|(refine br ?_ ?_<;>intro gg<;>try omega)|(apply And.intro;focus omega)|omega
  all_goals simp
 ·have h3 : s ≠ [] := by intro hh; subst hh; simp at h0
  have h4 : decide (s ≠ []) = true := decide_eq_true h3
  rw [h4]
  by_cases h5 : (s.length : Int) ≤ most
  ·rw [decide_eq_true h5]
   have gg:=trivial;repeat' first|simp (maxSteps:=2000000) (disch:=omega) only [gg,b124,lp_head,go_sem]|(refine br ?_ ?_<;>intro gg<;>try omega)|(apply And.intro;focus omega)|omega
  ·rw [decide_eq_false h5]
   have gg:=trivial;repeat' first|simp (maxSteps:=2000000) (disch:=omega) only [gg,b124,lp_head,go_sem]|(refine br ?_ ?_<;>intro gg<;>try omega)|(apply And.intro;focus omega)|omega
theorem split_len : ∀ (c : UInt8) (s : List UInt8), 1 ≤ (splitOn c s).length := by
 intro c s
 by_cases h : indexByte s c < 0
 ·rw [(split_none h).1]; simp
 ·rw [(split_some (by omega)).1]; simp
theorem split_one (s : List UInt8) : decide (((splitOn 47 s).length : Int) = 1) = decide (indexByte s 47 < 0) := by
 apply decide_eq_decide.2
 by_cases h : indexByte s 47 < 0
 ·rw [(split_none h).1]; simp [h]
 ·rw [(split_some (by omega)).1]
  have := split_len 47 (s.drop ((indexByte s 47).toNat + 1))
  simp [h]
  omega
theorem s159 (s : List UInt8) (hs : s.length ≤ 1000000) : callT AA 159 [.str s] [] = some (.bool (partB s), []) := by
 refine enter fn159 np159 rfl ?_
 have gg:=trivial;repeat' first|simp (maxSteps:=2000000) (disch:=omega) only [gg,b159,s124,s125,hs,go_sem]|(refine br ?_ ?_<;>intro gg<;>try omega)|(apply And.intro;focus omega)|omega
 all_goals unfold partB
 ·simp [*, split_one]
 all_goals simp [*]
end Go.Abs
namespace Go.Abs
open Am Lib
set_option maxRecDepth 10000
set_option maxHeartbeats 2000000 in
theorem h122 (ps : List (List UInt8)) (hn : ps.length ≤ 2000000) (hq : ∀ p ∈ ps, p.length ≤ 1000000) (res : AVal) (hp : List (Nat × Node)) : ∀ (rest done : List (List UInt8)) (i : Int) (k : Nat), ps = done ++ rest → i = done.length → k = ps.length → (rest.all partB = true → res = .own 0 1 0 ps.length false ∧ hp = [(0, .row (ps.map .str) 1)]) → (rest.all partB = false → res = .lit (.slice none 0 0) ∧ hp = []) →
  HD AA 0 [2, 3, 4] l122_0 ⟨[.junk, .junk, .lit (.slice none 0 0), .own 0 1 0 k false, .int .i64 i, .junk, .junk, .junk, .junk, .junk, .junk, .junk, .junk, .junk, .junk, .junk, .junk, .junk, .junk, .junk, .junk, .junk, .junk], [(0, .row (ps.map .str) 1)], 1⟩ [.blk 0, .code r122_0] (Fin [(2, none)] 0 res hp)
 | [], done, i, k, h1, h2, hk, h3, h4 => by
  have hl : ps.length = done.length := by rw [h1]; simp
  obtain ⟨e1, e2⟩ := h3 rfl
  subst hk
  rw [e1, e2]
  refine hd_of (by unfold l122_0; rfl) ?_
  have gg:=trivial;repeat' first|simp (maxSteps:=2000000) (disch:=omega) only [gg,r122_0,go_sem]|(refine br ?_ ?_<;>intro gg<;>try omega)|(apply And.intro;focus omega)|omega
 | p :: rest, done, i, k, h1, h2, hk, h3, h4 => by
  have hl : ps.length = done.length + (rest.length + 1) := by rw [h1]; simp
  have ei : i.toNat = done.length := by omega
  have hm : p ∈ ps := by rw [h1]; simp
  have h159 := s159 p (hq p hm)
  have hxi : ps[i.toNat]? = some p := by
   rw [ei, h1, List.getElem?_append_right (by omega)]
   simp
  cases hb : partB p with
  | true =>
   have e : (p :: rest).all partB = rest.all partB := by simp [hb]
   rw [e] at h3 h4
   rw [hb] at h159
   have ih := h122 ps hn hq res hp rest (done ++ [p]) (i + 1) k (by rw [h1]; simp) (by simp; omega) hk h3 h4
   refine hd_of (by unfold l122_0; rfl) ?_
   have gg:=trivial;repeat' first|simp (maxSteps:=2000000) (disch:=omega) only [gg,hxi,h159,lp_head,go_sem]|(refine br ?_ ?_<;>intro gg<;>try omega)|(apply And.intro;focus omega)|omega
  | false =>
   obtain ⟨e1, e2⟩ := h4 (by simp [hb])
   rw [hb] at h159
   rw [e1, e2]
   refine hd_of (by unfold l122_0; rfl) ?_
   have gg:=trivial;repeat' first|simp (maxSteps:=2000000) (disch:=omega) only [gg,hxi,h159,lp_head,go_sem]|(refine br ?_ ?_<;>intro gg<;>try omega)|(apply And.intro;focus omega)|omega
theorem split_n (s : List UInt8) (hs : s.length ≤ 1000000) : (splitOn 47 s).length ≤ 2000000 := by
 rw [split_length]
 have := count_le s 47
 omega
theorem s122 (s : List UInt8) (hs : s.length ≤ 1000000) : callT AA 122 [.str s] [] = some (if goodB s = true then (.own 0 1 0 (splitOn 47 s).length false, [(0, .row ((splitOn 47 s).map .str) 1)]) else (.lit (.slice none 0 0), [])) := by
 have h125 := s125 s hs
 have hn := split_n s hs
 have hh := fun res hp h3 h4 => h122 (splitOn 47 s) hn (fun p hp => Nat.le_trans (split_short 47 s p hp) hs) res hp (splitOn 47 s) [] 0 _ rfl rfl rfl h3 h4
 by_cases h4 : s.length ≤ 400
 ·have hg : goodB s = (splitOn 47 s).all partB := by simp [goodB, splitP, h4]
  rw [hg]
  cases hb : (splitOn 47 s).all partB with
  | true =>
   rw [hb] at hh
   rw [if_pos rfl]
   have hh := hh _ _ (fun _ => ⟨rfl, rfl⟩) (by simp)
   refine enter fn122 np122 rfl ?_
   have gg:=trivial;repeat' first|simp (maxSteps:=2000000) (disch:=omega) only [gg,b122,h125,lp_head,go_sem]|(refine br ?_ ?_<;>intro gg<;>try omega)|(apply And.intro;focus omega)|omega
  | false =>
   rw [hb] at hh
   rw [if_neg (by simp)]
   have hh := hh _ _ (by simp) (fun _ => ⟨rfl, rfl⟩)
   refine enter fn122 np122 rfl ?_
   have gg:=trivial;repeat' first|simp (maxSteps:=2000000) (disch:=omega) only [gg,b122,h125,lp_head,go_sem]|(refine br ?_ ?_<;>intro gg<;>try omega)|(apply And.intro;focus omega)|omega
 ·have hg : goodB s = false := by simp [goodB, h4]
  rw [hg, if_neg (by simp)]
  refine enter fn122 np122 rfl ?_
  have gg:=trivial;repeat' first|simp (maxSteps:=2000000) (disch:=omega) only [gg,b122,go_sem]|(refine br ?_ ?_<;>intro gg<;>try omega)|(apply And.intro;focus omega)|omega
theorem s75 (s : List UInt8) (hs : s.length ≤ 1000000) : callT AA 75 [.str s] [] = some (.bool (goodB s), []) := by
 have h := s122 s hs
 have hn := split_n s hs
 have h1 := split_len 47 s
 refine enter fn75 np75 rfl ?_
 cases hb : goodB s with
 | true =>
  rw [hb, if_pos rfl] at h
  have gg:=trivial;repeat' first|simp (maxSteps:=2000000) (disch:=omega) only [gg,b75,h,go_sem]|(refine br ?_ ?_<;>intro gg<;>try omega)|(apply And.intro;focus omega)|omega
 | false =>
  rw [hb] at h
  have gg:=trivial;repeat' first|simp (maxSteps:=2000000) (disch:=omega) only [gg,b75,h,go_sem]|(refine br ?_ ?_<;>intro gg<;>try omega)|(apply And.intro;focus omega)|omega
/-- parts behind each other, each behind a stroke -/
def jn : List (List UInt8) → List UInt8
 | [] => []
 | p :: r => 47 :: p ++ jn r
def joinB : List (List UInt8) → List UInt8
 | [] => []
 | p :: r => p ++ jn r
theorem jn_le (p : List UInt8) (r : List (List UInt8)) : (jn (p :: r)).length = p.length + 1 + (jn r).length := by simp [jn]; omega
set_option maxHeartbeats 2000000 in
theorem h123 (c t : Bool) (ps : List (List UInt8)) (hn : ps.length ≤ 2000000) (hq : ∀ p ∈ ps, partB p = true ∧ p.length ≤ 1000000) (r0 : List UInt8) (h4 : r0.length ≤ 400) (h0 : 0 < ps.length) : ∀ (rest done : List (List UInt8)) (i : Int) (acc : List UInt8) (q : Nat), ps = done ++ rest → i = done.length → 0 < i → q = acc.length → r0 = acc ++ jn rest →
  HD AA 0 [0, 2, 3, 4, 5] l123_0 ⟨[.view 1 (ps.map .str) c t, .junk, .str [], .int .i64 0, .own 0 1 0 q false, .int .i64 i, .junk, .junk, .junk, .junk, .junk, .junk, .junk, .junk, .junk, .junk, .junk, .junk, .junk, .junk, .junk, .junk, .junk, .junk, .junk, .junk, .junk, .junk, .junk, .junk, .junk, .junk, .junk, .junk, .junk, .junk, .junk, .junk], [(0, .row (acc.map .byte) 1)], 1⟩ [.blk 0, .code r123_0] (Fin [(2, none), (3, none)] 0 (.tuple [.str r0, .int .i64 0]) [])
 | [], done, i, acc, q, h1, h2, h3, hq', h5 => by
  have hl : ps.length = done.length := by rw [h1]; simp
  have e : (acc.map AVal.byte).take q = acc.map .byte := List.take_of_length_le (by simp; omega)
  have hr : r0 = acc := by rw [h5]; simp [jn]
  rw [hr]
  subst hq'
  refine hd_of (by unfold l123_0; rfl) ?_
  have gg:=trivial;repeat' first|simp (maxSteps:=2000000) (disch:=omega) only [gg,r123_0,e,go_sem]|(refine br ?_ ?_<;>intro gg<;>try omega)|(apply And.intro;focus omega)|omega
 | p :: rest, done, i, acc, q, h1, h2, h3, hq', h5 => by
  have hl : ps.length = done.length + (rest.length + 1) := by rw [h1]; simp
  have ei : i.toNat = done.length := by omega
  have hm : p ∈ ps := by rw [h1]; simp
  have h159 := s159 p (hq p hm).2
  rw [(hq p hm).1] at h159
  have hlen : r0.length = acc.length + (p.length + 1 + (jn rest).length) := by rw [h5, List.length_append, jn_le]
  have hxi : ps[i.toNat]? = some p := by
   rw [ei, h1, List.getElem?_append_right (by omega)]
   simp
  have e : (acc.map AVal.byte).take q = acc.map .byte := List.take_of_length_le (by simp; omega)
  have ih := h123 c t ps hn hq r0 h4 h0 rest (done ++ [p]) (i + 1) (acc ++ [47] ++ p) (q + 1 + p.length) (by rw [h1]; simp) (by simp; omega) (by omega) (by simp; omega) (by rw [h5]; simp [jn])
  have e2 : (acc.map AVal.byte ++ [AVal.int .u8 47]).take (q + 1) = (acc ++ [47]).map AVal.byte := by
   rw [List.take_of_length_le (by simp; omega)]
   simp [AVal.byte]
   try rfl
  refine hd_of (by unfold l123_0; rfl) ?_
  have gg:=trivial;repeat' first|simp (maxSteps:=2000000) (disch:=omega) only [gg,hxi,h159,e,e2,lp_head,← List.map_append,go_sem]|(refine br ?_ ?_<;>intro gg<;>try omega)|(apply And.intro;focus omega)|omega
theorem s123 (c t : Bool) (ps : List (List UInt8)) (hn : ps.length ≤ 2000000) (hq : ∀ p ∈ ps, partB p = true ∧ p.length ≤ 1000000) (h4 : (joinB ps).length ≤ 400) (h0 : 0 < ps.length) : callT AA 123 [.view 1 (ps.map .str) c t] [] = some (.tuple [.str (joinB ps), .int .i64 0], []) := by
 refine enter fn123 np123 rfl ?_
 have gg:=trivial;repeat' first|simp (maxSteps:=2000000) (disch:=omega) only [gg,b123,lp_head,go_sem]|(refine br ?_ ?_<;>intro gg<;>try omega)|(apply And.intro;focus omega)|omega
 obtain ⟨p, r, hp⟩ : ∃ p r, ps = p :: r := by
  cases ps with
  | nil => simp at h0
  | cons p r => exact ⟨p, r, rfl⟩
 have hxi : ps[0]? = some p := by rw [hp]; rfl
 have hm : p ∈ ps := by rw [hp]; simp
 have h159 := s159 p (hq p hm).2
 rw [(hq p hm).1] at h159
 have hlen : (joinB ps).length = p.length + (jn r).length := by rw [hp]; simp [joinB]
 have hl : ps.length = r.length + 1 := by rw [hp]; simp
 have ih := h123 c t ps hn hq (joinB ps) h4 h0 r [p] 1 p p.length (by rw [hp]; rfl) rfl (by omega) rfl (by rw [hp]; rfl)
 refine hd_of (by unfold l123_0; rfl) ?_
 have gg:=trivial;repeat' first|simp (maxSteps:=2000000) (disch:=omega) only [gg,hxi,h159,lp_head,go_sem]|(refine br ?_ ?_<;>intro gg<;>try omega)|(apply And.intro;focus omega)|omega
end Go.Abs
namespace Go.Abs
open Am Lib
set_option maxRecDepth 10000
theorem join_split : ∀ s : List UInt8, joinB (splitOn 47 s) = s
 | [] => rfl
 | x :: r => by
  have ih := join_split r
  rw [splitOn_cons]
  cases hq : splitOn 47 r with
  | nil => exact (splitOn_ne 47 r hq).elim
  | cons q qs =>
   rw [hq] at ih
   by_cases hx : x = 47
   ·rw [if_pos hx, hx]
    simp only [joinB, jn, List.nil_append]
    simp only [joinB] at ih
    rw [List.cons_append, ih]
   ·rw [if_neg hx]
    simp only [joinB, List.cons_append]
    simp only [joinB] at ih
    rw [ih]
theorem split_app : ∀ (a b : List UInt8), splitOn 47 (a ++ 47 :: b) = splitOn 47 a ++ splitOn 47 b
 | [], b => by simp [splitOn]
 | x :: a, b => by
  have ih := split_app a b
  rw [List.cons_append, splitOn_cons, ih, splitOn_cons]
  cases hq : splitOn 47 a with
  | nil => exact (splitOn_ne 47 a hq).elim
  | cons q qs =>
   by_cases hx : x = 47
   ·simp [hx]
   ·simp [hx]
theorem lastAt_no (c : UInt8) (s : List UInt8) : ∀ k : Nat, ∀ j : Nat, lastAt c k s < j → j < k → s[j]? ≠ some c
 | 0, j, _, h => by omega
 | k + 1, j, h1, h2 => by
  unfold lastAt at h1
  split at h1
  ·omega
  ·rename_i h3
   by_cases hj : j = k
   ·subst hj; exact h3
   ·exact lastAt_no c s k j h1 (by omega)
theorem lastAt_yes (c : UInt8) (s : List UInt8) : ∀ k : Nat, 0 ≤ lastAt c k s → s[(lastAt c k s).toNat]? = some c
 | 0, h => by simp [lastAt] at h
 | k + 1, h => by
  unfold lastAt at h ⊢
  split
  ·rename_i h3; simpa using h3
  ·rename_i h3
   rw [if_neg h3] at h
   exact lastAt_yes c s k h
theorem last_split (s : List UInt8) : (lastB 47 s < 0 ∧ splitOn 47 s = [s]) ∨ (0 ≤ lastB 47 s ∧ ∃ b, splitOn 47 s = splitOn 47 (s.take (lastB 47 s).toNat) ++ [b]) := by
 have h1 := lastAt_lt 47 s s.length
 have h2 := lastAt_no 47 s s.length
 have h3 := lastAt_yes 47 s s.length
 have h4 : lastB 47 s = lastAt 47 s.length s := rfl
 by_cases h5 : lastB 47 s < 0
 ·left
  refine ⟨h5, split_end s ?_⟩
  intro x hx hx2
  obtain ⟨j, hj, he⟩ := List.getElem_of_mem hx
  refine h2 j (by omega) hj ?_
  rw [List.getElem?_eq_getElem hj, he, hx2]
 ·right
  refine ⟨by omega, s.drop ((lastB 47 s).toNat + 1), ?_⟩
  have h6 := h3 (by omega)
  rw [← h4] at h6 h2 h1
  generalize hk : (lastB 47 s).toNat = k at *
  have hk2 : k < s.length := by omega
  have e : s = s.take k ++ 47 :: s.drop (k + 1) := by
   rw [List.getElem?_eq_getElem hk2] at h6
   have h7 : s[k] = 47 := by simpa using h6
   rw [← h7, List.getElem_cons_drop, List.take_append_drop]
  have e2 : splitOn 47 (s.drop (k + 1)) = [s.drop (k + 1)] := by
   refine split_end _ ?_
   intro x hx hx2
   obtain ⟨j, hj, he⟩ := List.getElem_of_mem hx
   rw [List.length_drop] at hj
   refine h2 (k + 1 + j) (by omega) (by omega) ?_
   rw [List.getElem_drop] at he
   rw [List.getElem?_eq_getElem (by omega), he, hx2]
  conv => lhs; rw [e]
  rw [split_app, e2]
theorem s76 (s : List UInt8) (hs : s.length ≤ 1000000) : callT AA 76 [.str s] [] = some (.tuple [.str (parentP s).1, .bool (parentP s).2], []) := by
 have h := s122 s hs
 have hn := split_n s hs
 have h1 := split_len 47 s
 refine enter fn76 np76 rfl ?_
 unfold parentP
 cases hb : goodB s with
 | false =>
  rw [hb] at h
  rw [if_neg (by simp)]
  have gg:=trivial;repeat' first|simp (maxSteps:=2000000) (disch:=omega) only [gg,b76,h,go_sem]|(refine br ?_ ?_<;>intro gg<;>try omega)|(apply And.intro;focus omega)|omega
 | true =>
  rw [hb, if_pos rfl] at h
  rcases last_split s with ⟨h2, h3⟩ | ⟨h2, b, h3⟩
  ·rw [if_neg (by omega)]
   have h4 : (splitOn 47 s).length = 1 := by rw [h3]; rfl
   have gg:=trivial;repeat' first|simp (maxSteps:=2000000) (disch:=omega) only [gg,b76,h,h4,go_sem]|(refine br ?_ ?_<;>intro gg<;>try omega)|(apply And.intro;focus omega)|omega
  ·rw [if_pos ⟨h2, rfl⟩]
   have h4 : (splitOn 47 s).length = (splitOn 47 (s.take (lastB 47 s).toNat)).length + 1 := by rw [h3]; simp
   have h5 := split_len 47 (s.take (lastB 47 s).toNat)
   have h6 : ((splitOn 47 s).map AVal.str).take (((splitOn 47 s).length : Int) - 1).toNat = (splitOn 47 (s.take (lastB 47 s).toNat)).map AVal.str := by
    rw [show (((splitOn 47 s).length : Int) - 1).toNat = (splitOn 47 s).length - 1 by omega, ← List.map_take]
    rw [h3]; simp
   have hg : s.length ≤ 400 ∧ (splitOn 47 s).all partB = true := by simpa [goodB, splitP] using hb
   have hall : ∀ p ∈ splitOn 47 (s.take (lastB 47 s).toNat), partB p = true ∧ p.length ≤ 1000000 := by
    intro p hp
    have hp2 : p ∈ splitOn 47 s := by rw [h3]; simp [hp]
    exact ⟨List.all_eq_true.1 hg.2 p hp2, Nat.le_trans (split_short 47 s p hp2) hs⟩
   have h123 := fun c t => s123 c t (splitOn 47 (s.take (lastB 47 s).toNat)) (by omega) hall (by rw [join_split, List.length_take]; omega) (by omega)
   simp only [join_split] at h123
   have gg:=trivial;repeat' first|simp (maxSteps:=2000000) (disch:=omega) only [gg,b76,h,h6,h123,go_sem]|(refine br ?_ ?_<;>intro gg<;>try omega)|(apply And.intro;focus omega)|omega
end Go.Abs
namespace Go.Abs
open Am Lib
set_option maxRecDepth 10000
set_option maxHeartbeats 4000000 in
theorem s77 (e : Ent) (hl : e.link.length ≤ 1000000) : callT AA 77 [e.av] [] = some (.bool (fieldsB e), []) := by
 have h1 := s124 e.link 400 hl
 have h2 := s75 e.link hl
 refine enter fn77 np77 rfl ?_
 have gg:=trivial;repeat' first|simp (maxSteps:=2000000) (disch:=omega) only [gg,b77,h1,h2,go_sem]|(refine br ?_ ?_<;>intro gg<;>try omega)|(apply And.intro;focus omega)|omega
 all_goals (clear h1 h2 hl)
 all_goals first
  |(by_cases k0 : 0 < (e.data.l.length : Int) ∧ ¬ e.kind = 2
    ·have k00 : ¬ e.data.l.length = 0 := by omega
     by_cases k1 : e.kind = 1
     ·simp_all [fieldsB, metaB]; done
     ·by_cases k3 : e.kind = 3
      ·simp_all [fieldsB, metaB]; done
      ·by_cases k4 : e.kind = 4
       ·simp_all [fieldsB, metaB]; done
       ·simp_all [fieldsB, metaB]; done
    ·exfalso; omega)
  | skip
 (all_goals (first | (simp_all [fieldsB, metaB]; done) | (simp_all [fieldsB, metaB]; omega) | (simp_all [fieldsB, metaB]; intros; omega) | (simp_all [fieldsB, metaB]; rw [Bool.eq_iff_iff]; simp; done) | (simp_all [fieldsB, metaB]; rw [Bool.eq_iff_iff]; simp; omega)))
end Go.Abs
