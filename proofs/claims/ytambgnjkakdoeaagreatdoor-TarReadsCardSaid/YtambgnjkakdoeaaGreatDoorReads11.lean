import Derived.Test.YtambgnjkakdoeaaGreatDoorReads10
/- PART OF A PROOF (texts joined by a program): F23 F24 B3 F39 Q1 F25 F26 F27 F28 F29 F30 F31 F32 F33 F34 Q2 F73 F67. -/
set_option linter.unusedVariables false
set_option linter.unusedSimpArgs false
set_option linter.unusedSectionVars false
namespace Go.Abs
open Am
set_option maxRecDepth 10000
theorem firstP_no {l : List UInt8} (h : fstOk1 l = false) : firstP l = (rcd0, 0) := by
 unfold firstP fstOk
 rw [h]
 rfl
theorem s71f (b : BS) (hb : b.l.length ≤ 1000000) : callT AA 71 [b.av] [] = some (.tuple [(firstP b.l).1.av, .int .i64 (firstP b.l).2], []) := by
 cases h : fstOk1 b.l with
 | true => exact s71 b hb h
 | false =>
  rw [firstP_no h]
  exact s71a b hb h
theorem firstP_n (l : List UInt8) : (firstP l).2 = 0 ∨ (1 ≤ (firstP l).2 ∧ (firstP l).2 ≤ l.length) := by
 unfold firstP
 split
 ·rename_i h
  simp only [fstOk, fstOk1, Bool.and_eq_true, decide_eq_true_eq] at h
  refine .inr ⟨?_, ?_⟩
  ·show 1 ≤ fstN l; omega
  ·show fstN l ≤ l.length; omega
 ·exact .inl rfl
theorem firstP_le (l : List UInt8) : (firstP l).1.key.length ≤ l.length ∧ (firstP l).1.value.length ≤ l.length := by
 have hR : (fstR l).length ≤ l.length := by unfold fstR; simp; omega
 have hc : (cutB 61 (fstR l)).1.length ≤ l.length ∧ (cutB 61 (fstR l)).2.1.length ≤ l.length := by
  unfold cutB
  split
  ·simp; omega
  ·simp; omega
 have hv : (fstV l).length ≤ l.length := by
  unfold fstV cutSuf
  split
  ·simp; omega
  ·omega
 unfold firstP
 split
 ·exact ⟨hc.1, hv⟩
 ·simp [rcd0]
/-- may this record stand behind that one? -/
def aftB (p : Option Rcd) (r : Rcd) : Bool := match p with
 | none => true
 | some p => Op.bytesLess p.key r.key
def decP : Nat → Option Rcd → List Rcd → List UInt8 → Option (List Rcd)
 | 0, _, acc, _ => some acc
 | k + 1, p, acc, l => if l = [] then some acc else
  if (firstP l).2 = 0 ∨ aftB p (firstP l).1 = false then none else decP k (some (firstP l).1) (acc ++ [(firstP l).1]) (l.drop (firstP l).2.toNat)
/-- the records of lines -/
def paxD (l : List UInt8) : Option (List Rcd) := if 65536 < l.length then none else decP l.length none [] l
def pdV (x : Option (List Rcd)) : AVal := match x with
 | none => .tuple [.lit (.slice none 0 0), .iface 58 (.int .i64 15)]
 | some [] => .tuple [.lit (.slice none 0 0), .lit .nilIface]
 | some (r :: rs) => .tuple [.own 0 2 0 (r :: rs).length false, .lit .nilIface]
def pdH (x : Option (List Rcd)) : Heap := match x with
 | none => []
 | some [] => []
 | some (r :: rs) => [(0, .row ((r :: rs).map Rcd.av) 2)]
theorem h35 (r0 : Option (List Rcd)) : ∀ (k : Nat) (b : BS) (p : Rcd) (acc rs : List Rcd) (q : Nat), rs = acc ++ [p] → b.l.length ≤ k → b.l.length ≤ 1000000 → q = rs.length → rs.length + k ≤ 1000001 → r0 = decP k (some p) rs b.l →
  HD AA 0 [0, 2, 3, 4] l35_0 ⟨[b.av, .junk, .lit (.slice none 0 0), .lit .nilIface, .own 0 2 0 q false, .junk, .junk, .junk, .junk, .junk, .junk, .junk, .junk, .junk, .junk, .junk, .junk, .junk, .junk, .junk, .junk, .junk, .junk, .junk, .junk, .junk, .junk, .junk, .junk, .junk, .junk, .junk, .junk, .junk, .junk, .junk, .junk, .junk, .junk, .junk, .junk, .junk, .junk, .junk, .junk, .junk, .junk], [(0, .row (rs.map Rcd.av) 2)], 1⟩ [.blk 0, .code r35_0] (Fin [(2, none), (3, none)] 0 (pdV r0) (pdH r0))
 | k, b, p, acc, rs, q, h0, h1, h2, h3, h4, h5 => by
  by_cases hl : b.l = []
  ·have hl0 : b.l.length = 0 := by rw [hl]; rfl
   have hr : r0 = some rs := by
    cases k with
    | zero => exact h5
    | succ k => rw [h5]; unfold decP; rw [if_pos hl]
   refine hd_of (by unfold l35_0; rfl) ?_
   rw [hr]
   cases rs with
   | nil => simp at h0
   | cons x y =>
    unfold pdV pdH
    have gg:=trivial;repeat' first|simp (maxSteps:=2000000) (disch:=omega) only [gg,r35_0,go_sem]|(refine br ?_ ?_<;>intro gg<;>try omega)|(apply And.intro;focus omega)|omega
    simp [h3]
  ·have hl0 : 0 < b.l.length := by
    cases hz : b.l with
    | nil => exact (hl hz).elim
    | cons x y => simp
   match k, h1, h4, h5 with
   | 0, h1, h4, h5 => omega
   | k + 1, h1, h4, h5 =>
    have hf := s71f b h2
    unfold decP at h5
    refine hd_of (by unfold l35_0; rfl) ?_
    rw [if_neg hl] at h5
    have hn := firstP_n b.l
    have hbl := fun n => BS.sl_l (b := b) (lo := n) (hi := b.l.length)
    have hq : 0 < rs.length := by rw [h0]; simp
    have hg0 : rs[q - 1]? = some p := by rw [h3, h0]; simp
    have hg1 : ((q : Int) - 1).toNat = q - 1 := by omega
    generalize firstP b.l = P at *
    obtain ⟨r, n⟩ := P
    simp only [Rcd.av] at hf
    simp only at h5 hn
    have et : (rs.map Rcd.av).take q = rs.map Rcd.av := List.take_of_length_le (by simp; omega)
    by_cases hn0 : n = 0
    ·rw [if_pos (.inl hn0)] at h5
     rw [h5]
     unfold pdV pdH
     have gg:=trivial;repeat' first|simp (maxSteps:=2000000) (disch:=omega) only [gg,hf,hg0,hg1,lp_head,go_sem]|(refine br ?_ ?_<;>intro gg<;>try omega)|(apply And.intro;focus omega)|omega
    ·cases ha : aftB (some p) r with
     | false =>
      rw [if_pos (.inr ha)] at h5
      rw [h5]
      unfold pdV pdH
      simp only [aftB] at ha
      have gg:=trivial;repeat' first|simp (maxSteps:=2000000) (disch:=omega) only [gg,hf,hg0,hg1,ha,lp_head,go_sem]|(refine br ?_ ?_<;>intro gg<;>try omega)|(apply And.intro;focus omega)|omega
     | true =>
      rw [if_neg (by simp [hn0, ha])] at h5
      have ih := h35 r0 k (b.sl n.toNat b.l.length) r rs (rs ++ [r]) (q + 1) rfl (by rw [BS.sl_l]; simp; omega) (by rw [BS.sl_l]; simp; omega) (by simp [h3]) (by simp; omega) (by rw [h5, BS.sl_l, List.take_of_length_le (by simp)])
      simp only [List.map_append, List.map_cons, List.map_nil, Rcd.av] at ih
      simp only [aftB] at ha
      have gg:=trivial;repeat' first|simp (maxSteps:=2000000) (disch:=omega) only [gg,hf,hg0,hg1,ha,et,lp_head,go_sem]|(refine br ?_ ?_<;>intro gg<;>try omega)|(apply And.intro;focus omega)|omega
theorem s35 (b : BS) (hb : b.l.length ≤ 1000000) : callT AA 35 [b.av] [] = some (pdV (paxD b.l), pdH (paxD b.l)) := by
 refine enter fn35 np35 rfl ?_
 unfold paxD
 by_cases h1 : 65536 < b.l.length
 ·rw [if_pos h1]
  unfold pdV pdH
  have gg:=trivial;repeat' first|simp (maxSteps:=2000000) (disch:=omega) only [gg,b35,go_sem]|(refine br ?_ ?_<;>intro gg<;>try omega)|(apply And.intro;focus omega)|omega
 rw [if_neg h1]
 generalize hr : decP b.l.length none [] b.l = r0
 have gg:=trivial;repeat' first|simp (maxSteps:=2000000) (disch:=omega) only [gg,b35,lp_head,go_sem]|(refine br ?_ ?_<;>intro gg<;>try omega)|(apply And.intro;focus omega)|omega
 by_cases hl : b.l = []
 ·have hl0 : b.l.length = 0 := by rw [hl]; rfl
  rw [hl0] at hr
  unfold decP at hr
  rw [← hr]
  unfold pdV pdH
  refine hd_of (by unfold l35_0; rfl) ?_
  have gg:=trivial;repeat' first|simp (maxSteps:=2000000) (disch:=omega) only [gg,r35_0,go_sem]|(refine br ?_ ?_<;>intro gg<;>try omega)|(apply And.intro;focus omega)|omega
 ·have hl0 : 0 < b.l.length := by
   cases hz : b.l with
   | nil => exact (hl hz).elim
   | cons x y => simp
  have hf := s71f b hb
  have hn := firstP_n b.l
  obtain ⟨k, hk⟩ : ∃ k, b.l.length = k + 1 := ⟨b.l.length - 1, by omega⟩
  rw [hk] at hr
  unfold decP at hr
  rw [if_neg hl] at hr
  generalize firstP b.l = P at *
  obtain ⟨r, n⟩ := P
  simp only [Rcd.av] at hf
  simp only at hr hn
  refine hd_of (by unfold l35_0; rfl) ?_
  by_cases hn0 : n = 0
  ·rw [if_pos (.inl hn0)] at hr
   rw [← hr]
   unfold pdV pdH
   have gg:=trivial;repeat' first|simp (maxSteps:=2000000) (disch:=omega) only [gg,hf,lp_head,go_sem]|(refine br ?_ ?_<;>intro gg<;>try omega)|(apply And.intro;focus omega)|omega
  ·rw [if_neg (by simp [hn0, aftB])] at hr
   have ih := h35 r0 k (b.sl n.toNat b.l.length) r [] [r] 1 rfl (by rw [BS.sl_l]; simp; omega) (by rw [BS.sl_l]; simp; omega) rfl (by simp; omega) (by rw [← hr, BS.sl_l, List.take_of_length_le (by simp)]; rfl)
   simp only [List.map_cons, List.map_nil, Rcd.av] at ih
   have gg:=trivial;repeat' first|simp (maxSteps:=2000000) (disch:=omega) only [gg,hf,lp_head,go_sem]|(refine br ?_ ?_<;>intro gg<;>try omega)|(apply And.intro;focus omega)|omega
end Go.Abs
namespace Go.Abs
open Am
set_option maxRecDepth 10000
/-- bytes, as blocks that hold them -/
def wholeN (n : Int) : Int := (n + 511) / 512 * 512
theorem wholeN_le {n : Int} (h : 0 ≤ n) : n ≤ wholeN n ∧ wholeN n ≤ n + 511 ∧ 0 ≤ wholeN n := by
 unfold wholeN
 omega
theorem s143 (b : BS) (n : Int) (h0 : 0 ≤ n) (h1 : n ≤ 8589934592) (hb : b.l.length ≤ 1000000000) (hw : wholeN n ≤ b.l.length) : callT AA 143 [.ptr 0 0, .int .i64 n] [(0, .var [b.av])] = some (.tuple [(b.sl 0 n.toNat).av, .bool true], [(0, .var [(b.sl (wholeN n).toNat b.l.length).av])]) := by
 have hl := wholeN_le h0
 have e1 : (n + 512 - 1).tdiv 512 * 512 = wholeN n := by
  rw [Int.tdiv_eq_ediv_of_nonneg (by omega)]
  unfold wholeN
  rw [show n + 512 - 1 = n + 511 by omega]
 have e2 : (n + 512 - 1).tdiv 512 = (n + 511) / 512 := by
  rw [Int.tdiv_eq_ediv_of_nonneg (by omega)]
  rw [show n + 512 - 1 = n + 511 by omega]
 have e3 : (n + 511) / 512 * 512 = wholeN n := rfl
 refine enter fn143 np143 rfl ?_
 generalize hq : wholeN n = q at *
 have gg:=trivial;repeat' first|simp (maxSteps:=2000000) (disch:=omega) only [gg,b143,e2,e3,go_sem]|(refine br ?_ ?_<;>intro gg<;>try omega)|(apply And.intro;focus omega)|omega
theorem s143n (b : BS) (n : Int) (h0 : 0 ≤ n) (h1 : n ≤ 8589934592) (hb : b.l.length ≤ 1000000000) (hw : ¬ wholeN n ≤ b.l.length) : callT AA 143 [.ptr 0 0, .int .i64 n] [(0, .var [b.av])] = some (.tuple [.lit (.slice none 0 0), .bool false], [(0, .var [b.av])]) := by
 have hl := wholeN_le h0
 have e2 : (n + 512 - 1).tdiv 512 = (n + 511) / 512 := by
  rw [Int.tdiv_eq_ediv_of_nonneg (by omega)]
  rw [show n + 512 - 1 = n + 511 by omega]
 have e3 : (n + 511) / 512 * 512 = wholeN n := rfl
 refine enter fn143 np143 rfl ?_
 generalize hq : wholeN n = q at *
 have gg:=trivial;repeat' first|simp (maxSteps:=2000000) (disch:=omega) only [gg,b143,e2,e3,go_sem]|(refine br ?_ ?_<;>intro gg<;>try omega)|(apply And.intro;focus omega)|omega
theorem numF_le : ∀ (r : List UInt8) (acc : Int), 0 ≤ acc → 0 ≤ numF acc r ∧ numF acc r + 1 ≤ (acc + 1) * 8 ^ r.length
 | [], acc, h => by simp [numF, h]
 | c :: r, acc, h => by
  have ih := numF_le r (acc * 8 + (c.toNat : Int) % 8) (by omega)
  have hp := pow8_pos r.length
  unfold numF
  refine ⟨ih.1, Int.le_trans ih.2 ?_⟩
  rw [List.length_cons, Int.pow_succ, show (acc + 1) * (8 ^ r.length * 8) = ((acc + 1) * 8) * 8 ^ r.length by rw [Int.mul_assoc, Int.mul_comm 8]]
  exact Int.mul_le_mul_of_nonneg_right (by omega) (by omega)
theorem size_le (l : List UInt8) : 0 ≤ (decH l).size ∧ (decH l).size ≤ 8589934592 := by
 have h := numF_le ((l.drop 124).take 11) 0 (by omega)
 have hl : ((l.drop 124).take 11).length ≤ 11 := by simp; omega
 refine ⟨h.1, ?_⟩
 show numF 0 ((l.drop 124).take 11) ≤ 8589934592
 have h9 : ∀ k : Nat, k ≤ 11 → (8 : Int) ^ k ≤ 8589934592 := by
  intro k hk
  have hd : (8 : Int) ^ k * 8 ^ (11 - k) = 8589934592 := by
   rw [← Int.pow_add, show k + (11 - k) = 11 by omega]
   rfl
  have h10 := pow8_pos (11 - k)
  have h11 := pow8_pos k
  have := Int.mul_le_mul_of_nonneg_left h10 (show (0 : Int) ≤ 8 ^ k by omega)
  omega
 have := h9 _ hl
 omega
/-- the next header -/
def hdrV (b : BS) : AVal :=
 if b.l.length < 512 ∨ decOk (b.sl 0 512).l = false then .tuple [hd0.av, .lit (.slice none 0 0), .bool false] else
 if wholeN (decH (b.sl 0 512).l).size ≤ (b.sl 512 b.l.length).l.length then .tuple [(decH (b.sl 0 512).l).av, ((b.sl 512 b.l.length).sl 0 (decH (b.sl 0 512).l).size.toNat).av, .bool true]
 else .tuple [(decH (b.sl 0 512).l).av, .lit (.slice none 0 0), .bool false]
/-- what is left behind it -/
def hdrR (b : BS) : BS :=
 if b.l.length < 512 then b else if decOk (b.sl 0 512).l = false then b.sl 512 b.l.length else
 if wholeN (decH (b.sl 0 512).l).size ≤ (b.sl 512 b.l.length).l.length then (b.sl 512 b.l.length).sl (wholeN (decH (b.sl 0 512).l).size).toNat (b.sl 512 b.l.length).l.length
 else b.sl 512 b.l.length
theorem s100 (b : BS) (hb : b.l.length ≤ 1000000000) : callT AA 100 [.ptr 0 0] [(0, .var [b.av])] = some (hdrV b, [(0, .var [(hdrR b).av])]) := by
 have hw : wholeN 512 = 512 := rfl
 refine enter fn100 np100 rfl ?_
 unfold hdrV hdrR
 by_cases c1 : b.l.length < 512
 ·have h1 := s143n b 512 (by omega) (by omega) hb (by rw [hw]; omega)
  rw [if_pos (.inl c1), if_pos c1]
  have gg:=trivial;repeat' first|simp (maxSteps:=2000000) (disch:=omega) only [gg,b100,h1,go_sem]|(refine br ?_ ?_<;>intro gg<;>try omega)|(apply And.intro;focus omega)|omega
  rfl
 ·have h1 := s143 b 512 (by omega) (by omega) hb (by rw [hw]; omega)
  rw [hw] at h1
  have e512 : (512 : Int).toNat = 512 := rfl
  rw [e512] at h1
  have hbl : (b.sl 0 512).l.length = 512 := by rw [BS.sl_l]; simp; omega
  have h2 := s34 (b.sl 0 512) hbl
  rw [if_neg c1]
  cases c2 : decOk (b.sl 0 512).l with
  | false =>
   rw [c2] at h2
   rw [if_pos (.inr rfl), if_pos rfl]
   have gg:=trivial;repeat' first|simp (maxSteps:=2000000) (disch:=omega) only [gg,b100,h1,h2,Bool.false_eq_true,go_sem]|(refine br ?_ ?_<;>intro gg<;>try omega)|(apply And.intro;focus omega)|omega
   rfl
  | true =>
   rw [c2, if_pos rfl] at h2
   rw [if_neg (show ¬ (b.l.length < 512 ∨ true = false) by simp [c1]), if_neg (show ¬ (true = false) by simp)]
   have hs := size_le (b.sl 0 512).l
   have hrl : (b.sl 512 b.l.length).l.length ≤ 1000000000 := by rw [BS.sl_l]; simp; omega
   generalize decH (b.sl 0 512).l = h at *
   simp only [Hd.av] at h2
   by_cases c3 : wholeN h.size ≤ (b.sl 512 b.l.length).l.length
   ·have h3 := s143 (b.sl 512 b.l.length) h.size hs.1 hs.2 hrl c3
    rw [if_pos c3, if_pos c3]
    have gg:=trivial;repeat' first|simp (maxSteps:=2000000) (disch:=omega) only [gg,b100,h1,h2,h3,go_sem]|(refine br ?_ ?_<;>intro gg<;>try omega)|(apply And.intro;focus omega)|omega
   ·have h3 := s143n (b.sl 512 b.l.length) h.size hs.1 hs.2 hrl c3
    rw [if_neg c3, if_neg c3]
    have gg:=trivial;repeat' first|simp (maxSteps:=2000000) (disch:=omega) only [gg,b100,h1,h2,h3,go_sem]|(refine br ?_ ?_<;>intro gg<;>try omega)|(apply And.intro;focus omega)|omega
end Go.Abs
namespace Go.Abs
def l47_0 : ACode := (.seq (.seq (rg [mv 12 3, oo 13 (.bin .eql .other true (.t 12) (.c (.str []))), mv 14 13, og 15 (.mov (.t 0)) 14 false, og 16 (.bin .gtr .other true (.t 15) (ci 0)) 14 false, oo 17 (.pick (.t 14) (.c (.bool true)) (.t 16))]) (.cond (.t 17) .skip (.exit 0))) (.block 1 (.seq (rg [mv 18 0, oo 19 (.bin .rem .other true (.t 18) (ci 10)), oo 20 (.bin .add .other true (ci 48) (.t 19)), oo 21 (.cvi .u8 (.t 20)), oo 22 (.bslice 1 1 [(.int .u8 0)] [(.t 21)]), oo 23 (.cvbs (.t 22)), mv 24 3, oo 25 (.bin .add .other false (.t 23) (.t 24)), mv 3 25]) (rg [mv 26 0, oo 27 (.bin .quo .other true (.t 26) (ci 10)), mv 0 27]))))
def r47_0 : ACode := (.seq (.seq (rg [mv 28 4]) (.cond (.t 28) (.seq (rg [mv 29 3, oo 30 (.bin .add .other true (.c (.str [45])) (.t 29)), mv 2 30]) .ret) .skip)) (.seq (rg [mv 31 3, mv 2 31]) .ret))
def b47 : AFn := ⟨1, 32, [(2, none)], (.seq (rg [oo 2 (.mov (.c (.str [])))]) (.seq (.seq (rg [mv 5 0, oo 6 (.bin .eql .other true (.t 5) (.c (.int .i64 (-9223372036854775808))))]) (.cond (.t 6) (.seq (rg [oo 2 (.mov (.c (.str [45, 57, 50, 50, 51, 51, 55, 50, 48, 51, 54, 56, 53, 52, 55, 55, 53, 56, 48, 56])))]) .ret) .skip)) (.seq (rg [oo 3 (.mov (.c (.str [])))]) (.seq (rg [mv 7 0, oo 8 (.bin .lss .other true (.t 7) (ci 0)), mv 4 8]) (.seq (.seq (rg [mv 9 4]) (.cond (.t 9) (rg [mv 10 0, oo 11 (.un .neg (.t 10)), mv 0 11]) .skip)) (.seq (.block 0 (.loop [0, 2, 3, 4] l47_0)) r47_0))))))⟩
theorem fn47 : AA.fn 47 = some b47 := by kernel_rfl
theorem np47 : AA.prim 47 = none := rfl
end Go.Abs
namespace Go.Abs
open Am
set_option maxRecDepth 10000
inductive RS where
 | nil
 | mk (clip tmp : Bool) (l : List Rcd)
namespace RS
def av : RS → AVal
 | .nil => .lit (.slice none 0 0)
 | .mk c t l => .view 2 (l.map Rcd.av) c t
def l : RS → List Rcd
 | .nil => []
 | .mk _ _ l => l
def isTmp : RS → Bool
 | .nil => false
 | .mk _ t _ => t
end RS
section
variable {r : RS} {f : Nat → Option Nat} {h : Heap}
end
theorem bytesOf_one {x : Int} : bytesOf [.int .u8 x] = some [UInt8.ofNat x.toNat] := rfl
theorem dec_small {n : Int} (h0 : 0 ≤ n) (h : n < 10) : Lib.decDigits n.toNat = [UInt8.ofNat (48 + n % 10).toNat] := by
 rw [Lib.decDigits, dif_pos (by omega)]
 congr 2
 omega
theorem dec_big {n : Int} (h0 : 0 ≤ n) (h : ¬ n < 10) : Lib.decDigits n.toNat = Lib.decDigits (n / 10).toNat ++ [UInt8.ofNat (48 + n % 10).toNat] := by
 rw [Lib.decDigits, dif_neg (by omega)]
 have e1 : n.toNat / 10 = (n / 10).toNat := by omega
 have e2 : 48 + n.toNat % 10 = (48 + n % 10).toNat := by omega
 rw [e1, e2]
theorem h47 (neg : Bool) (r0 : List UInt8) : ∀ (k : Nat) (n : Int) (s : List UInt8), 0 ≤ n → n < 10 ^ k → n ≤ 9223372036854775807 → s.length + k ≤ 20 → (s = [] ∨ 0 < n → r0 = (if neg then [45] else []) ++ (Lib.decDigits n.toNat ++ s)) → (s ≠ [] → n = 0 → r0 = (if neg then [45] else []) ++ s) → (s = [] → 0 < k) →
  HD AA 0 [0, 2, 3, 4] l47_0 ⟨[.int .i64 n, .junk, .str [], .str s, .bool neg, .junk, .junk, .junk, .junk, .junk, .junk, .junk, .junk, .junk, .junk, .junk, .junk, .junk, .junk, .junk, .junk, .junk, .junk, .junk, .junk, .junk, .junk, .junk, .junk, .junk, .junk, .junk], [], 0⟩ [.blk 0, .code r47_0] (Fin [(2, none)] 0 (.str r0) [])
 | k, n, s, h0, h1, h1', h2, h3, h4, h5 => by
  by_cases hs : s = [] ∨ 0 < n
  ·have hk : 0 < k := by
    rcases hs with hs | hs
    ·exact h5 hs
    ·rcases Nat.eq_zero_or_pos k with hk | hk
     ·rw [hk] at h1
      simp at h1
      omega
     ·exact hk
   obtain ⟨k, rfl⟩ : ∃ j, k = j + 1 := ⟨k - 1, by omega⟩
   have e1 : n.tmod 10 = n % 10 := Int.tmod_eq_emod_of_nonneg h0
   have e2 : n.tdiv 10 = n / 10 := Int.tdiv_eq_ediv_of_nonneg h0
   have hr := h3 hs
   have hp : n / 10 < 10 ^ k := by
    rw [Int.pow_succ] at h1
    omega
   have ih := h47 neg r0 k (n / 10) (UInt8.ofNat (48 + n % 10).toNat :: s) (by omega) hp (by omega) (by simp; omega) (fun h => by
    have hb : ¬ n < 10 := by
     rcases h with h | h
     ·cases h
     ·omega
    rw [hr, dec_big h0 hb]
    simp) (fun _ h => by
    rw [hr, dec_small h0 (by omega)]
    simp) (fun h => by cases h)
   refine hd_of (by unfold l47_0; rfl) ?_
   by_cases hse : s = []
   ·have gg:=trivial;repeat' first|simp (maxSteps:=2000000) (disch:=omega) only [gg,decide_eq_true hse,e1,e2,bytesOf_one,lp_head,go_sem]|(refine br ?_ ?_<;>intro gg<;>try omega)|(apply And.intro;focus omega)|omega
   ·have hn : 0 < n := by
     rcases hs with hs | hs
     ·exact (hse hs).elim
     ·exact hs
    have gg:=trivial;repeat' first|simp (maxSteps:=2000000) (disch:=omega) only [gg,decide_eq_false hse,e1,e2,bytesOf_one,lp_head,go_sem]|(refine br ?_ ?_<;>intro gg<;>try omega)|(apply And.intro;focus omega)|omega
  ·have hs1 : s ≠ [] := fun h => hs (.inl h)
   have hn : n = 0 := by
    have : ¬ 0 < n := fun h => hs (.inr h)
    omega
   have hr := h4 hs1 hn
   subst hn
   refine hd_of (by unfold l47_0; rfl) ?_
   cases neg
   ·rw [hr]
    have gg:=trivial;repeat' first|simp (maxSteps:=2000000) (disch:=omega) only [gg,decide_eq_false hs1,r47_0,go_sem]|(refine br ?_ ?_<;>intro gg<;>try omega)|(apply And.intro;focus omega)|omega
    all_goals simp
   ·rw [hr]
    have gg:=trivial;repeat' first|simp (maxSteps:=2000000) (disch:=omega) only [gg,decide_eq_false hs1,r47_0,go_sem]|(refine br ?_ ?_<;>intro gg<;>try omega)|(apply And.intro;focus omega)|omega
    all_goals simp
theorem itoa_min : Lib.itoa (-9223372036854775808) = [45, 57, 50, 50, 51, 51, 55, 50, 48, 51, 54, 56, 53, 52, 55, 55, 53, 56, 48, 56] := by
 have h : (-9223372036854775808 : Int).natAbs = 9223372036854775808 := rfl
 unfold Lib.itoa
 rw [if_pos (by omega), h]
 simp [Lib.decDigits]
theorem s47 (n : Int) (h1 : -9223372036854775808 ≤ n) (h2 : n ≤ 9223372036854775807) : callT AA 47 [.int .i64 n] [] = some (.str (Lib.itoa n), []) := by
 refine enter fn47 np47 rfl ?_
 by_cases hm : n = -9223372036854775808
 ·subst hm
  rw [itoa_min]
  have gg:=trivial;repeat' first|simp (maxSteps:=2000000) (disch:=omega) only [gg,b47,go_sem]|(refine br ?_ ?_<;>intro gg<;>try omega)|(apply And.intro;focus omega)|omega
 by_cases hn : n < 0
 ·have hh := h47 true (Lib.itoa n) 19 (-n) [] (by omega) (by omega) (by omega) (by simp) (fun _ => by
   unfold Lib.itoa
   rw [if_pos hn]
   have e : n.natAbs = (-n).toNat := by omega
   rw [e]
   simp) (fun h => (h rfl).elim) (fun _ => by omega)
  have e : 0 - n = -n := by omega
  have gg:=trivial;repeat' first|simp (maxSteps:=2000000) (disch:=omega) only [gg,b47,e,lp_head,go_sem]|(refine br ?_ ?_<;>intro gg<;>try omega)|(apply And.intro;focus omega)|omega
 ·have hh := h47 false (Lib.itoa n) 19 n [] (by omega) (by omega) (by omega) (by simp) (fun _ => by
   unfold Lib.itoa
   rw [if_neg hn]
   simp) (fun h => (h rfl).elim) (fun _ => by omega)
  have gg:=trivial;repeat' first|simp (maxSteps:=2000000) (disch:=omega) only [gg,b47,lp_head,go_sem]|(refine br ?_ ?_<;>intro gg<;>try omega)|(apply And.intro;focus omega)|omega
end Go.Abs
namespace Go.Abs
open Am
set_option maxRecDepth 10000
abbrev zs (n : Nat) : List UInt8 := List.replicate n 0
/-- digits in octal -/
def octD : Nat → Int → List UInt8
 | 0, _ => []
 | k + 1, n => octD k (n / 8) ++ [UInt8.ofNat (48 + n % 8).toNat]
theorem octD_length : ∀ (k : Nat) (n : Int), (octD k n).length = k
 | 0, _ => rfl
 | k + 1, n => by simp [octD, octD_length k]
theorem set_split {α : Type} {a r : List α} {x y : α} {n : Nat} (h : n = a.length) : (a ++ x :: r).set n y = a ++ y :: r := by subst h; simp
theorem zs_add (m n : Nat) : zs (m + n) = zs m ++ zs n := (List.replicate_append_replicate ..).symm
theorem zs_split {m n : Nat} (h : m ≤ n) : zs n = zs m ++ zs (n - m) := by
 rw [← zs_add]
 congr 1
 omega
theorem octW_mid : ∀ (k : Nat) (a x c : List UInt8) (pos : Nat) (n : Int), pos = a.length → x.length = k → octW (a ++ x ++ c) pos k n = a ++ octD k n ++ c
 | 0, a, x, c, pos, n, h1, h2 => by
  have : x = [] := List.eq_nil_of_length_eq_zero h2
  subst this
  rfl
 | k + 1, a, x, c, pos, n, h1, h2 => by
  obtain ⟨y, z, rfl⟩ : ∃ y z, x = y ++ [z] := by
   refine ⟨x.take k, x.getD k 0, ?_⟩
   have hlt : k < x.length := by omega
   have e : x.getD k 0 = x[k] := by rw [List.getD, List.getElem?_eq_getElem hlt]; rfl
   rw [e, List.take_append_getElem hlt, List.take_of_length_le (by omega)]
  have hy : y.length = k := by simpa using h2
  have hs : (a ++ (y ++ [z]) ++ c).set (pos + k) (UInt8.ofNat (48 + n % 8).toNat) = a ++ y ++ (UInt8.ofNat (48 + n % 8).toNat :: c) := by
   have : a ++ (y ++ [z]) ++ c = (a ++ y) ++ z :: c := by simp
   rw [this, set_split (by simp [h1, hy])]
  unfold octW
  rw [hs, octW_mid k a y _ pos _ h1 hy]
  simp [octD]
theorem octW_tail {A : List UInt8} {n pos k : Nat} {v : Int} (j : Nat) (h1 : pos = A.length + j) (h2 : j + k ≤ n) : octW (A ++ zs n) pos k v = (A ++ zs j ++ octD k v) ++ zs (n - j - k) := by
 have e : A ++ zs n = (A ++ zs j) ++ zs k ++ zs (n - j - k) := by
  rw [zs_split (m := j) (n := n) (by omega), zs_split (m := k) (n := n - j) (by omega)]
  simp only [List.append_assoc]
 rw [e, octW_mid k _ _ _ pos v (by simp [h1]) (by simp)]
theorem putA_tail {A xs : List UInt8} {n pos k : Nat} (j : Nat) (h1 : pos = A.length + j) (h2 : j + k ≤ n) (h3 : xs.length ≤ k) : putA (A ++ zs n) pos k xs = (A ++ zs j ++ xs) ++ zs (n - j - xs.length) := by
 have e : A ++ zs n = (A ++ zs j) ++ (zs xs.length ++ zs (n - j - xs.length)) := by
  rw [zs_split (m := j) (n := n) (by omega), zs_split (m := xs.length) (n := n - j) (by omega)]
  simp only [List.append_assoc]
 have hm : min xs.length k = xs.length := by omega
 unfold putA
 rw [hm, List.take_of_length_le (Nat.le_refl _), e]
 have h4 : ((A ++ zs j) ++ (zs xs.length ++ zs (n - j - xs.length))).take pos = A ++ zs j := by
  rw [List.take_left' (by simp [h1])]
 have h5 : ((A ++ zs j) ++ (zs xs.length ++ zs (n - j - xs.length))).drop (pos + xs.length) = zs (n - j - xs.length) := by
  rw [← List.append_assoc, List.drop_left' (by simp [h1]; omega)]
 rw [h4, h5]
theorem set_tail {A : List UInt8} {n pos : Nat} {v : UInt8} (j : Nat) (h1 : pos = A.length + j) (h2 : j + 1 ≤ n) : (A ++ zs n).set pos v = (A ++ zs j ++ [v]) ++ zs (n - j - 1) := by
 have e : A ++ zs n = (A ++ zs j) ++ 0 :: zs (n - j - 1) := by
  rw [zs_split (m := j) (n := n) (by omega), zs_split (m := 1) (n := n - j) (by omega)]
  simp only [List.append_assoc]
  rfl
 rw [e, set_split (by simp [h1])]
 simp
/-- a text, filled up -/
def fillT (s : List UInt8) (n : Nat) : List UInt8 := s ++ zs (n - s.length)
theorem fillT_length {s : List UInt8} {n : Nat} (h : s.length ≤ n) : (fillT s n).length = n := by
 simp [fillT]
 omega
/-- the fields ahead of the sum; behind it -/
def blkA (h : Hd) (name : List UInt8) : List UInt8 := fillT name 100 ++ octD 7 h.mode ++ [0] ++ octD 7 h.uid ++ [0] ++ octD 7 h.gid ++ [0] ++ octD 11 h.size ++ [0] ++ octD 11 h.time ++ [0]
def blkZ (h : Hd) (pre : List UInt8) : List UInt8 := [h.type] ++ fillT h.link 100 ++ magicB ++ zs 64 ++ octD 7 0 ++ [0] ++ octD 7 0 ++ [0] ++ fillT pre 155 ++ zs 12
theorem blkA_length {h : Hd} {name : List UInt8} (h1 : name.length ≤ 100) : (blkA h name).length = 148 := by
 simp [blkA, fillT_length h1, octD_length]
theorem blkZ_length {h : Hd} {pre : List UInt8} (h1 : pre.length ≤ 155) (h2 : h.link.length ≤ 100) : (blkZ h pre).length = 356 := by
 simp [blkZ, fillT_length h1, fillT_length h2, octD_length, magicB]
theorem zs_one : ([0] : List UInt8) = zs 1 := rfl
theorem encH_eq {h : Hd} {pre name : List UInt8} (h1 : name.length ≤ 100) (h2 : pre.length ≤ 155) (h3 : h.link.length ≤ 100) : encH h pre name = blkA h name ++ zs 8 ++ blkZ h pre := by
 have e0 : zeros512 = [] ++ zs 512 := rfl
 have hm : magicB.length = 8 := rfl
 unfold encH
 simp only []
 rw [e0, putA_tail 0 (by simp) (by omega) (by omega)]
 rw [octW_tail (100 - name.length) (by simp; omega) (by omega)]
 rw [octW_tail 1 (by simp [octD_length]; omega) (by omega)]
 rw [octW_tail 1 (by simp [octD_length]; omega) (by omega)]
 rw [octW_tail 1 (by simp [octD_length]; omega) (by omega)]
 rw [octW_tail 1 (by simp [octD_length]; omega) (by omega)]
 rw [set_tail 9 (by simp [octD_length]; omega) (by omega)]
 rw [putA_tail 0 (by simp [octD_length]; omega) (by omega) (by omega)]
 rw [putA_tail (100 - h.link.length) (by simp [octD_length]; omega) (by omega) (by rw [hm]; omega)]
 rw [octW_tail 64 (by simp [octD_length, hm]; omega) (by rw [hm]; omega)]
 rw [octW_tail 1 (by simp [octD_length, hm]; omega) (by rw [hm]; omega)]
 rw [putA_tail 1 (by simp [octD_length, hm]; omega) (by rw [hm]; omega) (by omega)]
 have e9 : zs 9 = [0] ++ zs 8 := rfl
 have en : 512 - 0 - name.length - (100 - name.length) - 7 - 1 - 7 - 1 - 7 - 1 - 11 - 1 - 11 - 9 - 1 - 0 - h.link.length - (100 - h.link.length) - magicB.length - 64 - 7 - 1 - 7 - 1 - pre.length = (155 - pre.length) + 12 := by rw [hm]; omega
 rw [en]
 have e0' : zs 0 = [] := rfl
 unfold blkA blkZ fillT
 rw [e9, zs_add (155 - pre.length) 12, ← zs_one, e0']
 simp only [List.append_assoc, List.nil_append, List.append_nil]
/-- the sum -/
def sumV (h : Hd) (pre name : List UInt8) : Int := 256 + sumL 0 (blkA h name ++ zs 8 ++ blkZ h pre)
def sumD (n : Int) : List UInt8 := octD 6 n ++ [0, 32]
/-- a block, field by field -/
def blk (h : Hd) (pre name : List UInt8) : List UInt8 := blkA h name ++ sumD (sumV h pre name) ++ blkZ h pre
theorem encB_blk {h : Hd} (h1 : (splitN h.path).2.1.length ≤ 100) (h2 : (splitN h.path).1.length ≤ 155) (h3 : h.link.length ≤ 100) : encB h = blk h (splitN h.path).1 (splitN h.path).2.1 := by
 unfold encB
 simp only []
 rw [encH_eq h1 h2 h3]
 generalize (splitN h.path).1 = pre at *
 generalize (splitN h.path).2.1 = name at *
 have e : blkA h name ++ zs 8 ++ blkZ h pre = blkA h name ++ zs 6 ++ ([0, 0] ++ blkZ h pre) := by
  have : zs 8 = zs 6 ++ [0, 0] := rfl
  rw [this]
  simp
 show (octW _ 148 6 (sumV h pre name)).set 155 32 = _
 rw [e, octW_mid 6 _ _ _ 148 _ (blkA_length h1).symm (by simp)]
 have e2 : blkA h name ++ octD 6 (sumV h pre name) ++ ([0, 0] ++ blkZ h pre) = (blkA h name ++ octD 6 (sumV h pre name) ++ [0]) ++ 0 :: blkZ h pre := by simp
 rw [e2, set_split (by simp [blkA_length h1, octD_length])]
 simp [blk, sumD]
theorem aheadOf_app (x : UInt8) : ∀ (s r : List UInt8), (∀ c ∈ s, c ≠ x) → aheadOf x (s ++ r) = s ++ aheadOf x r
 | [], r, _ => rfl
 | c :: s, r, h => by
  have hc : c ≠ x := h c (by simp)
  show (if c = x then [] else c :: aheadOf x (s ++ r)) = _
  rw [if_neg hc, aheadOf_app x s r fun y hy => h y (by simp [hy])]
  rfl
theorem aheadOf_zs (n : Nat) : aheadOf 0 (zs n) = [] := by
 cases n <;> simp [zs, aheadOf, List.replicate_succ]
theorem aheadOf_fill {s : List UInt8} {n : Nat} (h : ∀ c ∈ s, c ≠ 0) : aheadOf 0 (fillT s n) = s := by
 unfold fillT
 rw [aheadOf_app 0 s _ h, aheadOf_zs, List.append_nil]
theorem numF_app : ∀ (a b : List UInt8) (acc : Int), numF acc (a ++ b) = numF (numF acc a) b
 | [], b, acc => rfl
 | c :: a, b, acc => by
  show numF (acc * 8 + (c.toNat : Int) % 8) (a ++ b) = _
  rw [numF_app a b]
  rfl
theorem oct_digit (n : Int) : ((UInt8.ofNat (48 + n % 8).toNat).toNat : Int) % 8 = n % 8 := by
 have h : (UInt8.ofNat (48 + n % 8).toNat).toNat = (48 + n % 8).toNat := UInt8.toNat_ofNat_of_lt' (by simp [UInt8.size]; omega)
 rw [h]
 omega
theorem numF_oct : ∀ (k : Nat) (n : Int), 0 ≤ n → n < 8 ^ k → numF 0 (octD k n) = n
 | 0, n, h0, h1 => by
  simp at h1
  have : n = 0 := by omega
  rw [this]
  rfl
 | k + 1, n, h0, h1 => by
  have hd : n / 8 < 8 ^ k := by
   rw [Int.pow_succ] at h1
   omega
  unfold octD
  rw [numF_app, numF_oct k (n / 8) (by omega) hd]
  show n / 8 * 8 + ((UInt8.ofNat (48 + n % 8).toNat).toNat : Int) % 8 = n
  rw [oct_digit]
  omega
theorem dt_mid {α : Type} {a x c : List α} {i n : Nat} (h1 : i = a.length) (h2 : n = x.length) : ((a ++ (x ++ c)).drop i).take n = x := by
 rw [List.drop_left' h1.symm, List.take_left' h2.symm]
theorem ascii_ne {s : List UInt8} (h : asciiB s = true) : ∀ c ∈ s, c ≠ 0 := by
 intro c hc
 unfold asciiB at h
 have := List.all_eq_true.1 h c hc
 unfold okByte at this
 rintro rfl
 simp at this
theorem spAt_ok {p : List UInt8} : ∀ (k i : Nat), (spAt p k i).2.2 = true → ∃ j, spOk p j = true ∧ spAt p k i = (p.take j, p.drop (j + 1), true)
 | 0, _, h => by cases h
 | k + 1, i, h => by
  unfold spAt at h ⊢
  by_cases c : spOk p i = true
  ·rw [if_pos c]
   exact ⟨i, c, rfl⟩
  ·rw [if_neg c] at h ⊢
   exact spAt_ok k (i + 1) h
/-- a path's parts -/
theorem splitN_ok {p : List UInt8} (h : (splitN p).2.2 = true) : asciiB p = true ∧ (splitN p).1.length ≤ 155 ∧ (splitN p).2.1.length ≤ 100 ∧ (splitN p).2.1 ≠ [] ∧
  ((splitN p).1 = [] ∧ (splitN p).2.1 = p ∨ (splitN p).1 ≠ [] ∧ p = (splitN p).1 ++ [47] ++ (splitN p).2.1) := by
 unfold splitN at h ⊢
 by_cases c1 : p = [] ∨ asciiB p = false
 ·rw [if_pos c1] at h; cases h
 rw [if_neg c1] at h ⊢
 have ha : asciiB p = true := by
  cases ha : asciiB p with
  | true => rfl
  | false => exact (c1 (.inr ha)).elim
 have hn : p ≠ [] := fun hp => c1 (.inl hp)
 by_cases c2 : p.length ≤ 100
 ·rw [if_pos c2]
  exact ⟨ha, by simp, c2, hn, .inl ⟨rfl, rfl⟩⟩
 rw [if_neg c2] at h ⊢
 obtain ⟨j, hj, he⟩ := spAt_ok _ _ h
 rw [he]
 unfold spOk at hj
 simp only [Bool.and_eq_true, decide_eq_true_eq] at hj
 obtain ⟨⟨⟨⟨j1, j2⟩, j3⟩, j4⟩, j5⟩ := hj
 refine ⟨ha, by simp; omega, by simp; omega, ?_, .inr ⟨?_, ?_⟩⟩
 ·intro hd
  have := congrArg List.length hd
  rw [List.length_drop, List.length_nil] at this
  omega
 ·intro hd
  have := congrArg List.length hd
  rw [List.length_take, List.length_nil] at this
  omega
 ·have hlt : j < p.length := by omega
  have hg : p[j] = 47 := by
   have := List.getElem?_eq_getElem hlt
   rw [this] at j1
   exact Option.some.inj j1
  have : p = p.take j ++ p.drop j := (List.take_append_drop j p).symm
  rw [List.drop_eq_getElem_cons hlt, hg] at this
  simpa using this
structure FitsH (h : Hd) : Prop where
 mode : 0 ≤ h.mode ∧ h.mode < 2097152
 uid : 0 ≤ h.uid ∧ h.uid < 2097152
 gid : 0 ≤ h.gid ∧ h.gid < 2097152
 size : 0 ≤ h.size ∧ h.size < 8589934592
 time : 0 ≤ h.time ∧ h.time < 8589934592
 link : h.link.length ≤ 100 ∧ asciiB h.link = true
theorem linkB_iff {l : List UInt8} (h : linkB l = true) : l ≠ [] ∧ l.length ≤ 100 ∧ asciiB l = true := by
 unfold linkB at h
 simp only [Bool.and_eq_true, decide_eq_true_eq] at h
 exact ⟨h.1.1, by omega, h.2⟩
theorem fitsH_of {h : Hd} (hf : fitsB h = true) : FitsH h := by
 unfold fitsB at hf
 simp only [Bool.and_eq_true] at hf
 obtain ⟨⟨⟨⟨⟨f1, f2⟩, f3⟩, f4⟩, f5⟩, f6⟩ := hf
 refine ⟨idB_iff.1 f1, idB_iff.1 f2, idB_iff.1 f3, timeB_iff.1 f4, timeB_iff.1 f5, ?_⟩
 have hn : h.link = [] → h.link.length ≤ 100 ∧ asciiB h.link = true := by
  intro hl
  rw [hl]
  exact ⟨by simp, rfl⟩
 split at f6
 ·simp only [Bool.and_eq_true] at f6
  exact (linkB_iff f6.1).2
 ·split at f6
  ·simp only [Bool.and_eq_true, decide_eq_true_eq] at f6
   exact hn f6.1
  ·split at f6
   ·exact hn (by simpa using f6)
   ·cases f6
theorem decH_blk {h : Hd} {pre name : List UInt8} (s : List UInt8) (hs : s.length = 8) (hf : FitsH h) (h1 : name.length ≤ 100) (h2 : pre.length ≤ 155) (h3 : ∀ c ∈ name, c ≠ 0) (h4 : ∀ c ∈ pre, c ≠ 0) : decH (blkA h name ++ s ++ blkZ h pre) = ⟨if pre = [] then name else pre ++ [47] ++ name, h.mode, h.uid, h.gid, h.size, h.time, h.type, h.link⟩ := by
 have l1 := fillT_length h1
 have l2 := fillT_length h2
 have l3 := fillT_length hf.link.1
 have o7 := octD_length 7
 have o11 := octD_length 11
 have hm : magicB.length = 8 := rfl
 have p7 : (8 : Int) ^ 7 = 2097152 := rfl
 have p11 : (8 : Int) ^ 11 = 8589934592 := rfl
 have c1 : textF (blkA h name ++ s ++ blkZ h pre) 0 100 = name := by
  unfold textF blkA
  have e : ((fillT name 100 ++ octD 7 h.mode ++ [0] ++ octD 7 h.uid ++ [0] ++ octD 7 h.gid ++ [0] ++ octD 11 h.size ++ [0] ++ octD 11 h.time ++ [0] ++ s ++ blkZ h pre).drop 0).take 100 = fillT name 100 := by
   simp only [List.append_assoc]
   exact dt_mid (a := []) (by simp) l1.symm
  rw [e, aheadOf_fill h3]
 have c2 : numF 0 (((blkA h name ++ s ++ blkZ h pre).drop 100).take 7) = h.mode := by
  have e : ((blkA h name ++ s ++ blkZ h pre).drop 100).take 7 = octD 7 h.mode := by
   unfold blkA
   simp only [List.append_assoc]
   exact dt_mid (a := fillT name 100) (by simp [l1]) (o7 _).symm
  rw [e, numF_oct 7 _ hf.mode.1 (by rw [p7]; exact hf.mode.2)]
 have c3 : numF 0 (((blkA h name ++ s ++ blkZ h pre).drop 108).take 7) = h.uid := by
  have e : ((blkA h name ++ s ++ blkZ h pre).drop 108).take 7 = octD 7 h.uid := by
   unfold blkA
   have := dt_mid (a := fillT name 100 ++ octD 7 h.mode ++ [0]) (x := octD 7 h.uid) (c := [0] ++ octD 7 h.gid ++ [0] ++ octD 11 h.size ++ [0] ++ octD 11 h.time ++ [0] ++ s ++ blkZ h pre) (i := 108) (n := 7) (by simp [l1, o7]) (o7 _).symm
   simpa only [List.append_assoc] using this
  rw [e, numF_oct 7 _ hf.uid.1 (by rw [p7]; exact hf.uid.2)]
 have c4 : numF 0 (((blkA h name ++ s ++ blkZ h pre).drop 116).take 7) = h.gid := by
  have e : ((blkA h name ++ s ++ blkZ h pre).drop 116).take 7 = octD 7 h.gid := by
   unfold blkA
   have := dt_mid (a := fillT name 100 ++ octD 7 h.mode ++ [0] ++ octD 7 h.uid ++ [0]) (x := octD 7 h.gid) (c := [0] ++ octD 11 h.size ++ [0] ++ octD 11 h.time ++ [0] ++ s ++ blkZ h pre) (i := 116) (n := 7) (by simp [l1, o7]) (o7 _).symm
   simpa only [List.append_assoc] using this
  rw [e, numF_oct 7 _ hf.gid.1 (by rw [p7]; exact hf.gid.2)]
 have c5 : numF 0 (((blkA h name ++ s ++ blkZ h pre).drop 124).take 11) = h.size := by
  have e : ((blkA h name ++ s ++ blkZ h pre).drop 124).take 11 = octD 11 h.size := by
   unfold blkA
   have := dt_mid (a := fillT name 100 ++ octD 7 h.mode ++ [0] ++ octD 7 h.uid ++ [0] ++ octD 7 h.gid ++ [0]) (x := octD 11 h.size) (c := [0] ++ octD 11 h.time ++ [0] ++ s ++ blkZ h pre) (i := 124) (n := 11) (by simp [l1, o7]) (o11 _).symm
   simpa only [List.append_assoc] using this
  rw [e, numF_oct 11 _ hf.size.1 (by rw [p11]; exact hf.size.2)]
 have c6 : numF 0 (((blkA h name ++ s ++ blkZ h pre).drop 136).take 11) = h.time := by
  have e : ((blkA h name ++ s ++ blkZ h pre).drop 136).take 11 = octD 11 h.time := by
   unfold blkA
   have := dt_mid (a := fillT name 100 ++ octD 7 h.mode ++ [0] ++ octD 7 h.uid ++ [0] ++ octD 7 h.gid ++ [0] ++ octD 11 h.size ++ [0]) (x := octD 11 h.time) (c := [0] ++ s ++ blkZ h pre) (i := 136) (n := 11) (by simp [l1, o7, o11]) (o11 _).symm
   simpa only [List.append_assoc] using this
  rw [e, numF_oct 11 _ hf.time.1 (by rw [p11]; exact hf.time.2)]
 have hA : (blkA h name ++ s).length = 156 := by simp [blkA_length h1, hs]
 have c7 : (blkA h name ++ s ++ blkZ h pre).getD 156 0 = h.type := by
  rw [List.getD, List.getElem?_append_right (by omega), hA]
  rfl
 have c8 : textF (blkA h name ++ s ++ blkZ h pre) 157 100 = h.link := by
  have e : ((blkA h name ++ s ++ blkZ h pre).drop 157).take 100 = fillT h.link 100 := by
   have := dt_mid (a := blkA h name ++ s ++ [h.type]) (x := fillT h.link 100) (c := magicB ++ zs 64 ++ octD 7 0 ++ [0] ++ octD 7 0 ++ [0] ++ fillT pre 155 ++ zs 12) (i := 157) (n := 100) (by rw [List.length_append, hA]; rfl) l3.symm
   unfold blkZ
   simpa only [List.append_assoc] using this
  unfold textF
  rw [e, aheadOf_fill (ascii_ne hf.link.2)]
 have c9 : textF (blkA h name ++ s ++ blkZ h pre) 345 155 = pre := by
  have e : ((blkA h name ++ s ++ blkZ h pre).drop 345).take 155 = fillT pre 155 := by
   have := dt_mid (a := blkA h name ++ s ++ ([h.type] ++ fillT h.link 100 ++ magicB ++ zs 64 ++ octD 7 0 ++ [0] ++ octD 7 0 ++ [0])) (x := fillT pre 155) (c := zs 12) (i := 345) (n := 155) (by rw [List.length_append, hA]; simp [l3, hm, o7]) l2.symm
   unfold blkZ
   simpa only [List.append_assoc] using this
  unfold textF
  rw [e, aheadOf_fill h4]
 unfold decH
 rw [c1, c2, c3, c4, c5, c6, c7, c8, c9]
theorem encOk_parts {h : Hd} (hok : encOk h = true) : (splitN h.path).2.2 = true ∧ FitsH h := by
 unfold encOk at hok
 simp only [Bool.and_eq_true] at hok
 exact ⟨hok.1, fitsH_of hok.2⟩
/-- THERE AND BACK: headers -/
theorem decH_encB {h : Hd} (hok : encOk h = true) : decH (encB h) = h := by
 obtain ⟨k1, hf⟩ := encOk_parts hok
 obtain ⟨ha, s1, s2, s3, s4⟩ := splitN_ok k1
 rw [encB_blk s2 s1 hf.link.1]
 have ne := ascii_ne ha
 have n1 : ∀ c ∈ (splitN h.path).2.1, c ≠ 0 := by
  intro c hc
  rcases s4 with ⟨_, e⟩ | ⟨_, e⟩
  ·exact ne c (by rw [← e]; exact hc)
  ·exact ne c (by rw [e]; simp [hc])
 have n2 : ∀ c ∈ (splitN h.path).1, c ≠ 0 := by
  intro c hc
  rcases s4 with ⟨e, _⟩ | ⟨_, e⟩
  ·rw [e] at hc; cases hc
  ·exact ne c (by rw [e]; simp [hc])
 unfold blk
 rw [decH_blk _ (by simp [sumD, octD_length]) hf s2 s1 n1 n2]
 rcases s4 with ⟨e1, e2⟩ | ⟨e1, e2⟩
 ·rw [if_pos e1, e2]
 ·rw [if_neg e1, ← e2]
theorem decOk_encB {h : Hd} (hok : encOk h = true) : decOk (encB h) = true := by
 unfold decOk
 rw [decH_encB hok, hok]
 simp
end Go.Abs
namespace Go.Abs
open Am
set_option maxRecDepth 10000
/-- what an entry's place holds: its data nil, or a row of one's own -/
def entCs (e : Ent) (d : AVal) : List AVal := [.str e.path, .int .i64 e.kind, .int .i64 e.mode, .int .i64 e.uid, .int .i64 e.gid, .int .i64 e.time, .str e.link, d]
attribute [go_sem] entCs
theorem numErr_eq : numErr = .iface 227 .junk := rfl
theorem s144_3o (e : Ent) (s : List UInt8) (n : Nat) (ds : List AVal) (hs : s.length ≤ 1000000) : callT AA 144 [.ptr 0 3, .str s] [(0, .var (entCs e (.own 1 1 0 n false))), (1, .row ds 1)] = some (.bool (atoiOk s), [(0, .var (entCs { e with uid := atoiV s } (.own 1 1 0 n false))), (1, .row ds 1)]) := by
 have h := call118 (s := s) (by omega)
 rw [numErr_eq] at h
 generalize atoiV s = N at *
 refine enter fn144 np144 rfl ?_
 cases c : atoiOk s with
 | true =>
  rw [c] at h
  have gg:=trivial;repeat' first|simp (maxSteps:=2000000) (disch:=omega) only [gg,b144,h,go_sem]|(refine br ?_ ?_<;>intro gg<;>try omega)|(apply And.intro;focus omega)|omega
 | false =>
  rw [c] at h
  have gg:=trivial;repeat' first|simp (maxSteps:=2000000) (disch:=omega) only [gg,b144,h,Bool.false_eq_true,go_sem]|(refine br ?_ ?_<;>intro gg<;>try omega)|(apply And.intro;focus omega)|omega
theorem s144_4o (e : Ent) (s : List UInt8) (n : Nat) (ds : List AVal) (hs : s.length ≤ 1000000) : callT AA 144 [.ptr 0 4, .str s] [(0, .var (entCs e (.own 1 1 0 n false))), (1, .row ds 1)] = some (.bool (atoiOk s), [(0, .var (entCs { e with gid := atoiV s } (.own 1 1 0 n false))), (1, .row ds 1)]) := by
 have h := call118 (s := s) (by omega)
 rw [numErr_eq] at h
 generalize atoiV s = N at *
 refine enter fn144 np144 rfl ?_
 cases c : atoiOk s with
 | true =>
  rw [c] at h
  have gg:=trivial;repeat' first|simp (maxSteps:=2000000) (disch:=omega) only [gg,b144,h,go_sem]|(refine br ?_ ?_<;>intro gg<;>try omega)|(apply And.intro;focus omega)|omega
 | false =>
  rw [c] at h
  have gg:=trivial;repeat' first|simp (maxSteps:=2000000) (disch:=omega) only [gg,b144,h,Bool.false_eq_true,go_sem]|(refine br ?_ ?_<;>intro gg<;>try omega)|(apply And.intro;focus omega)|omega
theorem s144_5o (e : Ent) (s : List UInt8) (n : Nat) (ds : List AVal) (hs : s.length ≤ 1000000) : callT AA 144 [.ptr 0 5, .str s] [(0, .var (entCs e (.own 1 1 0 n false))), (1, .row ds 1)] = some (.bool (atoiOk s), [(0, .var (entCs { e with time := atoiV s } (.own 1 1 0 n false))), (1, .row ds 1)]) := by
 have h := call118 (s := s) (by omega)
 rw [numErr_eq] at h
 generalize atoiV s = N at *
 refine enter fn144 np144 rfl ?_
 cases c : atoiOk s with
 | true =>
  rw [c] at h
  have gg:=trivial;repeat' first|simp (maxSteps:=2000000) (disch:=omega) only [gg,b144,h,go_sem]|(refine br ?_ ?_<;>intro gg<;>try omega)|(apply And.intro;focus omega)|omega
 | false =>
  rw [c] at h
  have gg:=trivial;repeat' first|simp (maxSteps:=2000000) (disch:=omega) only [gg,b144,h,Bool.false_eq_true,go_sem]|(refine br ?_ ?_<;>intro gg<;>try omega)|(apply And.intro;focus omega)|omega
end Go.Abs
namespace Go.Abs
open Am
set_option maxRecDepth 10000
/-- what a record tells -/
def tellE (e : Ent) (r : Rcd) : Ent × Bool :=
 if r.key = [103, 105, 100] then ({ e with gid := atoiV r.value }, atoiOk r.value) else
 if r.key = [108, 105, 110, 107, 112, 97, 116, 104] then ({ e with link := r.value }, true) else
 if r.key = [109, 116, 105, 109, 101] then ({ e with time := atoiV r.value }, atoiOk r.value) else
 if r.key = [112, 97, 116, 104] then ({ e with path := r.value }, true) else
 if r.key = [117, 105, 100] then ({ e with uid := atoiV r.value }, atoiOk r.value) else (e, false)
def toldE (e : Ent) : List Rcd → Ent × Bool
 | [] => (e, true)
 | r :: rs => if (tellE e r).2 = true then toldE (tellE e r).1 rs else ((tellE e r).1, false)
set_option maxHeartbeats 4000000 in
theorem h103o (c t : Bool) (rs : List Rcd) (hs : rs.length ≤ 1000000) (hb : ∀ r ∈ rs, RcdOk r) (q : Nat) (ds : List AVal) (r0 : Ent × Bool) : ∀ (rest done : List Rcd) (e : Ent) (n i : Int), rs = done ++ rest → i = done.length → n = rs.length → r0 = toldE e rest →
  HD AA 2 [0, 4, 5, 9, 10, 11] l103_0 ⟨[.ptr 0 0, .junk, .junk, .junk, .bool false, .func (.func 144) [], .junk, .junk, .junk, .view 2 (rs.map Rcd.av) c t, .int .i64 n, .int .i64 i, .junk, .junk, .junk, .junk, .junk, .junk, .junk, .junk, .junk, .junk, .junk, .junk, .junk, .junk, .junk, .junk, .junk, .junk, .junk, .junk, .junk, .junk, .junk, .junk, .junk, .junk, .junk, .junk, .junk, .junk, .junk, .junk, .junk, .junk, .junk, .junk, .junk, .junk, .junk, .junk, .junk, .junk, .junk, .junk, .junk, .junk, .junk, .junk, .junk], [(0, .var (entCs e (.own 1 1 0 q false))), (1, .row ds 1)], 4⟩ [.blk 0, .code r103_0] (Fin [(4, none)] 2 (.bool r0.2) [(0, .var (entCs r0.1 (.own 1 1 0 q false))), (1, .row ds 1)])
 | [], done, e, n, i, h1, h2, h3, h4 => by
  subst h1
  simp at h3
  refine hd_of (by unfold l103_0; rfl) ?_
  simp only [toldE] at h4
  rw [h4]
  have gg:=trivial;repeat' first|simp (maxSteps:=2000000) (disch:=omega) only [gg,r103_0,go_sem]|(refine br ?_ ?_<;>intro gg<;>try omega)|(apply And.intro;focus omega)|omega
 | r :: rest, done, e, n, i, h1, h2, h3, h4 => by
  have hg0 : rs[i.toNat]? = some r := by
   rw [h1]
   simp [h2]
  have hl : i.toNat < rs.length := by rw [h1]; simp; omega
  obtain ⟨hk, hv⟩ := hb r (by simp [h1])
  have c3 := s144_3o e r.value q ds hv
  have c4 := s144_4o e r.value q ds hv
  have c5 := s144_5o e r.value q ds hv
  simp only [entCs] at c3 c4 c5
  unfold toldE at h4
  have ih := h103o c t rs hs hb q ds r0 rest (done ++ [r]) (tellE e r).1 n (i + 1) (by simp [h1]) (by first | omega | (simp; omega) | (simp; done)) h3
  refine hd_of (by unfold l103_0; rfl) ?_
  unfold tellE at h4 ih
  by_cases k0 : r.key = [103, 105, 100]
  ·simp only [if_pos k0] at h4 ih
   cases hok : atoiOk r.value with
   | true =>
    rw [hok, if_pos rfl] at h4
    rw [hok] at c4
    have ih := ih h4
    simp only [entCs] at ih
    have gg:=trivial;repeat' first|simp (maxSteps:=2000000) (disch:=omega) only [gg,hg0,decide_eq_true k0,c4,lp_head,go_sem]|(refine br ?_ ?_<;>intro gg<;>try omega)|(apply And.intro;focus omega)|omega
    all_goals first | exact ih | skip
   | false =>
    rw [hok, if_neg (by simp)] at h4
    rw [hok] at c4
    rw [h4]
    have gg:=trivial;repeat' first|simp (maxSteps:=2000000) (disch:=omega) only [gg,hg0,decide_eq_true k0,c4,lp_head,go_sem]|(refine br ?_ ?_<;>intro gg<;>try omega)|(apply And.intro;focus omega)|omega
    all_goals first | rfl | skip
  by_cases k1 : r.key = [108, 105, 110, 107, 112, 97, 116, 104]
  ·simp only [if_neg k0, if_pos k1, if_true] at h4 ih
   have ih := ih h4
   simp only [entCs] at ih
   have gg:=trivial;repeat' first|simp (maxSteps:=2000000) (disch:=omega) only [gg,hg0,decide_eq_false k0,decide_eq_true k1,lp_head,go_sem]|(refine br ?_ ?_<;>intro gg<;>try omega)|(apply And.intro;focus omega)|omega
   all_goals first | exact ih | skip
  by_cases k2 : r.key = [109, 116, 105, 109, 101]
  ·simp only [if_neg k0, if_neg k1, if_pos k2] at h4 ih
   cases hok : atoiOk r.value with
   | true =>
    rw [hok, if_pos rfl] at h4
    rw [hok] at c5
    have ih := ih h4
    simp only [entCs] at ih
    have gg:=trivial;repeat' first|simp (maxSteps:=2000000) (disch:=omega) only [gg,hg0,decide_eq_false k0,decide_eq_false k1,decide_eq_true k2,c5,lp_head,go_sem]|(refine br ?_ ?_<;>intro gg<;>try omega)|(apply And.intro;focus omega)|omega
    all_goals first | exact ih | skip
   | false =>
    rw [hok, if_neg (by simp)] at h4
    rw [hok] at c5
    rw [h4]
    have gg:=trivial;repeat' first|simp (maxSteps:=2000000) (disch:=omega) only [gg,hg0,decide_eq_false k0,decide_eq_false k1,decide_eq_true k2,c5,lp_head,go_sem]|(refine br ?_ ?_<;>intro gg<;>try omega)|(apply And.intro;focus omega)|omega
    all_goals first | rfl | skip
  by_cases k3 : r.key = [112, 97, 116, 104]
  ·simp only [if_neg k0, if_neg k1, if_neg k2, if_pos k3, if_true] at h4 ih
   have ih := ih h4
   simp only [entCs] at ih
   have gg:=trivial;repeat' first|simp (maxSteps:=2000000) (disch:=omega) only [gg,hg0,decide_eq_false k0,decide_eq_false k1,decide_eq_false k2,decide_eq_true k3,lp_head,go_sem]|(refine br ?_ ?_<;>intro gg<;>try omega)|(apply And.intro;focus omega)|omega
   all_goals first | exact ih | skip
  by_cases k4 : r.key = [117, 105, 100]
  ·simp only [if_neg k0, if_neg k1, if_neg k2, if_neg k3, if_pos k4] at h4 ih
   cases hok : atoiOk r.value with
   | true =>
    rw [hok, if_pos rfl] at h4
    rw [hok] at c3
    have ih := ih h4
    simp only [entCs] at ih
    have gg:=trivial;repeat' first|simp (maxSteps:=2000000) (disch:=omega) only [gg,hg0,decide_eq_false k0,decide_eq_false k1,decide_eq_false k2,decide_eq_false k3,decide_eq_true k4,c3,lp_head,go_sem]|(refine br ?_ ?_<;>intro gg<;>try omega)|(apply And.intro;focus omega)|omega
    all_goals first | exact ih | skip
   | false =>
    rw [hok, if_neg (by simp)] at h4
    rw [hok] at c3
    rw [h4]
    have gg:=trivial;repeat' first|simp (maxSteps:=2000000) (disch:=omega) only [gg,hg0,decide_eq_false k0,decide_eq_false k1,decide_eq_false k2,decide_eq_false k3,decide_eq_true k4,c3,lp_head,go_sem]|(refine br ?_ ?_<;>intro gg<;>try omega)|(apply And.intro;focus omega)|omega
    all_goals first | rfl | skip
  simp only [if_neg k0, if_neg k1, if_neg k2, if_neg k3, if_neg k4, Bool.false_eq_true, if_false] at h4
  rw [h4]
  have gg:=trivial;repeat' first|simp (maxSteps:=2000000) (disch:=omega) only [gg,hg0,decide_eq_false k0,decide_eq_false k1,decide_eq_false k2,decide_eq_false k3,decide_eq_false k4,lp_head,go_sem]|(refine br ?_ ?_<;>intro gg<;>try omega)|(apply And.intro;focus omega)|omega
  all_goals first | rfl | skip
end Go.Abs
namespace Go.Abs
open Am
set_option maxRecDepth 10000
theorem s103o (c t : Bool) (rs : List Rcd) (hs : rs.length ≤ 1000000) (hb : ∀ r ∈ rs, RcdOk r) (q : Nat) (ds : List AVal) (e : Ent) : callT AA 103 [.ptr 0 0, .view 2 (rs.map Rcd.av) c t] [(0, .var (entCs e (.own 1 1 0 q false))), (1, .row ds 1)] = some (.bool (toldE e rs).2, [(0, .var (entCs (toldE e rs).1 (.own 1 1 0 q false))), (1, .row ds 1)]) := by
 have hh := h103o c t rs hs hb q ds (toldE e rs) rs [] e rs.length 0 rfl rfl rfl rfl
 simp only [entCs] at hh
 refine enter fn103 np103 rfl ?_
 have gg:=trivial;repeat' first|simp (maxSteps:=2000000) (disch:=omega) only [gg,b103,lp_head,go_sem]|(refine br ?_ ?_<;>intro gg<;>try omega)|(apply And.intro;focus omega)|omega
 all_goals first | exact hh | skip
theorem s103on (q : Nat) (ds : List AVal) (e : Ent) : callT AA 103 [.ptr 0 0, .lit (.slice none 0 0)] [(0, .var (entCs e (.own 1 1 0 q false))), (1, .row ds 1)] = some (.bool true, [(0, .var (entCs e (.own 1 1 0 q false))), (1, .row ds 1)]) := by
 refine enter fn103 np103 rfl ?_
 have gg:=trivial;repeat' first|simp (maxSteps:=2000000) (disch:=omega) only [gg,b103,lp_head,go_sem]|(refine br ?_ ?_<;>intro gg<;>try omega)|(apply And.intro;focus omega)|omega
 refine hd_of (by unfold l103_0; rfl) ?_
 have gg:=trivial;repeat' first|simp (maxSteps:=2000000) (disch:=omega) only [gg,r103_0,go_sem]|(refine br ?_ ?_<;>intro gg<;>try omega)|(apply And.intro;focus omega)|omega
end Go.Abs
namespace Go.Abs
open Am
set_option maxRecDepth 10000
/-- the next header, its bytes; is there one? -/
def rdH (b : BS) : Hd × BS × Bool :=
 if b.l.length < 512 ∨ decOk (b.sl 0 512).l = false then (hd0, .nil, false) else
 if wholeN (decH (b.sl 0 512).l).size ≤ (b.sl 512 b.l.length).l.length then (decH (b.sl 0 512).l, (b.sl 512 b.l.length).sl 0 (decH (b.sl 0 512).l).size.toNat, true)
 else (decH (b.sl 0 512).l, .nil, false)
theorem hdrV_eq (b : BS) : hdrV b = .tuple [(rdH b).1.av, (rdH b).2.1.av, .bool (rdH b).2.2] := by
 unfold hdrV rdH
 split
 ·rfl
 ·split <;> rfl
theorem s100r (b : BS) (hb : b.l.length ≤ 1000000000) : callT AA 100 [.ptr 0 0] [(0, .var [b.av])] = some (.tuple [(rdH b).1.av, (rdH b).2.1.av, .bool (rdH b).2.2], [(0, .var [(hdrR b).av])]) := by
 rw [← hdrV_eq]
 exact s100 b hb
theorem hdrR_le (b : BS) : (hdrR b).l.length ≤ b.l.length := by
 have h : ∀ (a : BS) (i j : Nat), (a.sl i j).l.length ≤ a.l.length := by
  intro a i j
  rw [BS.sl_l, List.length_take, List.length_drop]
  omega
 unfold hdrR
 repeat' split
 ·exact Nat.le_refl _
 ·exact h _ _ _
 ·exact Nat.le_trans (h _ _ _) (h _ _ _)
 ·exact h _ _ _
theorem rdH_le (b : BS) : (rdH b).2.1.l.length ≤ b.l.length := by
 have h : ∀ (a : BS) (i j : Nat), (a.sl i j).l.length ≤ a.l.length := by
  intro a i j
  rw [BS.sl_l, List.length_take, List.length_drop]
  omega
 unfold rdH
 repeat' split
 ·exact Nat.zero_le _
 ·exact Nat.le_trans (h _ _ _) (h _ _ _)
 ·exact Nat.zero_le _
/-- the kind of a type -/
def kindB (t : UInt8) : Int := if t = 49 then 4 else if t = 50 then 3 else if t = 48 then 2 else if t = 53 then 1 else 0
theorem fits_type {h : Hd} (hf : fitsB h = true) : h.type = 48 ∨ h.type = 49 ∨ h.type = 50 ∨ h.type = 53 ∨ h.type = 120 := by
 unfold fitsB at hf
 simp only [Bool.and_eq_true] at hf
 have h := hf.2
 split at h
 ·rename_i hc
  rcases hc with hc | hc
  ·exact .inr (.inl hc)
  ·exact .inr (.inr (.inl hc))
 ·split at h
  ·rename_i hc
   exact .inr (.inr (.inr (.inl hc)))
  ·split at h
   ·rename_i hc
    rcases hc with hc | hc
    ·exact .inl hc
    ·exact .inr (.inr (.inr (.inr hc)))
   ·cases h
theorem rdH_type {b : BS} (h : (rdH b).2.2 = true) : (rdH b).1.type = 48 ∨ (rdH b).1.type = 49 ∨ (rdH b).1.type = 50 ∨ (rdH b).1.type = 53 ∨ (rdH b).1.type = 120 := by
 unfold rdH at h ⊢
 by_cases c1 : b.l.length < 512 ∨ decOk (b.sl 0 512).l = false
 ·rw [if_pos c1] at h
  cases h
 ·rw [if_neg c1] at h ⊢
  have hd : decOk (b.sl 0 512).l = true := by
   cases hd : decOk (b.sl 0 512).l with
   | true => rfl
   | false => exact (c1 (.inr hd)).elim
  have hf : fitsB (decH (b.sl 0 512).l) = true := by
   unfold decOk encOk at hd
   simp only [Bool.and_eq_true] at hd
   exact hd.1.2
  by_cases c2 : wholeN (decH (b.sl 0 512).l).size ≤ (b.sl 512 b.l.length).l.length
  ·rw [if_pos c2]
   exact fits_type hf
  ·rw [if_neg c2] at h
   cases h
theorem type_kind {b : BS} (h : (rdH b).2.2 = true) : (((rdH b).1.type.toNat : Int) = 48 ∧ kindB (rdH b).1.type = 2) ∨ (((rdH b).1.type.toNat : Int) = 49 ∧ kindB (rdH b).1.type = 4) ∨ (((rdH b).1.type.toNat : Int) = 50 ∧ kindB (rdH b).1.type = 3) ∨ (((rdH b).1.type.toNat : Int) = 53 ∧ kindB (rdH b).1.type = 1) ∨ (((rdH b).1.type.toNat : Int) = 120 ∧ kindB (rdH b).1.type = 0) := by
 rcases rdH_type h with h | h | h | h | h <;> rw [h]
 ·exact .inl ⟨rfl, rfl⟩
 ·exact .inr (.inl ⟨rfl, rfl⟩)
 ·exact .inr (.inr (.inl ⟨rfl, rfl⟩))
 ·exact .inr (.inr (.inr (.inl ⟨rfl, rfl⟩)))
 ·exact .inr (.inr (.inr (.inr ⟨rfl, rfl⟩)))
/-- the entry of a header, without its data -/
def mkE (h : Hd) : Ent := ⟨h.path, kindB h.type, h.mode, h.uid, h.gid, h.time, h.link, .nil⟩
end Go.Abs
namespace Go.Abs
open Am
set_option maxRecDepth 10000
theorem s61no (b : BS) (hb : b.l.length ≤ 1000000000) (h : (rdH b).2.2 = false) : callT AA 61 [.ptr 0 0] [(0, .var [b.av])] = some (.tuple [.agg (entCs ⟨[], 0, 0, 0, 0, 0, [], .nil⟩ (.lit (.slice none 0 0))), .bool false], [(0, .var [(hdrR b).av])]) := by
 have h1 := s100r b hb
 rw [h] at h1
 simp only [Hd.av] at h1
 refine enter fn61 np61 rfl ?_
 have gg:=trivial;repeat' first|simp (maxSteps:=2000000) (disch:=omega) only [gg,b61,h1,go_sem]|(refine br ?_ ?_<;>intro gg<;>try omega)|(apply And.intro;focus omega)|omega
set_option maxHeartbeats 40000000 in
theorem s61p (b : BS) (hb : b.l.length ≤ 1000000000) (h : (rdH b).2.2 = true) (c t : Bool) (l : List UInt8) (hbd : (rdH b).2.1 = .mk c t l) (hl : l.length ≤ 1000000000) (hx : (rdH b).1.type ≠ 120) :
  callT AA 61 [.ptr 0 0] [(0, .var [b.av])] = some (.tuple [.agg (entCs (mkE (rdH b).1) (.own 1 1 0 l.length false)), .bool true], [(0, .var [(hdrR b).av]), (1, .row (l.map .byte) 1)]) := by
 have h1 := s100r b hb
 have k1 := s102 1
 have k2 := s102 2
 have k3 := s102 3
 have k4 := s102 4
 have hc := s101 c t l (by omega)
 have e1 : ((typeB 1).toNat : Int) = 53 := rfl
 have e2 : ((typeB 2).toNat : Int) = 48 := rfl
 have e3 : ((typeB 3).toNat : Int) = 50 := rfl
 have e4 : ((typeB 4).toNat : Int) = 49 := rfl
 rw [e1] at k1
 rw [e2] at k2
 rw [e3] at k3
 rw [e4] at k4
 have hty := type_kind h
 have hx' : ¬ ((rdH b).1.type.toNat : Int) = 120 := by
  intro hh
  rcases rdH_type h with h0 | h0 | h0 | h0 | h0
  all_goals rw [h0] at hh hx
  all_goals first | exact hx rfl | (simp at hh)
 rw [h, hbd] at h1
 simp only [Hd.av, mk_av] at h1 hc
 unfold mkE
 generalize (rdH b).1 = H at *
 have ht := fun k => s103on l.length (l.map .byte) ⟨H.path, k, H.mode, H.uid, H.gid, H.time, H.link, .nil⟩
 simp only [entCs] at ht
 rcases hty with ⟨hT, hK⟩ | ⟨hT, hK⟩ | ⟨hT, hK⟩ | ⟨hT, hK⟩ | ⟨hT, hK⟩
 any_goals (exfalso; omega)
 all_goals rw [hT] at h1
 all_goals rw [hK]
 all_goals clear hT hK hx'
 all_goals refine enter fn61 np61 rfl ?_
 all_goals (have gg:=trivial;repeat' first|simp (maxSteps:=2000000) (disch:=omega) only [gg,b61,h1,hc,lp_head,go_sem]|(refine br ?_ ?_<;>intro gg<;>try omega)|(apply And.intro;focus omega)|omega)
 all_goals refine hd_of (by unfold l61_0; rfl) ?_
 all_goals (have gg:=trivial;repeat' first|simp (maxSteps:=2000000) (disch:=omega) only [gg,k1,lp_head,Int.reduceAdd,go_sem]|(refine br ?_ ?_<;>intro gg<;>try omega)|(apply And.intro;focus omega)|omega)
 all_goals refine hd_of (by unfold l61_0; rfl) ?_
 all_goals (have gg:=trivial;repeat' first|simp (maxSteps:=2000000) (disch:=omega) only [gg,k2,lp_head,Int.reduceAdd,go_sem]|(refine br ?_ ?_<;>intro gg<;>try omega)|(apply And.intro;focus omega)|omega)
 all_goals refine hd_of (by unfold l61_0; rfl) ?_
 all_goals (have gg:=trivial;repeat' first|simp (maxSteps:=2000000) (disch:=omega) only [gg,k3,lp_head,Int.reduceAdd,go_sem]|(refine br ?_ ?_<;>intro gg<;>try omega)|(apply And.intro;focus omega)|omega)
 all_goals refine hd_of (by unfold l61_0; rfl) ?_
 all_goals (have gg:=trivial;repeat' first|simp (maxSteps:=2000000) (disch:=omega) only [gg,k4,lp_head,Int.reduceAdd,go_sem]|(refine br ?_ ?_<;>intro gg<;>try omega)|(apply And.intro;focus omega)|omega)
 all_goals refine hd_of (by unfold l61_0; rfl) ?_
 all_goals (have gg:=trivial;repeat' first|simp (maxSteps:=2000000) (disch:=omega) only [gg,r61_0,ht,entCs,go_sem]|(refine br ?_ ?_<;>intro gg<;>try omega)|(apply And.intro;focus omega)|omega)
end Go.Abs
namespace Go.Abs
open Am
set_option maxRecDepth 10000
theorem s61x (b : BS) (hb : b.l.length ≤ 1000000) (h : (rdH b).2.2 = true) (hty : (rdH b).1.type = 120) (hd : paxD (rdH b).2.1.l = none) : callT AA 61 [.ptr 0 0] [(0, .var [b.av])] = some (.tuple [.agg (entCs ⟨[], 0, 0, 0, 0, 0, [], .nil⟩ (.lit (.slice none 0 0))), .bool false], [(0, .var [(hdrR b).av])]) := by
 have h1 := s100r b (by omega)
 have h2 := s35 (rdH b).2.1 (Nat.le_trans (rdH_le b) hb)
 have hT : ((rdH b).1.type.toNat : Int) = 120 := by rw [hty]; rfl
 rw [hd] at h2
 simp only [pdV, pdH] at h2
 rw [h] at h1
 simp only [Hd.av] at h1
 rw [hT] at h1
 refine enter fn61 np61 rfl ?_
 have gg:=trivial;repeat' first|simp (maxSteps:=2000000) (disch:=omega) only [gg,b61,h1,h2,go_sem]|(refine br ?_ ?_<;>intro gg<;>try omega)|(apply And.intro;focus omega)|omega
theorem s61xf (b : BS) (hb : b.l.length ≤ 1000000) (h : (rdH b).2.2 = true) (hty : (rdH b).1.type = 120) (rs : List Rcd) (hd : paxD (rdH b).2.1.l = some rs) (h' : (rdH (hdrR b)).2.2 = false) : callT AA 61 [.ptr 0 0] [(0, .var [b.av])] = some (.tuple [.agg (entCs ⟨[], 0, 0, 0, 0, 0, [], .nil⟩ (.lit (.slice none 0 0))), .bool false], [(0, .var [(hdrR (hdrR b)).av])]) := by
 have h1 := s100r b (by omega)
 have h3 := s100r (hdrR b) (by have := hdrR_le b; omega)
 have h2 := s35 (rdH b).2.1 (Nat.le_trans (rdH_le b) hb)
 have hT : ((rdH b).1.type.toNat : Int) = 120 := by rw [hty]; rfl
 rw [hd] at h2
 rw [h] at h1
 rw [h'] at h3
 simp only [Hd.av] at h1 h3
 rw [hT] at h1
 refine enter fn61 np61 rfl ?_
 cases rs with
 | nil =>
  simp only [pdV, pdH] at h2
  have gg:=trivial;repeat' first|simp (maxSteps:=2000000) (disch:=omega) only [gg,b61,h1,h2,h3,go_sem]|(refine br ?_ ?_<;>intro gg<;>try omega)|(apply And.intro;focus omega)|omega
 | cons r rs =>
  simp only [pdV, pdH] at h2
  have gg:=trivial;repeat' first|simp (maxSteps:=2000000) (disch:=omega) only [gg,b61,h1,h2,h3,go_sem]|(refine br ?_ ?_<;>intro gg<;>try omega)|(apply And.intro;focus omega)|omega
end Go.Abs
namespace Go.Abs
open Am
set_option maxRecDepth 10000
set_option maxHeartbeats 40000000 in
theorem s61x1 (b : BS) (hb : b.l.length ≤ 1000000) (h : (rdH b).2.2 = true) (hx : (rdH b).1.type = 120) (r : Rcd) (rs : List Rcd) (hd : paxD (rdH b).2.1.l = some (r :: rs)) (h' : (rdH (hdrR b)).2.2 = true) (c t : Bool) (l : List UInt8) (hbd : (rdH (hdrR b)).2.1 = .mk c t l) (hl : l.length ≤ 1000000000) (hrs : ∀ x ∈ r :: rs, RcdOk x) (hrl : (r :: rs).length ≤ 1000000) :
  callT AA 61 [.ptr 0 0] [(0, .var [b.av])] = some (.tuple [.agg (entCs (toldE (mkE (rdH (hdrR b)).1) (r :: rs)).1 (.own 1 1 0 l.length false)), .bool (toldE (mkE (rdH (hdrR b)).1) (r :: rs)).2], [(0, .var [(hdrR (hdrR b)).av]), (1, .row (l.map .byte) 1)]) := by
 have h1 := s100r b (by omega)
 have h3 := s100r (hdrR b) (by have := hdrR_le b; omega)
 have h2 := s35 (rdH b).2.1 (Nat.le_trans (rdH_le b) hb)
 have k1 := s102 1
 have k2 := s102 2
 have k3 := s102 3
 have k4 := s102 4
 have hc := s101 c t l (by omega)
 have e1 : ((typeB 1).toNat : Int) = 53 := rfl
 have e2 : ((typeB 2).toNat : Int) = 48 := rfl
 have e3 : ((typeB 3).toNat : Int) = 50 := rfl
 have e4 : ((typeB 4).toNat : Int) = 49 := rfl
 rw [e1] at k1
 rw [e2] at k2
 rw [e3] at k3
 rw [e4] at k4
 rw [hd] at h2
 simp only [pdV, pdH] at h2
 rw [h] at h1
 have hty := type_kind h'
 rw [h', hbd] at h3
 simp only [Hd.av, mk_av] at h1 h3 hc
 have hTx : ((rdH b).1.type.toNat : Int) = 120 := by rw [hx]; rfl
 unfold mkE
 generalize (rdH (hdrR b)).1 = H at *
 rw [hTx] at h1
 clear hTx hx
 rcases hty with ⟨hT, hK⟩ | ⟨hT, hK⟩ | ⟨hT, hK⟩ | ⟨hT, hK⟩ | ⟨hT, hK⟩
 all_goals rw [hT] at h3
 all_goals rw [hK]
 all_goals clear hT hK
 all_goals have ht := fun cc tt k => s103o cc tt (r :: rs) hrl hrs l.length (l.map .byte) ⟨H.path, k, H.mode, H.uid, H.gid, H.time, H.link, .nil⟩
 all_goals generalize toldE = TE at *
 all_goals generalize r :: rs = L at *
 all_goals simp only [entCs] at ht
 all_goals refine enter fn61 np61 rfl ?_
 all_goals (have gg:=trivial;repeat' first|simp (maxSteps:=2000000) (disch:=omega) only [gg,b61,h1,h2,h3,hc,lp_head,go_sem]|(refine br ?_ ?_<;>intro gg<;>try omega)|(apply And.intro;focus omega)|omega)
 all_goals refine hd_of (by unfold l61_0; rfl) ?_
 all_goals (have gg:=trivial;repeat' first|simp (maxSteps:=2000000) (disch:=omega) only [gg,k1,lp_head,Int.reduceAdd,go_sem]|(refine br ?_ ?_<;>intro gg<;>try omega)|(apply And.intro;focus omega)|omega)
 all_goals refine hd_of (by unfold l61_0; rfl) ?_
 all_goals (have gg:=trivial;repeat' first|simp (maxSteps:=2000000) (disch:=omega) only [gg,k2,lp_head,Int.reduceAdd,go_sem]|(refine br ?_ ?_<;>intro gg<;>try omega)|(apply And.intro;focus omega)|omega)
 all_goals refine hd_of (by unfold l61_0; rfl) ?_
 all_goals (have gg:=trivial;repeat' first|simp (maxSteps:=2000000) (disch:=omega) only [gg,k3,lp_head,Int.reduceAdd,go_sem]|(refine br ?_ ?_<;>intro gg<;>try omega)|(apply And.intro;focus omega)|omega)
 all_goals refine hd_of (by unfold l61_0; rfl) ?_
 all_goals (have gg:=trivial;repeat' first|simp (maxSteps:=2000000) (disch:=omega) only [gg,k4,lp_head,Int.reduceAdd,go_sem]|(refine br ?_ ?_<;>intro gg<;>try omega)|(apply And.intro;focus omega)|omega)
 all_goals refine hd_of (by unfold l61_0; rfl) ?_
 all_goals (have gg:=trivial;repeat' first|simp (maxSteps:=2000000) (disch:=omega) only [gg,r61_0,ht,entCs,go_sem]|(refine br ?_ ?_<;>intro gg<;>try omega)|(apply And.intro;focus omega)|omega)
end Go.Abs
namespace Go.Abs
open Am
set_option maxRecDepth 10000
set_option maxHeartbeats 40000000 in
theorem s61y1 (b : BS) (hb : b.l.length ≤ 1000000) (h : (rdH b).2.2 = true) (hx : (rdH b).1.type = 120) (hd : paxD (rdH b).2.1.l = some []) (h' : (rdH (hdrR b)).2.2 = true) (c t : Bool) (l : List UInt8) (hbd : (rdH (hdrR b)).2.1 = .mk c t l) (hl : l.length ≤ 1000000000) :
  callT AA 61 [.ptr 0 0] [(0, .var [b.av])] = some (.tuple [.agg (entCs (mkE (rdH (hdrR b)).1) (.own 1 1 0 l.length false)), .bool true], [(0, .var [(hdrR (hdrR b)).av]), (1, .row (l.map .byte) 1)]) := by
 have h1 := s100r b (by omega)
 have h3 := s100r (hdrR b) (by have := hdrR_le b; omega)
 have h2 := s35 (rdH b).2.1 (Nat.le_trans (rdH_le b) hb)
 have k1 := s102 1
 have k2 := s102 2
 have k3 := s102 3
 have k4 := s102 4
 have hc := s101 c t l (by omega)
 have e1 : ((typeB 1).toNat : Int) = 53 := rfl
 have e2 : ((typeB 2).toNat : Int) = 48 := rfl
 have e3 : ((typeB 3).toNat : Int) = 50 := rfl
 have e4 : ((typeB 4).toNat : Int) = 49 := rfl
 rw [e1] at k1
 rw [e2] at k2
 rw [e3] at k3
 rw [e4] at k4
 rw [hd] at h2
 simp only [pdV, pdH] at h2
 rw [h] at h1
 have hty := type_kind h'
 rw [h', hbd] at h3
 simp only [Hd.av, mk_av] at h1 h3 hc
 have hTx : ((rdH b).1.type.toNat : Int) = 120 := by rw [hx]; rfl
 unfold mkE
 generalize (rdH (hdrR b)).1 = H at *
 rw [hTx] at h1
 clear hTx hx
 rcases hty with ⟨hT, hK⟩ | ⟨hT, hK⟩ | ⟨hT, hK⟩ | ⟨hT, hK⟩ | ⟨hT, hK⟩
 all_goals rw [hT] at h3
 all_goals rw [hK]
 all_goals clear hT hK
 all_goals have ht := fun k => s103on l.length (l.map .byte) ⟨H.path, k, H.mode, H.uid, H.gid, H.time, H.link, .nil⟩
 all_goals simp only [entCs] at ht
 all_goals refine enter fn61 np61 rfl ?_
 all_goals (have gg:=trivial;repeat' first|simp (maxSteps:=2000000) (disch:=omega) only [gg,b61,h1,h2,h3,hc,lp_head,go_sem]|(refine br ?_ ?_<;>intro gg<;>try omega)|(apply And.intro;focus omega)|omega)
 all_goals refine hd_of (by unfold l61_0; rfl) ?_
 all_goals (have gg:=trivial;repeat' first|simp (maxSteps:=2000000) (disch:=omega) only [gg,k1,lp_head,Int.reduceAdd,go_sem]|(refine br ?_ ?_<;>intro gg<;>try omega)|(apply And.intro;focus omega)|omega)
 all_goals refine hd_of (by unfold l61_0; rfl) ?_
 all_goals (have gg:=trivial;repeat' first|simp (maxSteps:=2000000) (disch:=omega) only [gg,k2,lp_head,Int.reduceAdd,go_sem]|(refine br ?_ ?_<;>intro gg<;>try omega)|(apply And.intro;focus omega)|omega)
 all_goals refine hd_of (by unfold l61_0; rfl) ?_
 all_goals (have gg:=trivial;repeat' first|simp (maxSteps:=2000000) (disch:=omega) only [gg,k3,lp_head,Int.reduceAdd,go_sem]|(refine br ?_ ?_<;>intro gg<;>try omega)|(apply And.intro;focus omega)|omega)
 all_goals refine hd_of (by unfold l61_0; rfl) ?_
 all_goals (have gg:=trivial;repeat' first|simp (maxSteps:=2000000) (disch:=omega) only [gg,k4,lp_head,Int.reduceAdd,go_sem]|(refine br ?_ ?_<;>intro gg<;>try omega)|(apply And.intro;focus omega)|omega)
 all_goals refine hd_of (by unfold l61_0; rfl) ?_
 all_goals (have gg:=trivial;repeat' first|simp (maxSteps:=2000000) (disch:=omega) only [gg,r61_0,ht,entCs,go_sem]|(refine br ?_ ?_<;>intro gg<;>try omega)|(apply And.intro;focus omega)|omega)
end Go.Abs
namespace Go.Abs
open Am
set_option maxRecDepth 10000
/-- the next entry, what is left behind it -/
def entP (b : BS) : Option (Ent × BS) :=
 if (rdH b).2.2 = false then none else
 if (rdH b).1.type = 120 then
  match paxD (rdH b).2.1.l with
  | none => none
  | some rs => if (rdH (hdrR b)).2.2 = false then none else
   if (toldE (mkE (rdH (hdrR b)).1) rs).2 = true then some ({ (toldE (mkE (rdH (hdrR b)).1) rs).1 with data := .mk false false (rdH (hdrR b)).2.1.l }, hdrR (hdrR b)) else none
 else some ({ mkE (rdH b).1 with data := .mk false false (rdH b).2.1.l }, hdrR b)
theorem decP_ok : ∀ (k : Nat) (p : Option Rcd) (acc : List Rcd) (l : List UInt8) (rs : List Rcd), decP k p acc l = some rs → (∀ r ∈ acc, r.key.length ≤ 65536 ∧ r.value.length ≤ 65536) → l.length ≤ 65536 → (∀ r ∈ rs, r.key.length ≤ 65536 ∧ r.value.length ≤ 65536) ∧ rs.length ≤ acc.length + k
 | 0, p, acc, l, rs, h, ha, hl => by
  unfold decP at h
  cases h
  exact ⟨ha, by omega⟩
 | k + 1, p, acc, l, rs, h, ha, hl => by
  unfold decP at h
  by_cases c0 : l = []
  ·rw [if_pos c0] at h
   cases h
   exact ⟨ha, by omega⟩
  rw [if_neg c0] at h
  by_cases c1 : (firstP l).2 = 0 ∨ aftB p (firstP l).1 = false
  ·rw [if_pos c1] at h
   cases h
  rw [if_neg c1] at h
  have hf := firstP_le l
  obtain ⟨h1, h2⟩ := decP_ok k _ _ _ _ h (by
   intro r hr
   rcases List.mem_append.1 hr with hr | hr
   ·exact ha r hr
   ·rw [List.mem_singleton.1 hr]
    omega) (by rw [List.length_drop]; omega)
  rw [List.length_append, List.length_singleton] at h2
  exact ⟨h1, by omega⟩
theorem paxD_ok {l : List UInt8} {rs : List Rcd} (h : paxD l = some rs) : (∀ r ∈ rs, RcdOk r) ∧ rs.length ≤ 1000000 := by
 unfold paxD at h
 by_cases c : 65536 < l.length
 ·rw [if_pos c] at h
  cases h
 rw [if_neg c] at h
 obtain ⟨h1, h2⟩ := decP_ok _ _ _ _ _ h (by simp) (by omega)
 refine ⟨fun r hr => ?_, ?_⟩
 ·have := h1 r hr
  exact ⟨by omega, by omega⟩
 ·simp at h2
  omega
theorem rdH_mk {b : BS} (h : (rdH b).2.2 = true) : ∃ c t l, (rdH b).2.1 = .mk c t l := by
 unfold rdH at h ⊢
 by_cases c1 : b.l.length < 512 ∨ decOk (b.sl 0 512).l = false
 ·rw [if_pos c1] at h
  cases h
 ·rw [if_neg c1] at h ⊢
  by_cases c2 : wholeN (decH (b.sl 0 512).l).size ≤ (b.sl 512 b.l.length).l.length
  ·rw [if_pos c2]
   cases b with
   | nil => exact (c1 (.inl (by simp [BS.l]))).elim
   | mk c t l => exact ⟨_, _, _, rfl⟩
  ·rw [if_neg c2] at h
   cases h
/-- what an entry's reading gives -/
def EntR (b : BS) : Prop := match entP b with
 | some (e, r) => callT AA 61 [.ptr 0 0] [(0, .var [b.av])] = some (.tuple [.agg (entCs e (.own 1 1 0 e.data.l.length false)), .bool true], [(0, .var [r.av]), (1, .row (e.data.l.map .byte) 1)])
 | none => (∃ e r, callT AA 61 [.ptr 0 0] [(0, .var [b.av])] = some (.tuple [.agg (entCs e (.lit (.slice none 0 0))), .bool false], [(0, .var [BS.av r])])) ∨
  (∃ e r l, callT AA 61 [.ptr 0 0] [(0, .var [b.av])] = some (.tuple [.agg (entCs e (.own 1 1 0 (List.length l) false)), .bool false], [(0, .var [BS.av r]), (1, .row (l.map .byte) 1)]))
theorem s61f (b : BS) (hb : b.l.length ≤ 1000000) : EntR b := by
 unfold EntR entP
 by_cases c0 : (rdH b).2.2 = false
 ·rw [if_pos c0]
  exact .inl ⟨_, _, s61no b (by omega) c0⟩
 rw [if_neg c0]
 have c0 : (rdH b).2.2 = true := by simpa using c0
 obtain ⟨c, t, l, hbd⟩ := rdH_mk c0
 have hl : l.length ≤ 1000000 := by
  have := rdH_le b
  rw [hbd, mk_l] at this
  omega
 by_cases c1 : (rdH b).1.type = 120
 ·rw [if_pos c1]
  cases c2 : paxD (rdH b).2.1.l with
  | none => exact .inl ⟨_, _, s61x b hb c0 c1 c2⟩
  | some rs =>
   simp only
   by_cases c3 : (rdH (hdrR b)).2.2 = false
   ·rw [if_pos c3]
    exact .inl ⟨_, _, s61xf b hb c0 c1 rs c2 c3⟩
   rw [if_neg c3]
   have c3 : (rdH (hdrR b)).2.2 = true := by simpa using c3
   obtain ⟨c', t', l', hbd'⟩ := rdH_mk c3
   have hl' : l'.length ≤ 1000000000 := by
    have h1 := rdH_le (hdrR b)
    have h2 := hdrR_le b
    rw [hbd', mk_l] at h1
    omega
   have hrs := paxD_ok c2
   have key : callT AA 61 [.ptr 0 0] [(0, .var [b.av])] = some (.tuple [.agg (entCs (toldE (mkE (rdH (hdrR b)).1) rs).1 (.own 1 1 0 l'.length false)), .bool (toldE (mkE (rdH (hdrR b)).1) rs).2], [(0, .var [(hdrR (hdrR b)).av]), (1, .row (l'.map .byte) 1)]) := by
    cases rs with
    | nil => exact s61y1 b hb c0 c1 c2 c3 c' t' l' hbd' hl'
    | cons r rs => exact s61x1 b hb c0 c1 r rs c2 c3 c' t' l' hbd' hl' hrs.1 hrs.2
   have hb1 : (rdH (hdrR b)).2.1.l = l' := by rw [hbd']; rfl
   rw [hb1]
   by_cases c4 : (toldE (mkE (rdH (hdrR b)).1) rs).2 = true
   ·rw [if_pos c4]
    rw [c4] at key
    exact key
   ·rw [if_neg c4]
    have c4 : (toldE (mkE (rdH (hdrR b)).1) rs).2 = false := by simpa using c4
    rw [c4] at key
    exact .inr ⟨_, _, _, key⟩
 ·rw [if_neg c1]
  have hb1 : (rdH b).2.1.l = l := by rw [hbd]; rfl
  rw [hb1]
  show callT AA 61 [.ptr 0 0] [(0, .var [b.av])] = some (.tuple [.agg (entCs (mkE (rdH b).1) (.own 1 1 0 l.length false)), .bool true], [(0, .var [(hdrR b).av]), (1, .row (l.map .byte) 1)])
  exact s61p b (by omega) c0 c t l hbd (by omega) c1
end Go.Abs
namespace Go.Abs
open Am
set_option maxRecDepth 10000
theorem good_le {s : List UInt8} (h : goodB s = true) : s.length ≤ 400 := by
 unfold goodB at h
 simp only [Bool.and_eq_true, decide_eq_true_eq] at h
 exact h.1
theorem good_ne {s : List UInt8} (h : goodB s = true) : s ≠ [] := by
 rintro rfl
 have : goodB [] = false := by decide
 rw [this] at h
 cases h
theorem text_ne {s : List UInt8} {n : Int} (h : textB s n = true) : s ≠ [] ∧ (s.length : Int) ≤ n := by
 unfold textB at h
 simp only [Bool.and_eq_true, decide_eq_true_eq] at h
 exact ⟨h.1.1.1, h.1.1.2⟩
theorem meta_le {n least : Int} (h : metaB n least = true) : least ≤ n ∧ n ≤ 1099511627776 := by
 unfold metaB at h
 simpa using h
/-- what good fields are -/
structure FieldsOk (e : Ent) : Prop where
 mode : 0 ≤ e.mode ∧ e.mode ≤ 4095
 uid : 0 ≤ e.uid ∧ e.uid ≤ 1099511627776
 gid : 0 ≤ e.gid ∧ e.gid ≤ 1099511627776
 time : -1099511627776 ≤ e.time ∧ e.time ≤ 1099511627776
 link : e.link.length ≤ 400
 data : e.data.l.length ≤ 65536
 kinds : (e.kind = 1 ∧ e.link = [] ∧ e.data.l.length = 0) ∨ (e.kind = 2 ∧ e.link = []) ∨ (e.kind = 3 ∧ e.link ≠ [] ∧ e.data.l.length = 0) ∨ (e.kind = 4 ∧ e.link ≠ [] ∧ e.data.l.length = 0)
theorem fields_ok {e : Ent} (h : fieldsB e = true) : FieldsOk e := by
 unfold fieldsB at h
 by_cases c1 : e.mode < 0 ∨ 4095 < e.mode
 ·rw [if_pos c1] at h; cases h
 rw [if_neg c1] at h
 by_cases c2 : metaB e.uid 0 = false ∨ metaB e.gid 0 = false ∨ metaB e.time (-1099511627776) = false
 ·rw [if_pos c2] at h; cases h
 rw [if_neg c2] at h
 have m1 : metaB e.uid 0 = true := by
  cases hm : metaB e.uid 0 with
  | true => rfl
  | false => exact (c2 (.inl hm)).elim
 have m2 : metaB e.gid 0 = true := by
  cases hm : metaB e.gid 0 with
  | true => rfl
  | false => exact (c2 (.inr (.inl hm))).elim
 have m3 : metaB e.time (-1099511627776) = true := by
  cases hm : metaB e.time (-1099511627776) with
  | true => rfl
  | false => exact (c2 (.inr (.inr hm))).elim
 have m1 := meta_le m1
 have m2 := meta_le m2
 have m3 := meta_le m3
 have key : e.link.length ≤ 400 ∧ e.data.l.length ≤ 65536 ∧ ((e.kind = 1 ∧ e.link = [] ∧ e.data.l.length = 0) ∨ (e.kind = 2 ∧ e.link = []) ∨ (e.kind = 3 ∧ e.link ≠ [] ∧ e.data.l.length = 0) ∨ (e.kind = 4 ∧ e.link ≠ [] ∧ e.data.l.length = 0)) := by
  by_cases k1 : e.kind = 1
  ·rw [if_pos k1] at h
   simp only [Bool.and_eq_true, decide_eq_true_eq] at h
   exact ⟨by rw [h.1]; simp, by omega, .inl ⟨k1, h.1, h.2⟩⟩
  rw [if_neg k1] at h
  by_cases k2 : e.kind = 2
  ·rw [if_pos k2] at h
   simp only [Bool.and_eq_true, decide_eq_true_eq] at h
   exact ⟨by rw [h.1]; simp, by omega, .inr (.inl ⟨k2, h.1⟩)⟩
  rw [if_neg k2] at h
  by_cases k3 : e.kind = 3
  ·rw [if_pos k3] at h
   simp only [Bool.and_eq_true, decide_eq_true_eq] at h
   have ht := text_ne h.1
   exact ⟨by omega, by omega, .inr (.inr (.inl ⟨k3, ht.1, h.2⟩))⟩
  rw [if_neg k3] at h
  by_cases k4 : e.kind = 4
  ·rw [if_pos k4] at h
   simp only [Bool.and_eq_true, decide_eq_true_eq] at h
   exact ⟨good_le h.1.1.1.1.1, by omega, .inr (.inr (.inr ⟨k4, good_ne h.1.1.1.1.1, h.1.1.1.1.2⟩))⟩
  rw [if_neg k4] at h
  cases h
 exact ⟨by omega, by omega, by omega, by omega, key.1, key.2.1, key.2.2⟩
theorem entryE_good {c : Ck} {e : Ent} (h : (entryE c e).1 = 0) : goodB e.path = true ∧ fieldsB e = true := by
 unfold entryE at h
 by_cases g1 : goodB e.path = false
 ·rw [if_pos g1] at h; simp at h
 rw [if_neg g1] at h
 by_cases g2 : fieldsB e = false
 ·rw [if_pos g2] at h; simp at h
 exact ⟨by simpa using g1, by simpa using g2⟩
theorem checkL_good : ∀ (t : List Ent) (c : Ck) (i : Int), 0 ≤ i → (checkL c i t).2 = 0 → ∀ e ∈ t, goodB e.path = true ∧ fieldsB e = true
 | [], _, _, _, _, e, he => by cases he
 | e :: r, c, i, hi, h, x, hx => by
  unfold checkL at h
  by_cases g : (entryE c e).1 = 0
  ·rw [if_pos g] at h
   rcases List.mem_cons.1 hx with rfl | hx
   ·exact entryE_good g
   ·exact checkL_good r _ (i + 1) (by omega) h x hx
  ·rw [if_neg g] at h
   exact (g h).elim
theorem checkT_good {t : List Ent} (h : (checkT t).2 = 0) : t.length ≤ 200 ∧ ∀ e ∈ t, goodB e.path = true ∧ fieldsB e = true := by
 unfold checkT at h
 by_cases c : 200 < t.length
 ·rw [if_pos c] at h; simp at h
 ·rw [if_neg c] at h
  exact ⟨by omega, checkL_good t _ 0 (by omega) h⟩
theorem hdrE_eq (e : Ent) : hdrE e (recsE e) = ⟨if (splitN e.path).2.2 then e.path else paxB, e.mode, if idB e.uid then e.uid else 0, if idB e.gid then e.gid else 0, e.data.l.length, if timeB e.time then e.time else 0, typeB e.kind, if linkE e.link then e.link else paxB⟩ := by
 unfold hdrE recsE rst3 rst4 rst5 rst6 rst7
 cases idB e.gid <;> cases linkE e.link <;> cases timeB e.time <;> cases (splitN e.path).2.2 <;> cases idB e.uid <;> simp [recIf, setR, hdE, gidB, linkpathB, mtimeB, pathB, uidB]
theorem split_paxB : (splitN paxB).2.2 = true := by decide
theorem link_paxB : linkB paxB = true := by unfold linkB; decide
theorem linkE_ne {l : List UInt8} (h : l ≠ []) : linkE l = linkB l := by
 unfold linkE
 simp [h]
theorem idB_zero : idB 0 = true := idB_iff.2 (by omega)
theorem timeB_zero : timeB 0 = true := timeB_iff.2 (by omega)
theorem encOk_hdrE {e : Ent} (h : FieldsOk e) : encOk (hdrE e (recsE e)) = true := by
 rw [hdrE_eq]
 unfold encOk fitsB
 simp only [Bool.and_eq_true]
 refine ⟨?_, ⟨⟨⟨⟨?_, ?_⟩, ?_⟩, ?_⟩, ?_⟩, ?_⟩
 ·split
  ·assumption
  ·exact split_paxB
 ·exact idB_iff.2 (by have := h.mode; omega)
 ·split
  ·assumption
  ·exact idB_zero
 ·split
  ·assumption
  ·exact idB_zero
 ·exact timeB_iff.2 (by have := h.data; omega)
 ·split
  ·assumption
  ·exact timeB_zero
 ·rcases h.kinds with ⟨k, hl, hd⟩ | ⟨k, hl⟩ | ⟨k, hl, hd⟩ | ⟨k, hl, hd⟩
  ·have hn : linkE ([] : List UInt8) = true := rfl
   simp [k, hl, hd, typeB, hn]
  ·have hn : linkE ([] : List UInt8) = true := rfl
   simp [k, hl, typeB, hn]
  ·rw [linkE_ne hl]
   cases hb : linkB e.link <;> simp [k, hd, typeB, hb, link_paxB]
  ·rw [linkE_ne hl]
   cases hb : linkB e.link <;> simp [k, hd, typeB, hb, link_paxB]
theorem paxE_some : ∀ (rs : List Rcd) (p : Option Rcd) (out : List UInt8), (∀ r ∈ rs, lineOk r.key r.value = true ∧ (lineB r.key r.value).length ≤ 600) → (match p with | none => rs | some p => p :: rs).Pairwise (fun a b : Rcd => Op.bytesLess a.key b.key = true) → out.length + 600 * rs.length ≤ 65536 → (paxE p out rs).isSome = true
 | [], _, _, _, _, _ => rfl
 | r :: rs, p, out, h1, h2, h3 => by
  obtain ⟨g1, g2⟩ := h1 r (by simp)
  simp only [List.length_cons] at h3
  have hs : paxStep p out r = true := by
   unfold paxStep
   simp only [Bool.and_eq_true, decide_eq_true_eq]
   refine ⟨⟨g1, ?_⟩, by omega⟩
   cases p with
   | none => rfl
   | some p => exact (List.pairwise_cons.1 h2).1 r (by simp)
  unfold paxE
  rw [if_pos hs]
  refine paxE_some rs (some r) _ (fun x hx => h1 x (by simp [hx])) ?_ ?_
  ·cases p with
   | none => exact h2
   | some p => exact (List.pairwise_cons.1 h2).2
  ·rw [List.length_append]
   omega
theorem lineOk_short {k v : List UInt8} (hk : kwB k = true) (hv : v.length ≤ 400) : lineOk k v = true ∧ (lineB k v).length ≤ 600 := by
 have hkl : k.length ≤ 100 := by
  unfold kwB at hk
  simp only [Bool.and_eq_true, decide_eq_true_eq] at hk
  exact hk.1.2
 have h1 := restP_length (k := k) (v := v)
 have h2 := paxLen_le (rest := ((restP k v).length : Int)) (by omega) (by omega)
 have h3 := lineB_length hkl (v := v) (by omega)
 unfold lineOk
 refine ⟨?_, by omega⟩
 simp only [Bool.and_eq_true, decide_eq_true_eq]
 exact ⟨⟨hk, by omega⟩, by omega⟩
theorem recs_keys (e : Ent) : ((recsE e).map Rcd.key).Pairwise (fun a b => Op.bytesLess a b = true) := by
 unfold recsE rst3 rst4 rst5 rst6 rst7
 cases idB e.gid <;> cases linkE e.link <;> cases timeB e.time <;> cases (splitN e.path).2.2 <;> cases idB e.uid <;> simp only [recIf, if_true, if_false, List.nil_append, List.cons_append, List.map_cons, List.map_nil, Bool.false_eq_true] <;> decide
theorem recs_short {e : Ent} (hf : FieldsOk e) (hp : e.path.length ≤ 400) : ∀ r ∈ recsE e, kwB r.key = true ∧ r.value.length ≤ 400 := by
 have k1 : kwB gidB = true := by decide
 have k2 : kwB linkpathB = true := by decide
 have k3 : kwB mtimeB = true := by decide
 have k4 : kwB pathB = true := by decide
 have k5 : kwB uidB = true := by decide
 have v1 := itoa_le (n := e.gid) (by have := hf.gid; omega) (by have := hf.gid; omega)
 have v3 := itoa_le (n := e.time) (by have := hf.time; omega) (by have := hf.time; omega)
 have v5 := itoa_le (n := e.uid) (by have := hf.uid; omega) (by have := hf.uid; omega)
 have v2 := hf.link
 have key : ∀ (f : Bool) (k v : List UInt8), kwB k = true → v.length ≤ 400 → ∀ r ∈ recIf f k v, kwB r.key = true ∧ r.value.length ≤ 400 := by
  intro f k v hk hv r hr
  unfold recIf at hr
  cases f with
  | true => simp at hr
  | false => simp at hr; subst hr; exact ⟨hk, hv⟩
 intro r hr
 unfold recsE rst3 rst4 rst5 rst6 rst7 at hr
 simp only [List.mem_append] at hr
 rcases hr with hr | hr | hr | hr | hr
 ·exact key _ _ _ k1 (by omega) r hr
 ·exact key _ _ _ k2 (by omega) r hr
 ·exact key _ _ _ k3 (by omega) r hr
 ·exact key _ _ _ k4 (by omega) r hr
 ·exact key _ _ _ k5 (by omega) r hr
theorem recs_some {e : Ent} (hf : FieldsOk e) (hp : e.path.length ≤ 400) : (paxE none [] (recsE e)).isSome = true := by
 refine paxE_some _ none [] (fun r hr => ?_) ?_ ?_
 ·obtain ⟨h1, h2⟩ := recs_short hf hp r hr
  exact lineOk_short h1 h2
 ·exact List.pairwise_map.1 (recs_keys e)
 ·have := recsE_length e
  simp
  omega
theorem dec_digit {u : Nat} : ∀ c ∈ Lib.decDigits u, 48 ≤ c.toNat ∧ c.toNat ≤ 57 := by
 intro c hc
 rw [Lib.decDigits_eq] at hc
 obtain ⟨t, _, rfl⟩ := List.mem_map.1 hc
 unfold Lib.dg
 have h : (UInt8.ofNat (48 + u / 10 ^ (Lib.nDigits u - 1 - t) % 10)).toNat = 48 + u / 10 ^ (Lib.nDigits u - 1 - t) % 10 := UInt8.toNat_ofNat_of_lt' (by simp [UInt8.size]; omega)
 rw [h]
 omega
theorem itoa_nat (n : Nat) : Lib.itoa n = Lib.decDigits n := by
 unfold Lib.itoa
 rw [if_neg (by omega)]
 rfl
theorem split_num (n : Nat) (hn : n < 201) : (splitN ([112, 97, 120, 47] ++ Lib.itoa n)).2.2 = true := by
 have h1 := itoa_le (n := (n : Int)) (by omega) (by omega)
 have ha : asciiB ([112, 97, 120, 47] ++ Lib.itoa n) = true := by
  unfold asciiB
  rw [List.all_append, itoa_nat]
  simp only [Bool.and_eq_true]
  refine ⟨rfl, List.all_eq_true.2 fun c hc => ?_⟩
  have := dec_digit c hc
  unfold okByte
  simp only [decide_eq_true_eq]
  omega
 unfold splitN
 rw [if_neg (by rw [ha]; simp), if_pos (by simp; omega)]
theorem encOk_hdX {n : Nat} (hn : n < 201) {body : List UInt8} (hb : body.length ≤ 65536) : encOk (hdX n body) = true := by
 unfold encOk hdX fitsB
 simp only [Bool.and_eq_true]
 refine ⟨split_num n hn, ⟨⟨⟨⟨idB_zero, idB_zero⟩, idB_zero⟩, timeB_iff.2 (by omega)⟩, timeB_zero⟩, ?_⟩
 simp
theorem entB_of {e : Ent} (hf : FieldsOk e) (hp : e.path.length ≤ 400) : EntB e := by
 have := hf.gid; have := hf.uid; have := hf.time; have := hf.link
 refine ⟨?_, ?_, ?_, ?_, ?_, ?_, ?_, ?_⟩ <;> omega
theorem pieceOk_of {e : Ent} (hf : FieldsOk e) (hp : e.path.length ≤ 400) {n : Nat} (hn : n < 201) : pieceOk n e := by
 refine ⟨encOk_hdrE hf, fun _ => ⟨recs_some hf hp, encOk_hdX hn ?_⟩⟩
 unfold bodyE
 obtain ⟨o, ho⟩ := Option.isSome_iff_exists.1 (recs_some hf hp)
 rw [ho]
 exact paxE_le _ _ _ _ (by simp) ho
theorem piecesOk_of : ∀ (t : List Ent) (i : Nat), i + t.length ≤ 200 → (∀ e ∈ t, goodB e.path = true ∧ fieldsB e = true) → PiecesOk i t
 | [], _, _, _ => trivial
 | e :: r, i, h, hg => by
  obtain ⟨g1, g2⟩ := hg e (by simp)
  have hf := fields_ok g2
  have hp := good_le g1
  simp only [List.length_cons] at h
  exact ⟨entB_of hf hp, by have := hf.data; omega, pieceOk_of hf hp (by omega), piecesOk_of r (i + 1) (by omega) fun x hx => hg x (by simp [hx])⟩
theorem fieldsB_cp {e : Ent} : fieldsB e.cp = fieldsB e := by
 unfold fieldsB
 show (if e.mode < 0 ∨ 4095 < e.mode then false else _) = _
 have : e.cp.data.l = e.data.l := cp_l
 rw [this]
 rfl
theorem checkT_pieces {t : List Ent} (h : (checkT (t.map Ent.cp)).2 = 0) : PiecesOk 0 t := by
 obtain ⟨h1, h2⟩ := checkT_good h
 rw [List.length_map] at h1
 refine piecesOk_of t 0 (by omega) fun e he => ?_
 have := h2 e.cp (List.mem_map_of_mem he)
 rw [fieldsB_cp] at this
 exact this
end Go.Abs
namespace Go.Abs
open Am
set_option maxRecDepth 10000
theorem parse_app : ∀ (a b : List UInt8) (acc u : Nat), Lib.parseUint10 acc a = .ok u → Lib.parseUint10 acc (a ++ b) = Lib.parseUint10 u b
 | [], b, acc, u, h => by
  simp only [Lib.parseUint10] at h
  cases h
  rfl
 | c :: a, b, acc, u, h => by
  simp only [Lib.parseUint10, List.cons_append] at h ⊢
  by_cases c1 : 48 ≤ c.toNat ∧ c.toNat ≤ 57
  ·rw [if_pos c1] at h ⊢
   by_cases c2 : 1844674407370955162 ≤ acc
   ·rw [if_pos c2] at h; cases h
   rw [if_neg c2] at h ⊢
   by_cases c3 : 18446744073709551616 ≤ acc * 10 + (c.toNat - 48)
   ·rw [if_pos c3] at h; cases h
   rw [if_neg c3] at h ⊢
   exact parse_app a b _ u h
  ·rw [if_neg c1] at h; cases h
theorem dg_toNat {k : Nat} (h : k < 10) : (UInt8.ofNat (48 + k)).toNat = 48 + k := UInt8.toNat_ofNat_of_lt' (by simp [UInt8.size]; omega)
theorem parse_dec (u : Nat) : u < 9223372036854775808 → Lib.parseUint10 0 (Lib.decDigits u) = .ok u := by
 induction u using Nat.strongRecOn with
 | _ u ih =>
  intro hu
  by_cases h : u < 10
  ·rw [Lib.decDigits, dif_pos h]
   simp only [Lib.parseUint10]
   rw [dg_toNat h, if_pos (by omega), if_neg (by omega), if_neg (by omega)]
   simp
  ·rw [Lib.decDigits, dif_neg h, parse_app _ _ _ _ (ih (u / 10) (by omega) (by omega))]
   simp only [Lib.parseUint10]
   rw [dg_toNat (by omega), if_pos (by omega), if_neg (by omega), if_neg (by omega)]
   congr 1
   omega
theorem dec_ne (u : Nat) : Lib.decDigits u ≠ [] := by
 intro h
 have := congrArg List.length h
 rw [Lib.decDigits_length] at this
 have := Lib.nDigits_pos u
 simp at *
 omega
theorem atoi_itoa {n : Int} (h1 : -9223372036854775808 ≤ n) (h2 : n ≤ 9223372036854775807) : Lib.atoiAll (Lib.itoa n) = .ok n := by
 unfold Lib.itoa
 by_cases hn : n < 0
 ·rw [if_pos hn]
  unfold Lib.atoiAll
  simp only []
  have h45 : (45 : UInt8).toNat = 45 := rfl
  rw [h45, if_pos (by omega)]
  unfold Lib.parseMag
  rw [if_neg (dec_ne _)]
  by_cases hm : n = -9223372036854775808
  ·subst hm
   have : Lib.parseUint10 0 (Lib.decDigits (-9223372036854775808 : Int).natAbs) = .ok 9223372036854775808 := by
    have e : (-9223372036854775808 : Int).natAbs = 9223372036854775808 := rfl
    rw [e, Lib.decDigits, dif_neg (by omega), parse_app _ _ _ _ (parse_dec (9223372036854775808 / 10) (by omega))]
    simp only [Lib.parseUint10]
    rw [dg_toNat (by omega), if_pos (by omega), if_neg (by omega), if_neg (by omega)]
   rw [this]
   rfl
  ·rw [parse_dec _ (by omega)]
   simp only []
   rw [if_neg (by simp), if_neg (by omega), if_pos trivial]
   congr 1
   omega
 ·rw [if_neg hn]
  obtain ⟨c, r, hc⟩ : ∃ c r, Lib.decDigits n.toNat = c :: r := List.exists_cons_of_ne_nil (dec_ne _)
  have hd := dec_digit (u := n.toNat) c (by rw [hc]; simp)
  have hp := parse_dec n.toNat (by omega)
  rw [hc] at hp ⊢
  unfold Lib.atoiAll
  simp only []
  rw [if_neg (by omega)]
  unfold Lib.parseMag
  rw [if_neg (by simp), hp]
  simp only []
  rw [if_neg (by omega), if_neg (by omega), if_neg (by omega)]
  congr 1
  omega
theorem atoiV_itoa {n : Int} (h1 : -9223372036854775808 ≤ n) (h2 : n ≤ 9223372036854775807) : atoiV (Lib.itoa n) = n ∧ atoiOk (Lib.itoa n) = true := by
 unfold atoiV atoiOk
 rw [atoi_itoa h1 h2]
 exact ⟨rfl, rfl⟩
theorem lenF_fix (rest : Int) (hr : 0 ≤ rest) (hr' : rest ≤ 1000000) : ∀ (k : Nat) (n d : Int), n = rest + d → 7 ≤ d + k → 1 ≤ d → d ≤ 7 → d ≤ digs n → lenF rest k n = rest + digs (lenF rest k n)
 | 0, n, d, h1, h2, h3, h4, h5 => by
  have h6 := digs_le7 (a := n) (by omega) (by omega)
  unfold lenF
  omega
 | k + 1, n, d, h1, h2, h3, h4, h5 => by
  have h6 := digs_le7 (a := n) (by omega) (by omega)
  unfold lenF
  by_cases hn : n = rest + digs n
  ·rw [if_pos hn]
   exact hn
  ·rw [if_neg hn]
   have hm := digs_mono (a := n) (b := rest + digs n) (by omega) (by omega)
   exact lenF_fix rest hr hr' k (rest + digs n) (digs n) rfl (by omega) (by omega) h6 hm
theorem paxLen_fix {rest : Int} (hr : 0 ≤ rest) (hr' : rest ≤ 1000000) : paxLen rest = rest + digs (paxLen rest) :=
 lenF_fix rest hr hr' 6 (rest + 1) 1 rfl (by omega) (by omega) (by omega) (digs_pos (by omega))
theorem lineB_len {k v : List UInt8} (h : (restP k v).length ≤ 1000000) : ((lineB k v).length : Int) = paxLen (restP k v).length := by
 have := paxLen_fix (rest := ((restP k v).length : Int)) (by omega) (by omega)
 unfold lineB
 rw [List.length_append]
 unfold digs at this
 omega
theorem indexByte_app (c : UInt8) : ∀ (a r : List UInt8), (∀ x ∈ a, x ≠ c) → Lib.indexByte (a ++ c :: r) c = a.length
 | [], r, _ => by simp [Lib.indexByte]
 | x :: a, r, h => by
  have hx : x ≠ c := h x (by simp)
  have ih := indexByte_app c a r fun y hy => h y (by simp [hy])
  simp only [List.cons_append, Lib.indexByte]
  have hb : (x == c) = false := by simpa using hx
  rw [hb, ih]
  simp
theorem kw_ne {k : List UInt8} (hk : kwB k = true) : ∀ x ∈ k, x ≠ 61 := by
 unfold kwB at hk
 simp only [Bool.and_eq_true] at hk
 intro x hx
 have := List.all_eq_true.1 hk.2 x hx
 unfold kwByte at this
 simp only [Bool.and_eq_true, decide_eq_true_eq] at this
 rintro rfl
 exact this.2 rfl
theorem firstP_line {k v r : List UInt8} (h : lineOk k v = true) : firstP (lineB k v ++ r) = ((⟨k, v⟩ : Rcd), ((lineB k v).length : Int)) := by
 have hlo := h
 unfold lineOk at h
 simp only [Bool.and_eq_true, decide_eq_true_eq] at h
 obtain ⟨⟨hk, hv⟩, hp⟩ := h
 have hkl : k.length ≤ 100 := by
  unfold kwB at hk
  simp only [Bool.and_eq_true, decide_eq_true_eq] at hk
  exact hk.1.2
 have hrl := restP_length (k := k) (v := v)
 have hN := lineB_len (k := k) (v := v) (by omega)
 have hpl := paxLen_le (rest := ((restP k v).length : Int)) (by omega) (by omega)
 generalize hNN : paxLen ((restP k v).length : Int) = N at *
 have hat := atoiV_itoa (n := N) (by omega) (by omega)
 have hdig : ∀ c ∈ Lib.itoa N, c ≠ 32 := by
  intro c hc
  have e : Lib.itoa N = Lib.decDigits N.toNat := by
   rw [← itoa_nat]
   congr 1
   omega
  rw [e] at hc
  have := dec_digit c hc
  rintro rfl
  simp at this
 have hl : lineB k v = Lib.itoa N ++ restP k v := by unfold lineB; rw [hNN]
 have hlen : (lineB k v).length = (Lib.itoa N).length + (restP k v).length := by rw [hl, List.length_append]
 have hD : fstD (lineB k v ++ r) = Lib.itoa N := by
  unfold fstD
  rw [hl, List.append_assoc, aheadOf_app 32 _ _ hdig]
  simp [restP, aheadOf]
 have hFN : fstN (lineB k v ++ r) = N := by
  unfold fstN
  rw [hD]
  exact hat.1
 have hR : fstR (lineB k v ++ r) = k ++ 61 :: (v ++ [10]) := by
  unfold fstR
  rw [hFN, hD, hl]
  have e : Lib.itoa N ++ restP k v ++ r = (Lib.itoa N ++ [32]) ++ ((k ++ 61 :: (v ++ [10])) ++ r) := by simp [restP]
  rw [e]
  refine dt_mid (by simp) ?_
  simp only [List.length_append, List.length_cons, List.length_nil] at *
  omega
 have hix : Lib.indexByte (k ++ 61 :: (v ++ [10])) 61 = k.length := indexByte_app 61 k _ (kw_ne hk)
 have hc : cutB 61 (k ++ 61 :: (v ++ [10])) = (k, v ++ [10], true) := by
  unfold cutB
  rw [hix, if_pos (by omega)]
  have e : ((k.length : Int)).toNat = k.length := by omega
  rw [e, List.take_left' rfl, show k ++ 61 :: (v ++ [10]) = (k ++ [61]) ++ (v ++ [10]) by simp, List.drop_left' (by simp)]
 have hs : hasSuf (v ++ [10]) [10] = true := by simp [hasSuf]
 have hV : fstV (lineB k v ++ r) = v := by
  unfold fstV cutSuf
  rw [hR, hc]
  simp only []
  rw [if_pos hs]
  simp
 have hK : fstK (lineB k v ++ r) = k := by
  unfold fstK
  rw [hR, hc]
 have hi : 0 ≤ Lib.indexByte (lineB k v ++ r) 32 := by
  have : Lib.indexByte (lineB k v ++ r) 32 = (Lib.itoa N).length := by
   rw [hl]
   have e : Lib.itoa N ++ restP k v ++ r = Lib.itoa N ++ 32 :: ((k ++ [61] ++ v ++ [10]) ++ r) := by simp [restP]
   rw [e]
   exact indexByte_app 32 _ _ hdig
  omega
 have hok1 : fstOk1 (lineB k v ++ r) = true := by
  unfold fstOk1
  rw [hFN, hD, hat.2, List.length_append]
  simp only [Bool.and_eq_true, decide_eq_true_eq]
  refine ⟨⟨⟨hi, trivial⟩, ?_⟩, ?_⟩ <;> omega
 have hok : fstOk (lineB k v ++ r) = true := by
  unfold fstOk
  rw [hok1, hK, hV, hFN, hR, hc]
  simp only [Bool.true_and, Bool.and_eq_true, decide_eq_true_eq]
  refine ⟨⟨hs, hlo⟩, ?_⟩
  rw [List.take_left' (by omega)]
 unfold firstP
 rw [if_pos hok, hK, hV, hFN, hN]
theorem dec_enc : ∀ (rs : List Rcd) (p : Option Rcd) (out o : List UInt8), paxE p out rs = some o → ∃ L, o = out ++ L ∧ ∀ (k : Nat) (acc : List Rcd), L.length ≤ k → decP k p acc L = some (acc ++ rs)
 | [], p, out, o, h => by
  unfold paxE at h
  cases h
  refine ⟨[], by simp, fun k acc _ => ?_⟩
  cases k <;> simp [decP]
 | r :: rs, p, out, o, h => by
  unfold paxE at h
  by_cases hs : paxStep p out r = true
  ·rw [if_pos hs] at h
   obtain ⟨L, h1, h2⟩ := dec_enc rs _ _ _ h
   unfold paxStep at hs
   simp only [Bool.and_eq_true, decide_eq_true_eq] at hs
   obtain ⟨⟨s1, s2⟩, s3⟩ := hs
   have hpos := lineB_pos (k := r.key) (v := r.value)
   refine ⟨lineB r.key r.value ++ L, by rw [h1, List.append_assoc], fun k acc hk => ?_⟩
   rw [List.length_append] at hk
   obtain ⟨k, rfl⟩ : ∃ j, k = j + 1 := ⟨k - 1, by omega⟩
   unfold decP
   have hne : lineB r.key r.value ++ L ≠ [] := by
    intro hh
    have := congrArg List.length hh
    rw [List.length_append] at this
    simp at this
    rw [this.1] at hpos
    cases hpos
   rw [if_neg hne, firstP_line s1]
   simp only []
   have ha : aftB p ⟨r.key, r.value⟩ = true := by
    cases p with
    | none => rfl
    | some p => exact s2
   rw [if_neg (fun h => by rcases h with h | h; (omega); (rw [ha] at h; cases h))]
   have e : (((lineB r.key r.value).length : Int)).toNat = (lineB r.key r.value).length := by omega
   rw [e, List.drop_left' rfl, h2 k _ (by omega)]
   simp
  ·rw [if_neg hs] at h
   cases h
/-- THERE AND BACK: records -/
theorem paxD_paxE {rs : List Rcd} {o : List UInt8} (h : paxE none [] rs = some o) : paxD o = some rs := by
 have hl := paxE_le _ _ _ _ (by simp) h
 obtain ⟨L, h1, h2⟩ := dec_enc rs none [] o h
 simp only [List.nil_append] at h1
 subst h1
 unfold paxD
 rw [if_neg (by omega), h2 _ [] (Nat.le_refl _)]
 simp
end Go.Abs
namespace Go.Abs
open Am Lib
set_option maxRecDepth 10000
theorem lenF_below (rest m : Int) (h0 : 0 ≤ rest) (hm : m = rest + digs m) : ∀ (k : Nat) (n : Int), 0 ≤ n → n ≤ m → lenF rest k n ≤ m
 | 0, n, _, h => h
 | k + 1, n, hn, h => by
  have h1 := digs_mono hn h
  have h2 := digs_pos hn
  unfold lenF
  split
  ·exact h
  ·exact lenF_below rest m h0 hm k _ (by omega) (by omega)
theorem paxLen_least {rest d : Int} (h0 : 0 ≤ rest) (h1 : 1 ≤ d) (h : digs (rest + d) = d) : paxLen rest ≤ rest + d :=
 lenF_below rest (rest + d) h0 (by omega) 6 (rest + 1) (by omega) (by omega)
theorem digs_99999 : digs 99999 = 5 := by
 have h2 : Lib.nDigits 99999 = 5 := Lib.nDigits_unique 4 99999 (by decide) (by decide)
 rw [digs, itoa_length (by decide)]
 have e : (99999 : Int).toNat = 99999 := rfl
 rw [e, h2]
 rfl
/-- the line, or none -/
def lineV (s : List UInt8) : AVal := if paxLen s.length ≤ 65536 then .tuple [.str (Lib.itoa (paxLen s.length) ++ s), .int .i64 0] else .tuple [.str [], .int .i64 15]
theorem h138 (s : List UInt8) (hl : s.length ≤ 66000) (r0 : AVal) (hr : r0 = lineV s) : ∀ (n : Nat) (d : Int), d + n = 6 → 1 ≤ d → (∀ d' : Int, 1 ≤ d' → d' < d → digs (s.length + d') = d' → 65536 < s.length + d') →
  HD AA 0 [4, 5, 6, 7] l138_0 ⟨[.junk, .junk, .junk, .junk, .str [], .int .i64 0, .str s, .int .i64 d, .junk, .junk, .junk, .junk, .junk, .junk, .junk, .junk, .junk, .junk, .junk, .junk, .junk, .junk, .junk, .junk, .junk, .junk, .junk, .junk, .junk, .junk, .junk, .junk, .junk, .junk, .junk, .junk, .junk, .junk, .junk, .junk, .junk, .junk, .junk, .junk, .junk, .junk], [], 0⟩ [.blk 0, .code r138_0] (Fin [(4, none), (5, none)] 0 r0 [])
 | 0, d, h1, h2, h3 => by
  have h4 := paxLen_fix (rest := s.length) (by omega) (by omega)
  have h5 := paxLen_le (rest := s.length) (by omega) (by omega)
  have h6 : ¬ paxLen s.length ≤ 65536 := by
   intro h7
   have h8 := digs_mono (a := paxLen s.length) (b := 99999) (by omega) (by omega)
   rw [digs_99999] at h8
   have h9 := h3 (digs (paxLen s.length)) (by omega) (by omega) (by rw [← h4])
   omega
  unfold lineV at hr
  rw [if_neg h6] at hr
  subst hr
  refine hd_of (by unfold l138_0; rfl) ?_
  have gg:=trivial;repeat' first|simp (maxSteps:=2000000) (disch:=omega) only [gg,r138_0,go_sem]|(refine br ?_ ?_<;>intro gg<;>try omega)|(apply And.intro;focus omega)|omega
 | n + 1, d, h1, h2, h3 => by
  have h4 := paxLen_fix (rest := s.length) (by omega) (by omega)
  have h5 := paxLen_le (rest := s.length) (by omega) (by omega)
  have hs := s47 (s.length + d) (by omega) (by omega)
  have h6 := digs_le7 (a := s.length + d) (by omega) (by omega)
  have h7 : ((Lib.itoa (s.length + d)).length : Int) = digs (s.length + d) := rfl
  by_cases h8 : digs (s.length + d) = d ∧ s.length + d ≤ 65536
  ·have h9 := paxLen_least (rest := s.length) (by omega) h2 h8.1
   have h10 : paxLen s.length = s.length + d := by
    rcases Int.lt_or_le (digs (paxLen s.length)) d with h11 | h11
    ·have h12 := digs_pos (n := paxLen s.length) (by omega)
     have h13 := h3 (digs (paxLen s.length)) (by omega) h11 (by rw [← h4])
     omega
    ·omega
   unfold lineV at hr
   rw [h10, if_pos h8.2] at hr
   subst hr
   obtain ⟨h8, h14⟩ := h8
   generalize hT : Lib.itoa (s.length + d) = T at *
   have h7' : (T.length : Int) = d := by omega
   refine hd_of (by unfold l138_0; rfl) ?_
   have gg:=trivial;repeat' first|simp (maxSteps:=2000000) (disch:=omega) only [gg,hs,h7',go_sem]|(refine br ?_ ?_<;>intro gg<;>try omega)|(apply And.intro;focus omega)|omega
  ·have ih := h138 s hl r0 hr n (d + 1) (by omega) (by omega) (fun d' k1 k2 k3 => by
    rcases Int.lt_or_le d' d with k4 | k4
    ·exact h3 d' k1 k4 k3
    ·have : d' = d := by omega
     subst this
     omega)
   generalize hT : Lib.itoa (s.length + d) = T at *
   refine hd_of (by unfold l138_0; rfl) ?_
   have gg:=trivial;repeat' first|simp (maxSteps:=2000000) (disch:=omega) only [gg,hs,lp_head,go_sem]|(refine br ?_ ?_<;>intro gg<;>try omega)|(apply And.intro;focus omega)|omega
theorem s138 (k v : List UInt8) (hk : k.length ≤ 1000000) (hv : v.length ≤ 1000000) : callT AA 138 [.str k, .str v] [] = some (if lineOk k v = true then .tuple [.str (lineB k v), .int .i64 0] else .tuple [.str [], .int .i64 15], []) := by
 have h1 := s181 k hk
 have hl := restP_length (k := k) (v := v)
 refine enter fn138 np138 rfl ?_
 cases h2 : kwB k with
 | false =>
  have e : (if lineOk k v = true then AVal.tuple [.str (lineB k v), .int .i64 0] else .tuple [.str [], .int .i64 15]) = .tuple [.str [], .int .i64 15] := if_neg (by simp [lineOk, h2])
  rw [e]
  rw [h2] at h1
  have gg:=trivial;repeat' first|simp (maxSteps:=2000000) (disch:=omega) only [gg,b138,h1,go_sem]|(refine br ?_ ?_<;>intro gg<;>try omega)|(apply And.intro;focus omega)|omega
 | true =>
  have h3 : k.length ≤ 100 := by
   simp only [kwB, Bool.and_eq_true, decide_eq_true_eq] at h2
   exact h2.1.2
  rw [h2] at h1
  by_cases h4 : v.length ≤ 65536
  ·have e : (if lineOk k v = true then AVal.tuple [.str (lineB k v), .int .i64 0] else .tuple [.str [], .int .i64 15]) = lineV (restP k v) := by
    unfold lineV lineOk lineB
    simp [h2, h4]
   rw [e]
   have hh := h138 (restP k v) (by omega) _ rfl 5 1 (by omega) (by omega) (fun d' k1 k2 => by omega)
   generalize hR : restP k v = R at *
   generalize lineV R = V at *
   have gg:=trivial;repeat' first|simp (maxSteps:=2000000) (disch:=omega) only [gg,b138,h1,restP_eq,hR,lp_head,go_sem]|(refine br ?_ ?_<;>intro gg<;>try omega)|(apply And.intro;focus omega)|omega
  ·have e : (if lineOk k v = true then AVal.tuple [.str (lineB k v), .int .i64 0] else .tuple [.str [], .int .i64 15]) = .tuple [.str [], .int .i64 15] := if_neg (by simp [lineOk, h4])
   rw [e]
   have gg:=trivial;repeat' first|simp (maxSteps:=2000000) (disch:=omega) only [gg,b138,h1,go_sem]|(refine br ?_ ?_<;>intro gg<;>try omega)|(apply And.intro;focus omega)|omega
end Go.Abs
namespace Go.Abs
open Am Lib
set_option maxRecDepth 10000
def kindF (p : List UInt8) : List Ent → Int
 | [] => 0
 | e :: r => if e.path = p then e.kind else kindF p r
set_option maxHeartbeats 2000000 in
theorem h79 (c tmp : Bool) (t : List Ent) (ht : t.length ≤ 1000000) (p : List UInt8) (n : Int) (hn : n ≤ t.length) (r0 : Int) : ∀ (rest done : List Ent) (i : Int), t = done ++ rest → i = done.length → i ≤ n → r0 = kindF p (rest.take (n - i).toNat) →
  HD AA 0 [0, 1, 2, 6, 7] l79_0 ⟨[.view 8 (t.map Ent.av) c tmp, .int .i64 n, .str p, .junk, .junk, .junk, .int .i64 0, .int .i64 i, .junk, .junk, .junk, .junk, .junk, .junk, .junk, .junk, .junk, .junk, .junk, .junk, .junk, .junk, .junk, .junk, .junk], [], 0⟩ [.blk 0, .code r79_0] (Fin [(6, none)] 0 (.int .i64 r0) [])
 | [], done, i, h1, h2, h3, h5 => by
  have hl : t.length = done.length := by rw [h1]; simp
  have hr : r0 = 0 := by rw [h5]; simp [kindF]
  subst hr
  refine hd_of (by unfold l79_0; rfl) ?_
  have gg:=trivial;repeat' first|simp (maxSteps:=2000000) (disch:=omega) only [gg,r79_0,go_sem]|(refine br ?_ ?_<;>intro gg<;>try omega)|(apply And.intro;focus omega)|omega
 | e :: rest, done, i, h1, h2, h3, h5 => by
  have hl : t.length = done.length + (rest.length + 1) := by rw [h1]; simp
  by_cases h6 : i = n
  ·have hr : r0 = 0 := by rw [h5, h6]; simp [kindF]
   subst hr
   refine hd_of (by unfold l79_0; rfl) ?_
   have gg:=trivial;repeat' first|simp (maxSteps:=2000000) (disch:=omega) only [gg,r79_0,go_sem]|(refine br ?_ ?_<;>intro gg<;>try omega)|(apply And.intro;focus omega)|omega
  ·have hx : t[i.toNat]? = some e := by
    rw [show i.toNat = done.length by omega, h1, List.getElem?_append_right (by omega)]
    simp
   have e1 : (n - i).toNat = (n - (i + 1)).toNat + 1 := by omega
   rw [e1, List.take_succ_cons, kindF] at h5
   by_cases h7 : e.path = p
   ·rw [if_pos h7] at h5
    subst h5
    refine hd_of (by unfold l79_0; rfl) ?_
    have gg:=trivial;repeat' first|simp (maxSteps:=2000000) (disch:=omega) only [gg,hx,h7,go_sem]|(refine br ?_ ?_<;>intro gg<;>try omega)|(apply And.intro;focus omega)|omega
   ·rw [if_neg h7] at h5
    have ih := h79 c tmp t ht p n hn r0 rest (done ++ [e]) (i + 1) (by rw [h1]; simp) (by simp; omega) (by omega) h5
    refine hd_of (by unfold l79_0; rfl) ?_
    have gg:=trivial;repeat' first|simp (maxSteps:=2000000) (disch:=omega) only [gg,hx,h7,lp_head,go_sem]|(refine br ?_ ?_<;>intro gg<;>try omega)|(apply And.intro;focus omega)|omega
theorem s79 (c tmp : Bool) (t : List Ent) (ht : t.length ≤ 1000000) (p : List UInt8) (n : Int) (h0 : 0 ≤ n) (hn : n ≤ t.length) : callT AA 79 [.view 8 (t.map Ent.av) c tmp, .int .i64 n, .str p] [] = some (.int .i64 (kindF p (t.take n.toNat)), []) := by
 have hh := h79 c tmp t ht p n hn (kindF p (t.take n.toNat)) t [] 0 rfl rfl h0 (by rw [show (n - 0).toNat = n.toNat by omega])
 refine enter fn79 np79 rfl ?_
 have gg:=trivial;repeat' first|simp (maxSteps:=2000000) (disch:=omega) only [gg,b79,lp_head,go_sem]|(refine br ?_ ?_<;>intro gg<;>try omega)|(apply And.intro;focus omega)|omega
theorem bl_trans : ∀ a b c : List UInt8, Op.bytesLess a b = true → Op.bytesLess b c = true → Op.bytesLess a c = true
 | _, _, [], _, h => by simp [Op.bytesLess] at h
 | _, [], _ :: _, h, _ => by simp [Op.bytesLess] at h
 | [], _ :: _, _ :: _, _, _ => by simp [Op.bytesLess]
 | x :: a, y :: b, z :: c, h1, h2 => by
  have ih := bl_trans a b c
  simp only [Op.bytesLess, Bool.or_eq_true, decide_eq_true_eq, Bool.and_eq_true, beq_iff_eq] at h1 h2 ⊢
  rcases h1 with h1 | ⟨h1, h3⟩
  ·rcases h2 with h2 | ⟨h2, h4⟩
   ·exact Or.inl (UInt8.lt_trans h1 h2)
   ·subst h2; exact Or.inl h1
  ·subst h1
   rcases h2 with h2 | ⟨h2, h4⟩
   ·exact Or.inl h2
   ·exact Or.inr ⟨h2, ih h3 h4⟩
theorem cmp_trans (a b c : List UInt8) (h1 : compareBytes a b = -1) (h2 : compareBytes b c = -1) : compareBytes a c = -1 := by
 have h3 : Op.bytesLess a b = true := by
  rcases cmp_cases a b with ⟨e1, e2, _⟩ | ⟨e1, _⟩ | ⟨e1, _⟩
  ·exact e2
  all_goals omega
 have h4 : Op.bytesLess b c = true := by
  rcases cmp_cases b c with ⟨e1, e2, _⟩ | ⟨e1, _⟩ | ⟨e1, _⟩
  ·exact e2
  all_goals omega
 have h5 := bl_trans a b c h3 h4
 rcases cmp_cases a c with ⟨e1, _⟩ | ⟨_, _, e2, _⟩ | ⟨_, e2, _⟩
 ·exact e1
 ·rw [h5] at e2; simp at e2
 ·rw [h5] at e2; simp at e2
theorem cmp_self (a : List UInt8) : compareBytes a a = 0 := by
 rcases cmp_cases a a with h | h | h <;> simp_all
theorem cmp_zero {a b : List UInt8} (h : compareBytes a b = 0) : a = b := by
 rcases cmp_cases a b with h1 | h1 | h1 <;> simp_all
theorem cmpR_self : ∀ a : List (List UInt8), cmpR a a = 0
 | [] => rfl
 | x :: a => by rw [cmpR, cmp_self, if_neg (by omega), cmpR_self a]
theorem cmpR_range : ∀ a b : List (List UInt8), cmpR a b = -1 ∨ cmpR a b = 0 ∨ cmpR a b = 1
 | [], [] => by simp [cmpR]
 | [], _ :: _ => by simp [cmpR]
 | _ :: _, [] => by simp [cmpR]
 | x :: a, y :: b => by
  have ih := cmpR_range a b
  rw [cmpR]
  split
  ·rcases cmp_cases x y with h | h | h <;> omega
  ·exact ih
theorem cmpR_trans : ∀ a b c : List (List UInt8), cmpR a b = -1 → cmpR b c = -1 → cmpR a c = -1
 | _, _ :: _, [], _, h => by simp [cmpR] at h
 | _, [], [], _, h => by simp [cmpR] at h
 | _ :: _, [], _ :: _, h, _ => by simp [cmpR] at h
 | [], _, _ :: _, _, _ => by simp [cmpR]
 | x :: a, y :: b, z :: c, h1, h2 => by
  have ih := cmpR_trans a b c
  rw [cmpR] at h1 h2 ⊢
  by_cases g1 : compareBytes x y = 0
  ·have e := cmp_zero g1
   subst e
   rw [g1, if_neg (by omega)] at h1
   by_cases g2 : compareBytes x z = 0
   ·rw [g2, if_neg (by omega)] at h2 ⊢
    exact ih h1 h2
   ·rw [if_pos g2] at h2 ⊢
    exact h2
  ·rw [if_pos g1] at h1
   by_cases g2 : compareBytes y z = 0
   ·have e := cmp_zero g2
    subst e
    rw [if_pos (by omega)]
    exact h1
   ·rw [if_pos g2] at h2
    have h3 := cmp_trans x y z h1 h2
    rw [if_pos (by omega)]
    exact h3
theorem path_eq (a b : List UInt8) : cmpPath a b = cmpR (splitOn 47 a) (splitOn 47 b) := (cmpR_parts _ _ (splitOn_ne 47 a) (splitOn_ne 47 b)).symm
theorem path_self (a : List UInt8) : cmpPath a a = 0 := by rw [path_eq, cmpR_self]
theorem path_trans {a b c : List UInt8} (h1 : cmpPath a b = -1) (h2 : cmpPath b c = -1) : cmpPath a c = -1 := by
 rw [path_eq] at *
 exact cmpR_trans _ _ _ h1 h2
theorem path_range (a b : List UInt8) : cmpPath a b = -1 ∨ cmpPath a b = 0 ∨ cmpPath a b = 1 := by
 rw [path_eq]
 exact cmpR_range _ _
end Go.Abs
