import Derived.Test.YtambgnjkakdoeaaGreatDoorReads12
/- PART OF A PROOF (texts joined by a program): F98 F99 F35 F100 F103 Q3 Q7 N7 F79 F80 F81 F68 F69. -/
set_option linter.unusedVariables false
set_option linter.unusedSimpArgs false
set_option linter.unusedSectionVars false
namespace Go.Abs
open Am Lib
set_option maxRecDepth 20000
set_option maxHeartbeats 16000000 in
/-- behind the digits -/
theorem x106n (r0 : Option (List Rcd)) (b : BS) (hb : b.l.length ≤ 1000000) (hl0 : 0 < b.l.length) (k : Nat) (h5 : r0 = decQ (k + 1) none [] b.l)
  (IH : ∀ (b' : BS) (r : Rcd), b'.l.length < b.l.length → r0 = decQ k (some r) [r] b'.l → HD AA 0 [0, 2, 3, 4, 5] l106_1 ⟨[b'.av, .junk, .lit (.slice none 0 0), .int .i64 0, .int .i64 15, .own 0 2 0 1 false, .junk, .junk, .junk, .junk, .junk, .junk, .junk, .junk, .junk, .junk, .junk, .junk, .junk, .junk, .junk, .junk, .junk, .junk, .junk, .junk, .junk, .junk, .junk, .junk, .junk, .junk, .junk, .junk, .junk, .junk, .junk, .junk, .junk, .junk, .junk, .junk, .junk, .junk, .junk, .junk, .junk, .junk, .junk, .junk, .junk, .junk, .junk, .junk, .junk, .junk, .junk, .junk, .junk, .junk, .junk, .junk, .junk, .junk, .junk, .junk, .junk, .junk, .junk, .junk, .junk, .junk, .junk, .junk, .junk, .junk, .junk, .junk, .junk, .junk, .junk, .junk, .junk, .junk, .junk, .junk, .junk, .junk, .junk, .junk, .junk, .junk, .junk, .junk, .junk, .junk, .junk], [(0, .row ([r].map Rcd.av) 2)], 1⟩ [.blk 0, .code r106_1] (Fin [(2, none), (3, none)] 0 (pqV r0) (pdH r0)))
  (N : Nat) (n a : Int) (h3 : n = N) (h4 : 0 ≤ a) (ha : a ≤ 999999) (hN : N ≤ 6) (hd : dgR 6 0 0 b.l = (N, a)) :
  ∀ x8 x9 x10 x11 x12 x13 x14 x15 x16 x17 x18 x19 x20 x21 x22 x23 x24 x25 x26 x27 x28 x29 x30 x31 x32 x33 x34 x35 x36 x37 x38 x39 x40 x41 x42 x43 x44 x45 x46 x47 x48 x49 x50 x51 x52 x53 x54 x55 x56 x57 x58 x59 x60 x61 x62 x63 x64 x65 x66 x67 x68 x69 x70 x71 x72 x73 x74 x75 x76 x77 x78 x79 x80 x81 x82 x83 x84 x85 x86 x87 x88 x89 x90 x91 x92 x93 x94 x95 x96 : AVal, EX AA 0 r106_0 ⟨[b.av, .junk, .lit (.slice none 0 0), .int .i64 0, .int .i64 15, .lit (.slice none 0 0), .int .i64 n, .int .i64 a, x8, x9, x10, x11, x12, x13, x14, x15, x16, x17, x18, x19, x20, x21, x22, x23, x24, x25, x26, x27, x28, x29, x30, x31, x32, x33, x34, x35, x36, x37, x38, x39, x40, x41, x42, x43, x44, x45, x46, x47, x48, x49, x50, x51, x52, x53, x54, x55, x56, x57, x58, x59, x60, x61, x62, x63, x64, x65, x66, x67, x68, x69, x70, x71, x72, x73, x74, x75, x76, x77, x78, x79, x80, x81, x82, x83, x84, x85, x86, x87, x88, x89, x90, x91, x92, x93, x94, x95, x96], [], 704⟩ [.blk 1, .loop [0, 2, 3, 4, 5] l106_1, .blk 0, .code r106_1] (Fin [(2, none), (3, none)] 0 (pqV r0) (pdH r0)) := by
 intro x8 x9 x10 x11 x12 x13 x14 x15 x16 x17 x18 x19 x20 x21 x22 x23 x24 x25 x26 x27 x28 x29 x30 x31 x32 x33 x34 x35 x36 x37 x38 x39 x40 x41 x42 x43 x44 x45 x46 x47 x48 x49 x50 x51 x52 x53 x54 x55 x56 x57 x58 x59 x60 x61 x62 x63 x64 x65 x66 x67 x68 x69 x70 x71 x72 x73 x74 x75 x76 x77 x78 x79 x80 x81 x82 x83 x84 x85 x86 x87 x88 x89 x90 x91 x92 x93 x94 x95 x96
 have hne : b.l ≠ [] := by intro h; rw [h] at hl0; simp at hl0
 unfold decQ at h5
 rw [hd, if_neg hne] at h5
 simp only at h5
 have eb : (b.sl 0 a.toNat).l = b.l.take a.toNat := by rw [BS.sl_l]; simp
 by_cases hB1 : (b.l.length : Int) < a
 ·rw [if_pos (.inl hB1)] at h5
  rw [h5]
  unfold pqV pdH
  clear IH h5
  have gg:=trivial;repeat' first|simp (maxSteps:=2000000) (disch:=omega) only [gg,r106_0,go_sem]|(refine br ?_ ?_<;>intro gg<;>try omega)|(apply And.intro;focus omega)|omega
 by_cases hB2 : a ≤ N
 ·rw [if_pos (.inr hB2)] at h5
  rw [h5]
  unfold pqV pdH
  clear IH h5
  have gg:=trivial;repeat' first|simp (maxSteps:=2000000) (disch:=omega) only [gg,r106_0,go_sem]|(refine br ?_ ?_<;>intro gg<;>try omega)|(apply And.intro;focus omega)|omega
 rw [if_neg (fun h => h.elim hB1 hB2)] at h5
 have c147 := s147 (b.l.take a.toNat) (by simp; omega) n N h3 (by omega)
 generalize cutR (b.l.take a.toNat) N = P at *
 obtain ⟨r, ok⟩ := P
 simp only [Rcd.av] at c147
 simp only at h5
 have IH := IH (b.sl a.toNat b.l.length) r (by rw [BS.sl_l]; simp; omega)
 rw [BS.sl_l, List.take_of_length_le (by simp)] at IH
 simp only [List.map_append, List.map_cons, List.map_nil, Rcd.av] at IH
 cases ok with
 | false =>
  rw [if_pos rfl] at h5
  rw [h5]
  unfold pqV pdH
  clear IH h5
  have gg:=trivial;repeat' first|simp (maxSteps:=2000000) (disch:=omega) only [gg,eb,c147,r106_0,go_sem]|(refine br ?_ ?_<;>intro gg<;>try omega)|(apply And.intro;focus omega)|omega
 | true =>
  rw [if_neg (by simp)] at h5
  rw [if_neg (by simp [aftB]), List.nil_append] at h5
  have IH := IH h5
  clear h5
  have gg:=trivial;repeat' first|simp (maxSteps:=2000000) (disch:=omega) only [gg,eb,c147,r106_0,lp_head,go_sem]|(refine br ?_ ?_<;>intro gg<;>try omega)|(apply And.intro;focus omega)|omega
set_option maxHeartbeats 16000000 in
/-- the digits of a line -/
theorem i106n (r0 : Option (List Rcd)) (b : BS) (hb : b.l.length ≤ 1000000) (hl0 : 0 < b.l.length) (k : Nat) (h5 : r0 = decQ (k + 1) none [] b.l)
  (IH : ∀ (b' : BS) (r : Rcd), b'.l.length < b.l.length → r0 = decQ k (some r) [r] b'.l → HD AA 0 [0, 2, 3, 4, 5] l106_1 ⟨[b'.av, .junk, .lit (.slice none 0 0), .int .i64 0, .int .i64 15, .own 0 2 0 1 false, .junk, .junk, .junk, .junk, .junk, .junk, .junk, .junk, .junk, .junk, .junk, .junk, .junk, .junk, .junk, .junk, .junk, .junk, .junk, .junk, .junk, .junk, .junk, .junk, .junk, .junk, .junk, .junk, .junk, .junk, .junk, .junk, .junk, .junk, .junk, .junk, .junk, .junk, .junk, .junk, .junk, .junk, .junk, .junk, .junk, .junk, .junk, .junk, .junk, .junk, .junk, .junk, .junk, .junk, .junk, .junk, .junk, .junk, .junk, .junk, .junk, .junk, .junk, .junk, .junk, .junk, .junk, .junk, .junk, .junk, .junk, .junk, .junk, .junk, .junk, .junk, .junk, .junk, .junk, .junk, .junk, .junk, .junk, .junk, .junk, .junk, .junk, .junk, .junk, .junk, .junk], [(0, .row ([r].map Rcd.av) 2)], 1⟩ [.blk 0, .code r106_1] (Fin [(2, none), (3, none)] 0 (pqV r0) (pdH r0))) :
  ∀ (j : Nat) (rest done : List UInt8) (N : Nat) (n a : Int), b.l = done ++ rest → N = done.length → n = N → 0 ≤ a → a + 1 ≤ 10 ^ N → j + N = 6 → dgR 6 0 0 b.l = dgR j N a rest →
  HD AA 0 [0, 2, 3, 4, 5, 6, 7] l106_0 ⟨[b.av, .junk, .lit (.slice none 0 0), .int .i64 0, .int .i64 15, .lit (.slice none 0 0), .int .i64 n, .int .i64 a, .junk, .junk, .junk, .junk, .junk, .junk, .junk, .junk, .junk, .junk, .junk, .junk, .junk, .junk, .junk, .junk, .junk, .junk, .junk, .junk, .junk, .junk, .junk, .junk, .junk, .junk, .junk, .junk, .junk, .junk, .junk, .junk, .junk, .junk, .junk, .junk, .junk, .junk, .junk, .junk, .junk, .junk, .junk, .junk, .junk, .junk, .junk, .junk, .junk, .junk, .junk, .junk, .junk, .junk, .junk, .junk, .junk, .junk, .junk, .junk, .junk, .junk, .junk, .junk, .junk, .junk, .junk, .junk, .junk, .junk, .junk, .junk, .junk, .junk, .junk, .junk, .junk, .junk, .junk, .junk, .junk, .junk, .junk, .junk, .junk, .junk, .junk, .junk, .junk], [], 0⟩ SQ (Fin [(2, none), (3, none)] 0 (pqV r0) (pdH r0)) := by
 intro j rest done N n a h1 h2 h3 h4 h6 h7 h8
 have hbl : b.l.length = done.length + rest.length := by rw [h1]; simp
 by_cases hc : ∃ c r, rest = c :: r ∧ j ≠ 0 ∧ 48 ≤ (c.toNat : Int) ∧ (c.toNat : Int) ≤ 57
 ·obtain ⟨c, r, rfl, hj, hc1, hc2⟩ := hc
  obtain ⟨j', rfl⟩ : ∃ j', j = j' + 1 := ⟨j - 1, by omega⟩
  have hg0 : b.l[n.toNat]? = some c := by
   rw [h1]
   simp [h3, h2]
  have hx := c.toNat_lt
  simp only [List.length_cons] at hbl
  have ha : a ≤ 100000 := by
   have : (10 : Int) ^ N ≤ 10 ^ 5 := ipow_le (n := 10) (by omega) (by omega)
   have e : (10 : Int) ^ 5 = 100000 := by decide
   omega
  have h9 : dgR (j' + 1) N a (c :: r) = dgR j' (N + 1) (10 * a + ((c.toNat : Int) - 48)) r := if_pos ⟨hc1, hc2⟩
  rw [h9] at h8
  clear h9
  have ih := i106n r0 b hb hl0 k h5 IH j' r (done ++ [c]) (N + 1) (n + 1) (10 * a + ((c.toNat : Int) - 48)) (by simp [h1]) (by simp [h2]) (by omega) (by omega) (by rw [Int.pow_succ]; omega) (by omega) h8
  clear h6 h5 IH h8
  dsimp only [SQ] at ih ⊢
  refine hd_of (by unfold l106_0; rfl) ?_
  have gg:=trivial;repeat' first|simp (maxSteps:=2000000) (disch:=omega) only [gg,hg0,lp_head,go_sem]|(refine br ?_ ?_<;>intro gg<;>try omega)|(apply And.intro;focus omega)|omega
 ·have hd : dgR 6 0 0 b.l = (N, a) := by
   rw [h8]
   cases j with
   | zero => rfl
   | succ j' =>
    cases rest with
    | nil => rfl
    | cons c r =>
     exact if_neg fun hh => hc ⟨c, r, rfl, by omega, hh.1, hh.2⟩
  have ha : a ≤ 999999 := by
   have : (10 : Int) ^ N ≤ 10 ^ 6 := ipow_le (n := 10) (by omega) (by omega)
   have e : (10 : Int) ^ 6 = 1000000 := by decide
   omega
  have X := x106n r0 b hb hl0 k h5 IH N n a h3 h4 ha (by omega) hd
  dsimp only [SQ]
  clear h5 IH h8 h6 hd
  cases rest with
  | nil =>
   simp only [List.length_nil] at hbl
   clear hc
   refine hd_of (by unfold l106_0; rfl) ?_
   have gg:=trivial;repeat' first|simp (maxSteps:=2000000) (disch:=omega) only [gg,lp_head,go_sem]|(refine br ?_ ?_<;>intro gg<;>try omega)|(apply And.intro;focus omega)|omega
   all_goals exact X _ _ _ _ _ _ _ _ _ _ _ _ _ _ _ _ _ _ _ _ _ _ _ _ _ _ _ _ _ _ _ _ _ _ _ _ _ _ _ _ _ _ _ _ _ _ _ _ _ _ _ _ _ _ _ _ _ _ _ _ _ _ _ _ _ _ _ _ _ _ _ _ _ _ _ _ _ _ _ _ _ _ _ _ _ _ _ _ _
  | cons c r =>
   have hg0 : b.l[n.toNat]? = some c := by
    rw [h1]
    simp [h3, h2]
   simp only [List.length_cons] at hbl
   by_cases hj : j = 0
   ·clear hc
    refine hd_of (by unfold l106_0; rfl) ?_
    have gg:=trivial;repeat' first|simp (maxSteps:=2000000) (disch:=omega) only [gg,lp_head,go_sem]|(refine br ?_ ?_<;>intro gg<;>try omega)|(apply And.intro;focus omega)|omega
    all_goals exact X _ _ _ _ _ _ _ _ _ _ _ _ _ _ _ _ _ _ _ _ _ _ _ _ _ _ _ _ _ _ _ _ _ _ _ _ _ _ _ _ _ _ _ _ _ _ _ _ _ _ _ _ _ _ _ _ _ _ _ _ _ _ _ _ _ _ _ _ _ _ _ _ _ _ _ _ _ _ _ _ _ _ _ _ _ _ _ _ _
   ·have hcc : (c.toNat : Int) < 48 ∨ 57 < (c.toNat : Int) := by
     have : ¬ (48 ≤ (c.toNat : Int) ∧ (c.toNat : Int) ≤ 57) := fun hh => hc ⟨c, r, rfl, hj, hh.1, hh.2⟩
     omega
    clear hc
    refine hd_of (by unfold l106_0; rfl) ?_
    rcases hcc with hcc | hcc
    all_goals (have gg:=trivial;repeat' first|simp (maxSteps:=2000000) (disch:=omega) only [gg,hg0,lp_head,go_sem]|(refine br ?_ ?_<;>intro gg<;>try omega)|(apply And.intro;focus omega)|omega)
    all_goals exact X _ _ _ _ _ _ _ _ _ _ _ _ _ _ _ _ _ _ _ _ _ _ _ _ _ _ _ _ _ _ _ _ _ _ _ _ _ _ _ _ _ _ _ _ _ _ _ _ _ _ _ _ _ _ _ _ _ _ _ _ _ _ _ _ _ _ _ _ _ _ _ _ _ _ _ _ _ _ _ _ _ _ _ _ _ _ _ _ _
termination_by j => j
theorem h106o (r0 : Option (List Rcd)) : ∀ (k : Nat) (b : BS) (p : Rcd) (acc rs : List Rcd) (q : Nat), rs = acc ++ [p] → b.l.length ≤ k → b.l.length ≤ 1000000 → q = rs.length → rs.length + k ≤ 1000001 → r0 = decQ k (some p) rs b.l →
  HD AA 0 [0, 2, 3, 4, 5] l106_1 ⟨[b.av, .junk, .lit (.slice none 0 0), .int .i64 0, .int .i64 15, .own 0 2 0 q false, .junk, .junk, .junk, .junk, .junk, .junk, .junk, .junk, .junk, .junk, .junk, .junk, .junk, .junk, .junk, .junk, .junk, .junk, .junk, .junk, .junk, .junk, .junk, .junk, .junk, .junk, .junk, .junk, .junk, .junk, .junk, .junk, .junk, .junk, .junk, .junk, .junk, .junk, .junk, .junk, .junk, .junk, .junk, .junk, .junk, .junk, .junk, .junk, .junk, .junk, .junk, .junk, .junk, .junk, .junk, .junk, .junk, .junk, .junk, .junk, .junk, .junk, .junk, .junk, .junk, .junk, .junk, .junk, .junk, .junk, .junk, .junk, .junk, .junk, .junk, .junk, .junk, .junk, .junk, .junk, .junk, .junk, .junk, .junk, .junk, .junk, .junk, .junk, .junk, .junk, .junk], [(0, .row (rs.map Rcd.av) 2)], 1⟩ [.blk 0, .code r106_1] (Fin [(2, none), (3, none)] 0 (pqV r0) (pdH r0))
 | k, b, p, acc, rs, q, h0, h1, h2, h3, h4, h5 => by
  by_cases hl : b.l = []
  ·have hl0 : b.l.length = 0 := by rw [hl]; rfl
   have hr : r0 = some rs := by
    cases k with
    | zero => exact h5
    | succ k => rw [h5]; unfold decQ; rw [if_pos hl]
   refine hd_of (by unfold l106_1; rfl) ?_
   rw [hr]
   cases rs with
   | nil => simp at h0
   | cons x y =>
    unfold pqV pdH
    have gg:=trivial;repeat' first|simp (maxSteps:=2000000) (disch:=omega) only [gg,r106_1,go_sem]|(refine br ?_ ?_<;>intro gg<;>try omega)|(apply And.intro;focus omega)|omega
    simp [h3]
  ·have hl0 : 0 < b.l.length := by
    cases hz : b.l with
    | nil => exact (hl hz).elim
    | cons x y => simp
   match k, h1, h4, h5 with
   | 0, h1, h4, h5 => omega
   | k + 1, h1, h4, h5 =>
    have hi := i106o r0 b h2 hl0 p acc rs q h0 h3 (by omega) k h5 (fun b' r hb' hr => h106o r0 k b' r rs (rs ++ [r]) (q + 1) rfl (by omega) (by omega) (by simp [h3]) (by simp; omega) hr) 6 b.l [] 0 0 0 rfl rfl rfl (by omega) (by simp) rfl rfl
    unfold SQ at hi
    refine hd_of (by unfold l106_1; rfl) ?_
    have gg:=trivial;repeat' first|simp (maxSteps:=2000000) (disch:=omega) only [gg,lp_head,go_sem]|(refine br ?_ ?_<;>intro gg<;>try omega)|(apply And.intro;focus omega)|omega
theorem s106 (b : BS) (hb : b.l.length ≤ 1000000) : callT AA 106 [b.av] [] = some (pqV (paxQ b.l), pdH (paxQ b.l)) := by
 refine enter fn106 np106 rfl ?_
 unfold paxQ
 by_cases h1 : 65536 < b.l.length
 ·rw [if_pos h1]
  unfold pqV pdH
  have gg:=trivial;repeat' first|simp (maxSteps:=2000000) (disch:=omega) only [gg,b106,go_sem]|(refine br ?_ ?_<;>intro gg<;>try omega)|(apply And.intro;focus omega)|omega
 rw [if_neg h1]
 generalize hr : decQ b.l.length none [] b.l = r0
 by_cases hl : b.l = []
 ·have hl0 : b.l.length = 0 := by rw [hl]; rfl
  rw [hl0] at hr
  unfold decQ at hr
  rw [← hr]
  unfold pqV pdH
  have gg:=trivial;repeat' first|simp (maxSteps:=2000000) (disch:=omega) only [gg,b106,lp_head,go_sem]|(refine br ?_ ?_<;>intro gg<;>try omega)|(apply And.intro;focus omega)|omega
  refine hd_of (by unfold l106_1; rfl) ?_
  have gg:=trivial;repeat' first|simp (maxSteps:=2000000) (disch:=omega) only [gg,r106_1,go_sem]|(refine br ?_ ?_<;>intro gg<;>try omega)|(apply And.intro;focus omega)|omega
 ·have hl0 : 0 < b.l.length := by
   cases hz : b.l with
   | nil => exact (hl hz).elim
   | cons x y => simp
  obtain ⟨k, hk⟩ : ∃ k, b.l.length = k + 1 := ⟨b.l.length - 1, by omega⟩
  rw [hk] at hr
  have hi := i106n r0 b hb hl0 k hr.symm (fun b' r hb' h => h106o r0 k b' r [] [r] 1 rfl (by omega) (by omega) rfl (by simp; omega) h) 6 b.l [] 0 0 0 rfl rfl rfl (by omega) (by simp) rfl rfl
  unfold SQ at hi
  have gg:=trivial;repeat' first|simp (maxSteps:=2000000) (disch:=omega) only [gg,b106,lp_head,go_sem]|(refine br ?_ ?_<;>intro gg<;>try omega)|(apply And.intro;focus omega)|omega
  refine hd_of (by unfold l106_1; rfl) ?_
  have gg:=trivial;repeat' first|simp (maxSteps:=2000000) (disch:=omega) only [gg,lp_head,go_sem]|(refine br ?_ ?_<;>intro gg<;>try omega)|(apply And.intro;focus omega)|omega
end Go.Abs
namespace Go.Abs
open Am Lib
set_option maxRecDepth 100000
def tellR (e : Ent) (r : Rcd) : Ent × Bool :=
 if r.key = [103, 105, 100] then ({ e with gid := (numR r.value).1 }, (numR r.value).2) else
 if r.key = [108, 105, 110, 107, 112, 97, 116, 104] then ({ e with link := r.value }, true) else
 if r.key = [109, 116, 105, 109, 101] then ({ e with time := (numR r.value).1 }, (numR r.value).2) else
 if r.key = [112, 97, 116, 104] then ({ e with path := r.value }, true) else
 if r.key = [117, 105, 100] then ({ e with uid := (numR r.value).1 }, (numR r.value).2) else (e, false)
def toldR (e : Ent) (ok : Bool) : List Rcd → Ent × Bool
 | [] => (e, ok)
 | r :: rs => toldR (tellR e r).1 (ok && (tellR e r).2) rs
def stR (b : List UInt8) (a : Nat) : Option (Hd × List UInt8 × Nat) :=
 if (b.length : Int) - a < 512 then none else
 if decOk ((b.drop a).take 512) = false then none else
 if (b.length : Int) - (a + 512) < ((decH ((b.drop a).take 512)).size + 511) / 512 * 512 then none else
 some (decH ((b.drop a).take 512), (b.drop (a + 512)).take (decH ((b.drop a).take 512)).size.toNat, a + 512 + (((decH ((b.drop a).take 512)).size + 511) / 512 * 512).toNat)
def mkR (H : Hd) (body : List UInt8) : Ent := ⟨H.path, kindB H.type, H.mode, H.uid, H.gid, H.time, H.link, .mk false false body⟩
def finE (H : Hd) (body : List UInt8) (M : List Rcd) (a : Nat) : Option (Ent × Nat) :=
 if (toldR (mkR H body) true M).2 = true then some ((toldR (mkR H body) true M).1, a) else none
def entR (b : List UInt8) : Option (Ent × Nat) := match stR b 0 with
 | none => none
 | some (H, body, a) => if H.type = 120 then (match paxQ body with
   | none => none
   | some [] => none
   | some (r :: rs) => match stR b a with
    | none => none
    | some (H2, body2, a2) => finE H2 body2 (r :: rs) a2)
  else finE H body [] a
abbrev z8 : List AVal := [.str [], .int .i64 0, .int .i64 0, .int .i64 0, .int .i64 0, .int .i64 0, .str [], .lit (.slice none 0 0)]
def enV : Option (Ent × Nat) → AVal
 | none => .tuple [.agg z8, .int .i64 0]
 | some (e, n) => .tuple [.agg (entCs e (.own 0 1 0 e.data.l.length false)), .int .i64 n]
def enH : Option (Ent × Nat) → Heap
 | none => []
 | some (e, _) => [(0, .row (e.data.l.map .byte) 1)]
/-- what the records' rounds leave -/
def rrE (r : Ent × Bool) (a : Nat) : Option (Ent × Nat) := if r.2 = true then some (r.1, a) else none
theorem tellR_data (e : Ent) (r : Rcd) : (tellR e r).1.data = e.data := by
 unfold tellR
 split
 ·rfl
 split
 ·rfl
 split
 ·rfl
 split
 ·rfl
 split <;> rfl
abbrev S63 : List Frame := [.blk 3, .code r63_0, .blk 1, .loop [0, 2, 3, 4, 5, 6] l63_1, .blk 0]
set_option maxHeartbeats 16000000 in
theorem g63 (b : BS) (rs : List Rcd) (hs : rs.length ≤ 1000000) (a : Int) (D : List UInt8) (q m : Nat) (hm : m = rs.length) (r : Rcd) (hv : r.value.length ≤ 1000000) (e : Ent) (ok : Bool) (i : Int) (hi : 0 ≤ i) (hl : i.toNat < rs.length) (hg0 : rs[i.toNat]? = some r) (F : FinP)
  (ih : HD AA 0 [0, 2, 3, 4, 5, 6, 10, 11, 12] l63_0 ⟨[b.av, .junk, .ptr 0 0, .int .i64 0, .ptr 1 0, .int .i64 a, .own 2 2 0 m false, .junk, .junk, .junk, .ptr 3 0, .bool (ok && (tellR e r).2), .int .i64 (i + 1), .junk, .junk, .junk, .junk, .junk, .junk, .junk, .junk, .junk, .junk, .junk, .junk, .junk, .junk, .junk, .junk, .junk, .junk, .junk, .junk, .junk, .junk, .junk, .junk, .junk, .junk, .junk, .junk, .junk, .junk, .junk, .junk, .junk, .junk, .junk, .junk, .junk, .junk, .junk, .junk, .junk, .junk, .junk, .junk, .junk, .junk, .junk, .junk, .junk, .junk, .junk, .junk, .junk, .junk, .junk, .junk, .junk, .junk, .junk, .junk, .junk, .junk, .junk, .junk, .junk, .junk, .junk, .junk, .junk, .junk, .junk, .junk, .junk, .junk, .junk, .junk, .junk, .junk, .junk, .junk, .junk, .junk, .junk, .junk, .junk, .junk, .junk, .junk, .junk, .junk, .junk, .junk, .junk, .junk, .junk, .junk, .junk, .junk, .junk, .junk, .junk, .junk, .junk, .junk, .junk, .junk, .junk, .junk, .junk, .junk, .junk, .junk, .junk, .junk, .junk, .junk, .junk, .junk, .junk, .junk, .junk, .junk, .junk, .junk, .junk, .junk, .junk, .junk, .junk, .junk, .junk, .junk, .junk, .junk, .junk, .junk, .junk, .junk, .junk, .junk, .junk, .junk, .junk, .junk, .junk, .junk, .junk, .junk, .junk, .junk, .junk, .junk, .junk, .junk, .junk, .junk, .junk], [(0, .var z8), (1, .var z8), (2, .row (rs.map Rcd.av) 2), (3, .var (entCs (tellR e r).1 (.own 4 1 0 q false))), (4, .row (D.map .byte) 1)], 5⟩ S63 F) :
  HD AA 0 [0, 2, 3, 4, 5, 6, 10, 11, 12] l63_0 ⟨[b.av, .junk, .ptr 0 0, .int .i64 0, .ptr 1 0, .int .i64 a, .own 2 2 0 m false, .junk, .junk, .junk, .ptr 3 0, .bool ok, .int .i64 i, .junk, .junk, .junk, .junk, .junk, .junk, .junk, .junk, .junk, .junk, .junk, .junk, .junk, .junk, .junk, .junk, .junk, .junk, .junk, .junk, .junk, .junk, .junk, .junk, .junk, .junk, .junk, .junk, .junk, .junk, .junk, .junk, .junk, .junk, .junk, .junk, .junk, .junk, .junk, .junk, .junk, .junk, .junk, .junk, .junk, .junk, .junk, .junk, .junk, .junk, .junk, .junk, .junk, .junk, .junk, .junk, .junk, .junk, .junk, .junk, .junk, .junk, .junk, .junk, .junk, .junk, .junk, .junk, .junk, .junk, .junk, .junk, .junk, .junk, .junk, .junk, .junk, .junk, .junk, .junk, .junk, .junk, .junk, .junk, .junk, .junk, .junk, .junk, .junk, .junk, .junk, .junk, .junk, .junk, .junk, .junk, .junk, .junk, .junk, .junk, .junk, .junk, .junk, .junk, .junk, .junk, .junk, .junk, .junk, .junk, .junk, .junk, .junk, .junk, .junk, .junk, .junk, .junk, .junk, .junk, .junk, .junk, .junk, .junk, .junk, .junk, .junk, .junk, .junk, .junk, .junk, .junk, .junk, .junk, .junk, .junk, .junk, .junk, .junk, .junk, .junk, .junk, .junk, .junk, .junk, .junk, .junk, .junk, .junk, .junk, .junk, .junk, .junk, .junk, .junk, .junk, .junk], [(0, .var z8), (1, .var z8), (2, .row (rs.map Rcd.av) 2), (3, .var (entCs e (.own 4 1 0 q false))), (4, .row (D.map .byte) 1)], 5⟩ S63 F := by
 have c := s107 r.value hv
 dsimp only [S63] at ih ⊢
 refine hd_of (by unfold l63_0; rfl) ?_
 unfold tellR at ih
 generalize numR r.value = P at *
 obtain ⟨pn, pb⟩ := P
 simp only at c
 cases ok with
 | false =>
  by_cases k0 : r.key = [103, 105, 100]
  ·simp only [if_pos k0, entCs, Bool.true_and, Bool.false_and] at ih
   have gg:=trivial;repeat' first|simp (maxSteps:=2000000) (disch:=omega) only [gg,hg0,decide_eq_true k0,c,lp_head,go_sem]|(refine br ?_ ?_<;>intro gg<;>try omega)|(apply And.intro;focus omega)|omega
  by_cases k1 : r.key = [108, 105, 110, 107, 112, 97, 116, 104]
  ·simp only [if_neg k0, if_pos k1, entCs, Bool.true_and, Bool.false_and] at ih
   have gg:=trivial;repeat' first|simp (maxSteps:=2000000) (disch:=omega) only [gg,hg0,decide_eq_false k0,decide_eq_true k1,lp_head,go_sem]|(refine br ?_ ?_<;>intro gg<;>try omega)|(apply And.intro;focus omega)|omega
  by_cases k2 : r.key = [109, 116, 105, 109, 101]
  ·simp only [if_neg k0, if_neg k1, if_pos k2, entCs, Bool.true_and, Bool.false_and] at ih
   have gg:=trivial;repeat' first|simp (maxSteps:=2000000) (disch:=omega) only [gg,hg0,decide_eq_false k0,decide_eq_false k1,decide_eq_true k2,c,lp_head,go_sem]|(refine br ?_ ?_<;>intro gg<;>try omega)|(apply And.intro;focus omega)|omega
  by_cases k3 : r.key = [112, 97, 116, 104]
  ·simp only [if_neg k0, if_neg k1, if_neg k2, if_pos k3, entCs, Bool.true_and, Bool.false_and] at ih
   have gg:=trivial;repeat' first|simp (maxSteps:=2000000) (disch:=omega) only [gg,hg0,decide_eq_false k0,decide_eq_false k1,decide_eq_false k2,decide_eq_true k3,lp_head,go_sem]|(refine br ?_ ?_<;>intro gg<;>try omega)|(apply And.intro;focus omega)|omega
  by_cases k4 : r.key = [117, 105, 100]
  ·simp only [if_neg k0, if_neg k1, if_neg k2, if_neg k3, if_pos k4, entCs, Bool.true_and, Bool.false_and] at ih
   have gg:=trivial;repeat' first|simp (maxSteps:=2000000) (disch:=omega) only [gg,hg0,decide_eq_false k0,decide_eq_false k1,decide_eq_false k2,decide_eq_false k3,decide_eq_true k4,c,lp_head,go_sem]|(refine br ?_ ?_<;>intro gg<;>try omega)|(apply And.intro;focus omega)|omega
  ·simp only [if_neg k0, if_neg k1, if_neg k2, if_neg k3, if_neg k4, entCs, Bool.and_false] at ih
   have gg:=trivial;repeat' first|simp (maxSteps:=2000000) (disch:=omega) only [gg,hg0,decide_eq_false k0,decide_eq_false k1,decide_eq_false k2,decide_eq_false k3,decide_eq_false k4,lp_head,go_sem]|(refine br ?_ ?_<;>intro gg<;>try omega)|(apply And.intro;focus omega)|omega
 | true =>
  by_cases k0 : r.key = [103, 105, 100]
  ·simp only [if_pos k0, entCs, Bool.true_and, Bool.false_and] at ih
   have gg:=trivial;repeat' first|simp (maxSteps:=2000000) (disch:=omega) only [gg,hg0,decide_eq_true k0,c,lp_head,go_sem]|(refine br ?_ ?_<;>intro gg<;>try omega)|(apply And.intro;focus omega)|omega
  by_cases k1 : r.key = [108, 105, 110, 107, 112, 97, 116, 104]
  ·simp only [if_neg k0, if_pos k1, entCs, Bool.true_and, Bool.false_and] at ih
   have gg:=trivial;repeat' first|simp (maxSteps:=2000000) (disch:=omega) only [gg,hg0,decide_eq_false k0,decide_eq_true k1,lp_head,go_sem]|(refine br ?_ ?_<;>intro gg<;>try omega)|(apply And.intro;focus omega)|omega
  by_cases k2 : r.key = [109, 116, 105, 109, 101]
  ·simp only [if_neg k0, if_neg k1, if_pos k2, entCs, Bool.true_and, Bool.false_and] at ih
   have gg:=trivial;repeat' first|simp (maxSteps:=2000000) (disch:=omega) only [gg,hg0,decide_eq_false k0,decide_eq_false k1,decide_eq_true k2,c,lp_head,go_sem]|(refine br ?_ ?_<;>intro gg<;>try omega)|(apply And.intro;focus omega)|omega
  by_cases k3 : r.key = [112, 97, 116, 104]
  ·simp only [if_neg k0, if_neg k1, if_neg k2, if_pos k3, entCs, Bool.true_and, Bool.false_and] at ih
   have gg:=trivial;repeat' first|simp (maxSteps:=2000000) (disch:=omega) only [gg,hg0,decide_eq_false k0,decide_eq_false k1,decide_eq_false k2,decide_eq_true k3,lp_head,go_sem]|(refine br ?_ ?_<;>intro gg<;>try omega)|(apply And.intro;focus omega)|omega
  by_cases k4 : r.key = [117, 105, 100]
  ·simp only [if_neg k0, if_neg k1, if_neg k2, if_neg k3, if_pos k4, entCs, Bool.true_and, Bool.false_and] at ih
   have gg:=trivial;repeat' first|simp (maxSteps:=2000000) (disch:=omega) only [gg,hg0,decide_eq_false k0,decide_eq_false k1,decide_eq_false k2,decide_eq_false k3,decide_eq_true k4,c,lp_head,go_sem]|(refine br ?_ ?_<;>intro gg<;>try omega)|(apply And.intro;focus omega)|omega
  ·simp only [if_neg k0, if_neg k1, if_neg k2, if_neg k3, if_neg k4, entCs, Bool.and_false] at ih
   have gg:=trivial;repeat' first|simp (maxSteps:=2000000) (disch:=omega) only [gg,hg0,decide_eq_false k0,decide_eq_false k1,decide_eq_false k2,decide_eq_false k3,decide_eq_false k4,lp_head,go_sem]|(refine br ?_ ?_<;>intro gg<;>try omega)|(apply And.intro;focus omega)|omega
theorem h63 (b : BS) (rs : List Rcd) (hs : rs.length ≤ 1000000) (hb : ∀ r ∈ rs, RcdOk r) (A : Nat) (a : Int) (ha : a = A) (D : List UInt8) (q : Nat) (hq : q = D.length) (m : Nat) (hm : m = rs.length) (r0 : Ent × Bool) : ∀ (rest done : List Rcd) (e : Ent) (ok : Bool) (i : Int), e.data.l = D → rs = done ++ rest → i = done.length → r0 = toldR e ok rest →
  HD AA 0 [0, 2, 3, 4, 5, 6, 10, 11, 12] l63_0 ⟨[b.av, .junk, .ptr 0 0, .int .i64 0, .ptr 1 0, .int .i64 a, .own 2 2 0 m false, .junk, .junk, .junk, .ptr 3 0, .bool ok, .int .i64 i, .junk, .junk, .junk, .junk, .junk, .junk, .junk, .junk, .junk, .junk, .junk, .junk, .junk, .junk, .junk, .junk, .junk, .junk, .junk, .junk, .junk, .junk, .junk, .junk, .junk, .junk, .junk, .junk, .junk, .junk, .junk, .junk, .junk, .junk, .junk, .junk, .junk, .junk, .junk, .junk, .junk, .junk, .junk, .junk, .junk, .junk, .junk, .junk, .junk, .junk, .junk, .junk, .junk, .junk, .junk, .junk, .junk, .junk, .junk, .junk, .junk, .junk, .junk, .junk, .junk, .junk, .junk, .junk, .junk, .junk, .junk, .junk, .junk, .junk, .junk, .junk, .junk, .junk, .junk, .junk, .junk, .junk, .junk, .junk, .junk, .junk, .junk, .junk, .junk, .junk, .junk, .junk, .junk, .junk, .junk, .junk, .junk, .junk, .junk, .junk, .junk, .junk, .junk, .junk, .junk, .junk, .junk, .junk, .junk, .junk, .junk, .junk, .junk, .junk, .junk, .junk, .junk, .junk, .junk, .junk, .junk, .junk, .junk, .junk, .junk, .junk, .junk, .junk, .junk, .junk, .junk, .junk, .junk, .junk, .junk, .junk, .junk, .junk, .junk, .junk, .junk, .junk, .junk, .junk, .junk, .junk, .junk, .junk, .junk, .junk, .junk, .junk, .junk, .junk, .junk, .junk, .junk], [(0, .var z8), (1, .var z8), (2, .row (rs.map Rcd.av) 2), (3, .var (entCs e (.own 4 1 0 q false))), (4, .row (D.map .byte) 1)], 5⟩ S63 (Fin [(2, some (8, true)), (3, none)] 0 (enV (rrE r0 A)) (enH (rrE r0 A)))
 | [], done, e, ok, i, h1, h2, h3, h4 => by
  subst h2
  simp only [List.append_nil] at *
  simp only [toldR] at h4
  rw [h4]
  unfold rrE
  refine hd_of (by unfold l63_0; rfl) ?_
  cases ok with
  | true =>
   simp only [if_true, enV, enH, h1]
   have gg:=trivial;repeat' first|simp (maxSteps:=2000000) (disch:=omega) only [gg,r63_0,h1,hq,go_sem]|(refine br ?_ ?_<;>intro gg<;>try omega)|(apply And.intro;focus omega)|omega
   all_goals rw [ha]
  | false =>
   simp only [Bool.false_eq_true, if_false, enV, enH]
   have gg:=trivial;repeat' first|simp (maxSteps:=2000000) (disch:=omega) only [gg,r63_0,go_sem]|(refine br ?_ ?_<;>intro gg<;>try omega)|(apply And.intro;focus omega)|omega
 | r :: rest, done, e, ok, i, h1, h2, h3, h4 => by
  have hg0 : rs[i.toNat]? = some r := by
   rw [h2]
   simp [h3]
  have hl : i.toNat < rs.length := by rw [h2]; simp; omega
  have hv := (hb r (by simp [h2])).2
  unfold toldR at h4
  exact g63 b rs hs a D q m hm r hv e ok i (by omega) hl hg0 _ (h63 b rs hs hb A a ha D q hq m hm r0 rest (done ++ [r]) (tellR e r).1 (ok && (tellR e r).2) (i + 1) (by rw [tellR_data]; exact h1) (by simp [h2]) (by first | omega | (simp; omega) | (simp; done)) h4)
end Go.Abs
namespace Go.Abs
open Am
set_option maxRecDepth 10000
theorem sl_le (a : BS) (i j : Nat) : (a.sl i j).l.length ≤ a.l.length - i := by
 rw [BS.sl_l, List.length_take, List.length_drop]
 omega
theorem hdrR_lt {b : BS} (h : (rdH b).2.2 = true) : (hdrR b).l.length + 512 ≤ b.l.length := by
 unfold rdH at h
 by_cases c1 : b.l.length < 512 ∨ decOk (b.sl 0 512).l = false
 ·rw [if_pos c1] at h; cases h
 have c2 : ¬ b.l.length < 512 := fun hh => c1 (.inl hh)
 have c3 : ¬ decOk (b.sl 0 512).l = false := fun hh => c1 (.inr hh)
 unfold hdrR
 rw [if_neg c2, if_neg c3]
 have h1 := sl_le b 512 b.l.length
 split
 ·have h2 := sl_le (b.sl 512 b.l.length) (wholeN (decH (b.sl 0 512).l).size).toNat (b.sl 512 b.l.length).l.length
  omega
 ·omega
theorem decH_le (l : List UInt8) : (decH l).path.length ≤ 1000000 ∧ (decH l).link.length ≤ 1000000 := by
 have h1 := textF_le l 345 155
 have h2 := textF_le l 0 100
 have h3 := textF_le l 157 100
 unfold decH
 refine ⟨?_, by show (textF l 157 100).length ≤ _; omega⟩
 show (if textF l 345 155 = [] then textF l 0 100 else textF l 345 155 ++ [47] ++ textF l 0 100).length ≤ _
 split
 ·omega
 ·simp only [List.length_append, List.length_cons, List.length_nil]; omega
theorem rdH_le2 (b : BS) : (rdH b).1.path.length ≤ 1000000 ∧ (rdH b).1.link.length ≤ 1000000 := by
 unfold rdH
 split
 ·exact ⟨by decide, by decide⟩
 ·split <;> exact decH_le _
theorem tellE_le {e : Ent} {r : Rcd} (h1 : e.path.length ≤ 1000000) (h2 : e.link.length ≤ 1000000) (hr : RcdOk r) : (tellE e r).1.path.length ≤ 1000000 ∧ (tellE e r).1.link.length ≤ 1000000 := by
 have := hr.2
 unfold tellE
 repeat' split
 all_goals exact ⟨by first | exact h1 | exact hr.2, by first | exact h2 | exact hr.2⟩
theorem toldE_le : ∀ (rs : List Rcd) (e : Ent), e.path.length ≤ 1000000 → e.link.length ≤ 1000000 → (∀ r ∈ rs, RcdOk r) → (toldE e rs).1.path.length ≤ 1000000 ∧ (toldE e rs).1.link.length ≤ 1000000
 | [], e, h1, h2, _ => ⟨h1, h2⟩
 | r :: rs, e, h1, h2, h3 => by
  have ht := tellE_le h1 h2 (h3 r (by simp))
  unfold toldE
  split
  ·exact toldE_le rs _ ht.1 ht.2 fun x hx => h3 x (by simp [hx])
  ·exact ht
theorem entP_ok {b : BS} {e : Ent} {r : BS} (h : entP b = some (e, r)) : (e.path.length ≤ 1000000 ∧ e.link.length ≤ 1000000) ∧ (∃ l, e.data = .mk false false l ∧ l.length ≤ b.l.length) ∧ r.l.length + 512 ≤ b.l.length := by
 unfold entP at h
 by_cases c0 : (rdH b).2.2 = false
 ·rw [if_pos c0] at h; cases h
 rw [if_neg c0] at h
 have c0 : (rdH b).2.2 = true := by simpa using c0
 have hr := hdrR_lt c0
 by_cases c1 : (rdH b).1.type = 120
 ·rw [if_pos c1] at h
  cases c2 : paxD (rdH b).2.1.l with
  | none => rw [c2] at h; cases h
  | some rs =>
   rw [c2] at h
   simp only at h
   by_cases c3 : (rdH (hdrR b)).2.2 = false
   ·rw [if_pos c3] at h; cases h
   rw [if_neg c3] at h
   have c3 : (rdH (hdrR b)).2.2 = true := by simpa using c3
   have hr2 := hdrR_lt c3
   have hp := rdH_le2 (hdrR b)
   have ht := toldE_le rs (mkE (rdH (hdrR b)).1) hp.1 hp.2 (paxD_ok c2).1
   by_cases c4 : (toldE (mkE (rdH (hdrR b)).1) rs).2 = true
   ·rw [if_pos c4] at h
    cases h
    have := rdH_le (hdrR b)
    exact ⟨ht, ⟨_, rfl, by omega⟩, by omega⟩
   ·rw [if_neg c4] at h; cases h
 ·rw [if_neg c1] at h
  cases h
  have hp := rdH_le2 b
  exact ⟨hp, ⟨_, rfl, rdH_le b⟩, hr⟩
/-- the entries of blocks -/
def readP : Nat → BS → List Ent → Option (List Ent)
 | 0, _, acc => some acc
 | k + 1, b, acc => if b.l = [] then some acc else
  match entP b with
  | none => none
  | some (e, r) => if acc.length = 200 then none else readP k r (acc ++ [e])
/-- is this what was read? -/
def finR (l : List UInt8) : Option (List Ent) → Option (List Ent)
 | none => none
 | some t => if (checkT (t.map Ent.cp)).2 = 0 ∧ writeL t = l then some t else none
/-- an archive's tree -/
def readE (b : BS) : Option (List Ent) := if b.l.length < 1024 then none else finR b.l (readP b.l.length (b.sl 0 (b.l.length - 1024)) [])
def readV : Option (List Ent) → AVal
 | none => .tuple [.lit (.slice none 0 0), .iface 58 (.int .i64 16)]
 | some [] => .tuple [.lit (.slice none 0 0), .lit .nilIface]
 | some (e :: r) => .tuple [.own 0 8 0 (e :: r).length false, .lit .nilIface]
def readH : Option (List Ent) → Heap
 | none => []
 | some [] => []
 | some (e :: r) => [(0, .row ((e :: r).map Ent.av) 8)]
theorem readV_ne {t : List Ent} (h : t ≠ []) : readV (some t) = .tuple [.own 0 8 0 t.length false, .lit .nilIface] ∧ readH (some t) = [(0, .row (t.map Ent.av) 8)] := by
 cases t with
 | nil => exact (h rfl).elim
 | cons x y => exact ⟨rfl, rfl⟩
/-- entries as they are read -/
def RdE (e : Ent) : Prop := e.path.length ≤ 1000000 ∧ e.link.length ≤ 1000000 ∧ ∃ l, e.data = .mk false false l ∧ l.length ≤ 1000000
theorem rdE_ok {e : Ent} (h : RdE e) : EntOk e := by
 obtain ⟨h1, h2, l, h3, h4⟩ := h
 exact ⟨h2, h1, by rw [h3]; simp only [BS.l]; omega, by rw [h3]; rfl⟩
theorem w17no (c tmp : Bool) (t : List Ent) (hne : t ≠ []) (hl : t.length ≤ 1000000) (hq : ∀ e ∈ t, RdE e) (he : (checkT (t.map Ent.cp)).2 ≠ 0) :
  callT AA 17 [.view 8 (t.map Ent.av) c tmp] [] = some (.tuple [.lit (.slice none 0 0), .iface 58 (.int .i64 (checkT (t.map Ent.cp)).2)], []) := by
 cases t with
 | nil => exact (hne rfl).elim
 | cons e r =>
  have h := s17no c tmp e r hl (fun x hx => rdE_ok (hq x hx)) he (fun x hx => by
   obtain ⟨_, _, l, h3, h4⟩ := hq x hx
   rw [h3]
   simp only [BS.l]
   omega)
  unfold errV at h
  rw [if_neg he] at h
  exact h
theorem w17 (c tmp : Bool) (t : List Ent) (hne : t ≠ []) (hl : t.length ≤ 200) (hq : ∀ e ∈ t, RdE e) (he : (checkT (t.map Ent.cp)).2 = 0) :
  callT AA 17 [.view 8 (t.map Ent.av) c tmp] [] = some (.tuple [.own 0 1 0 (writeL t).length false, .lit .nilIface], [(0, .row ((writeL t).map .byte) 1)]) := by
 cases t with
 | nil => exact (hne rfl).elim
 | cons e r => exact s17 c tmp e r hl (fun x hx => rdE_ok (hq x hx)) he (checkT_pieces he)
set_option maxHeartbeats 4000000 in
theorem h24 (b0 : BS) (hb0 : b0.l.length ≤ 1000000) (R : Option (List Ent)) : ∀ (k : Nat) (b : BS) (acc : List Ent) (q : Nat), acc ≠ [] → q = acc.length → acc.length ≤ 200 → b.l.length ≤ k → b.l.length ≤ 1000000 → (∀ e ∈ acc, RdE e) → R = finR b0.l (readP k b acc) →
  HD AA 0 [0, 2, 3, 4, 5] l24_0 ⟨[b0.av, .junk, .lit (.slice none 0 0), .lit .nilIface, .ptr 0 0, .own 1 8 0 q false, .junk, .junk, .junk, .junk, .junk, .junk, .junk, .junk, .junk, .junk, .junk, .junk, .junk, .junk, .junk, .junk, .junk, .junk, .junk, .junk, .junk, .junk, .junk, .junk, .junk, .junk, .junk, .junk, .junk, .junk, .junk, .junk, .junk, .junk, .junk, .junk, .junk, .junk, .junk, .junk, .junk, .junk, .junk, .junk, .junk, .junk, .junk, .junk, .junk, .junk, .junk, .junk, .junk], [(0, .var [b.av]), (1, .row (acc.map Ent.av) 8)], 2⟩ [.blk 0, .code r24_0] (Fin [(2, none), (3, none)] 0 (readV R) (readH R))
 | k, b, acc, q, h0, h1, h2, h3, h4, h5, h6 => by
  have et : (acc.map Ent.av).take q = acc.map Ent.av := List.take_of_length_le (by simp; omega)
  by_cases hl : b.l = []
  ·have hl0 : b.l.length = 0 := by rw [hl]; rfl
   have hr : readP k b acc = some acc := by
    cases k with
    | zero => rfl
    | succ k => unfold readP; rw [if_pos hl]
   rw [hr] at h6
   simp only [finR] at h6
   refine hd_of (by unfold l24_0; rfl) ?_
   by_cases hc : (checkT (acc.map Ent.cp)).2 = 0
   ·have hw := w17 false true acc h0 h2 h5 hc
    have hwl : (writeL acc).length ≤ 1000000000 := by
     have := outL_le acc 0 (checkT_pieces hc)
     unfold writeL
     rw [List.length_append, zeros1024_length]
     omega
    generalize writeL acc = W at *
    have hs := fun c t => s62v W c t b0
    by_cases hd : W = b0.l
    ·rw [if_pos ⟨hc, hd⟩] at h6
     rw [h6, (readV_ne h0).1, (readV_ne h0).2]
     have gg:=trivial;repeat' first|simp (maxSteps:=2000000) (disch:=omega) only [gg,r24_0,et,hw,hs,decide_eq_true hd,go_sem]|(refine br ?_ ?_<;>intro gg<;>try omega)|(apply And.intro;focus omega)|omega
     simp [h1]
    ·rw [if_neg (fun h => hd h.2)] at h6
     rw [h6]
     unfold readV readH
     have gg:=trivial;repeat' first|simp (maxSteps:=2000000) (disch:=omega) only [gg,r24_0,et,hw,hs,decide_eq_false hd,go_sem]|(refine br ?_ ?_<;>intro gg<;>try omega)|(apply And.intro;focus omega)|omega
   ·have hw := w17no false true acc h0 (by omega) h5 hc
    rw [if_neg (fun h => hc h.1)] at h6
    rw [h6]
    unfold readV readH
    have gg:=trivial;repeat' first|simp (maxSteps:=2000000) (disch:=omega) only [gg,r24_0,et,hw,go_sem]|(refine br ?_ ?_<;>intro gg<;>try omega)|(apply And.intro;focus omega)|omega
  ·have hl0 : 0 < b.l.length := by
    cases hz : b.l with
    | nil => exact (hl hz).elim
    | cons x y => simp
   match k, h3, h6 with
   | 0, h3, h6 => omega
   | k + 1, h3, h6 =>
    have hf := s61f b h4
    unfold EntR at hf
    unfold readP at h6
    rw [if_neg hl] at h6
    refine hd_of (by unfold l24_0; rfl) ?_
    cases hp : entP b with
    | none =>
     rw [hp] at hf h6
     simp only [finR] at h6
     rw [h6]
     unfold readV readH
     rcases hf with ⟨e, r, hf⟩ | ⟨e, r, l, hf⟩
     ·simp only [entCs] at hf
      have gg:=trivial;repeat' first|simp (maxSteps:=2000000) (disch:=omega) only [gg,hf,lp_head,go_sem]|(refine br ?_ ?_<;>intro gg<;>try omega)|(apply And.intro;focus omega)|omega
     ·simp only [entCs] at hf
      have gg:=trivial;repeat' first|simp (maxSteps:=2000000) (disch:=omega) only [gg,hf,lp_head,go_sem]|(refine br ?_ ?_<;>intro gg<;>try omega)|(apply And.intro;focus omega)|omega
    | some er =>
     obtain ⟨e, r⟩ := er
     rw [hp] at hf h6
     obtain ⟨⟨p1, p2⟩, ⟨l, p3, p4⟩, p5⟩ := entP_ok hp
     simp only [p3, BS.l, entCs] at hf
     simp only at h6
     by_cases hq : acc.length = 200
     ·rw [if_pos hq] at h6
      simp only [finR] at h6
      rw [h6]
      unfold readV readH
      have gg:=trivial;repeat' first|simp (maxSteps:=2000000) (disch:=omega) only [gg,hf,lp_head,go_sem]|(refine br ?_ ?_<;>intro gg<;>try omega)|(apply And.intro;focus omega)|omega
     ·rw [if_neg hq] at h6
      have ih := h24 b0 hb0 R k r (acc ++ [e]) (q + 1) (by simp) (by simp [h1]) (by simp; omega) (by omega) (by omega) (by
       intro x hx
       rcases List.mem_append.1 hx with hx | hx
       ·exact h5 x hx
       ·rw [List.mem_singleton.1 hx]
        exact ⟨p1, p2, l, p3, by omega⟩) h6
      simp only [List.map_append, List.map_cons, List.map_nil, Ent.av, p3, mk_av] at ih et
      have gg:=trivial;repeat' first|simp (maxSteps:=2000000) (disch:=omega) only [gg,hf,et,lp_head,go_sem]|(refine br ?_ ?_<;>intro gg<;>try omega)|(apply And.intro;focus omega)|omega
set_option maxHeartbeats 4000000 in
theorem s24 (b : BS) (hb : b.l.length ≤ 1000000) : callT AA 24 [b.av] [] = some (readV (readE b), readH (readE b)) := by
 refine enter fn24 np24 rfl ?_
 generalize hR : readE b = R
 unfold readE at hR
 by_cases c0 : b.l.length < 1024
 ·rw [if_pos c0] at hR
  rw [← hR]
  unfold readV readH
  have gg:=trivial;repeat' first|simp (maxSteps:=2000000) (disch:=omega) only [gg,b24,go_sem]|(refine br ?_ ?_<;>intro gg<;>try omega)|(apply And.intro;focus omega)|omega
 rw [if_neg c0] at hR
 have e0 : ((b.l.length : Int) - 1024).toNat = b.l.length - 1024 := by omega
 have gg:=trivial;repeat' first|simp (maxSteps:=2000000) (disch:=omega) only [gg,b24,e0,lp_head,go_sem]|(refine br ?_ ?_<;>intro gg<;>try omega)|(apply And.intro;focus omega)|omega
 generalize hb1 : b.sl 0 (b.l.length - 1024) = b1 at *
 have hb2 : b1.l.length ≤ b.l.length := by
  have := sl_le b 0 (b.l.length - 1024)
  rw [hb1] at this
  omega
 obtain ⟨k, hk⟩ : ∃ k, b.l.length = k + 1 := ⟨b.l.length - 1, by omega⟩
 rw [hk] at hR
 unfold readP at hR
 refine hd_of (by unfold l24_0; rfl) ?_
 by_cases hl : b1.l = []
 ·have hl0 : b1.l.length = 0 := by rw [hl]; rfl
  rw [if_pos hl] at hR
  simp only [finR] at hR
  have hcn : (checkT (([] : List Ent).map Ent.cp)).2 = 0 := rfl
  have hwn : writeL [] = zeros1024 := rfl
  have hs := fun c t => s62v zeros1024 c t b
  have hz := zeros1024_take
  have hzl := zeros1024_length
  rw [hwn] at hR
  by_cases hd : zeros1024 = b.l
  ·rw [if_pos ⟨hcn, hd⟩] at hR
   rw [← hR]
   unfold readV readH
   have gg:=trivial;repeat' first|simp (maxSteps:=2000000) (disch:=omega) only [gg,r24_0,s17n,hs,decide_eq_true hd,hz,hzl,go_sem]|(refine br ?_ ?_<;>intro gg<;>try omega)|(apply And.intro;focus omega)|omega
  ·rw [if_neg (fun h => hd h.2)] at hR
   rw [← hR]
   unfold readV readH
   have gg:=trivial;repeat' first|simp (maxSteps:=2000000) (disch:=omega) only [gg,r24_0,s17n,hs,decide_eq_false hd,hz,hzl,go_sem]|(refine br ?_ ?_<;>intro gg<;>try omega)|(apply And.intro;focus omega)|omega
 ·have hl0 : 0 < b1.l.length := by
   cases hz : b1.l with
   | nil => exact (hl hz).elim
   | cons x y => simp
  rw [if_neg hl] at hR
  have hf := s61f b1 (by omega)
  unfold EntR at hf
  cases hp : entP b1 with
  | none =>
   rw [hp] at hf hR
   simp only [finR] at hR
   rw [← hR]
   unfold readV readH
   rcases hf with ⟨e, r, hf⟩ | ⟨e, r, l, hf⟩
   ·simp only [entCs] at hf
    have gg:=trivial;repeat' first|simp (maxSteps:=2000000) (disch:=omega) only [gg,hf,lp_head,go_sem]|(refine br ?_ ?_<;>intro gg<;>try omega)|(apply And.intro;focus omega)|omega
   ·simp only [entCs] at hf
    have gg:=trivial;repeat' first|simp (maxSteps:=2000000) (disch:=omega) only [gg,hf,lp_head,go_sem]|(refine br ?_ ?_<;>intro gg<;>try omega)|(apply And.intro;focus omega)|omega
  | some er =>
   obtain ⟨e, r⟩ := er
   rw [hp] at hf hR
   obtain ⟨⟨p1, p2⟩, ⟨l, p3, p4⟩, p5⟩ := entP_ok hp
   simp only [p3, BS.l, entCs] at hf
   simp only [List.length_nil, List.nil_append] at hR
   rw [if_neg (by omega)] at hR
   have ih := h24 b hb R k r [e] 1 (by simp) rfl (by simp) (by omega) (by omega) (by
    intro x hx
    rw [List.mem_singleton.1 hx]
    exact ⟨p1, p2, l, p3, by omega⟩) hR.symm
   simp only [List.map_cons, List.map_nil, Ent.av, p3, mk_av] at ih
   have gg:=trivial;repeat' first|simp (maxSteps:=2000000) (disch:=omega) only [gg,hf,lp_head,go_sem]|(refine br ?_ ?_<;>intro gg<;>try omega)|(apply And.intro;focus omega)|omega
end Go.Abs
namespace Go.Abs
open Am Lib
set_option maxRecDepth 100000
theorem kindB_of {t : UInt8} {z : Int} (hz : (t.toNat : Int) = z) : kindB t = if z = 49 then 4 else if z = 50 then 3 else if z = 48 then 2 else if z = 53 then 1 else 0 := by
 subst hz
 unfold kindB
 have h (k : UInt8) (n : Int) (hk : (k.toNat : Int) = n) : ((t.toNat : Int) = n) = (t = k) := by
  apply propext
  rw [← UInt8.toNat_inj]
  omega
 simp only [h 49 49 rfl, h 50 50 rfl, h 48 48 rfl, h 53 53 rfl]
set_option maxHeartbeats 40000000 in
theorem f63o (b : BS) (hb : b.l.length ≤ 1000000) (M : List Rcd) (hM : M ≠ []) (hMl : M.length ≤ 1000000) (hMb : ∀ r ∈ M, RcdOk r) (m : Nat) (hm : m = M.length) (A : Nat) (a : Int) (ha : a = A) (hA : A ≤ b.l.length) (R : Option (Ent × Nat)) (hR : R = match stR b.l A with | none => none | some (H, body, a2) => finE H body M a2) :
  HD AA 0 [0, 2, 3, 4, 5, 6] l63_1 ⟨[b.av, .junk, .ptr 0 0, .int .i64 0, .ptr 1 0, .int .i64 a, .own 2 2 0 m false, .junk, .junk, .junk, .junk, .junk, .junk, .junk, .junk, .junk, .junk, .junk, .junk, .junk, .junk, .junk, .junk, .junk, .junk, .junk, .junk, .junk, .junk, .junk, .junk, .junk, .junk, .junk, .junk, .junk, .junk, .junk, .junk, .junk, .junk, .junk, .junk, .junk, .junk, .junk, .junk, .junk, .junk, .junk, .junk, .junk, .junk, .junk, .junk, .junk, .junk, .junk, .junk, .junk, .junk, .junk, .junk, .junk, .junk, .junk, .junk, .junk, .junk, .junk, .junk, .junk, .junk, .junk, .junk, .junk, .junk, .junk, .junk, .junk, .junk, .junk, .junk, .junk, .junk, .junk, .junk, .junk, .junk, .junk, .junk, .junk, .junk, .junk, .junk, .junk, .junk, .junk, .junk, .junk, .junk, .junk, .junk, .junk, .junk, .junk, .junk, .junk, .junk, .junk, .junk, .junk, .junk, .junk, .junk, .junk, .junk, .junk, .junk, .junk, .junk, .junk, .junk, .junk, .junk, .junk, .junk, .junk, .junk, .junk, .junk, .junk, .junk, .junk, .junk, .junk, .junk, .junk, .junk, .junk, .junk, .junk, .junk, .junk, .junk, .junk, .junk, .junk, .junk, .junk, .junk, .junk, .junk, .junk, .junk, .junk, .junk, .junk, .junk, .junk, .junk, .junk, .junk, .junk, .junk, .junk, .junk, .junk, .junk, .junk], [(0, .var z8), (1, .var z8), (2, .row (M.map Rcd.av) 2)], 3⟩ [.blk 0] (Fin [(2, some (8, true)), (3, none)] 0 (enV R) (enH R)) := by
 have hm0 : 0 < m := by rw [hm]; exact List.length_pos_iff.2 hM
 by_cases h1 : (b.l.length : Int) - A < 512
 ·have hR : R = none := by rw [hR]; unfold stR; rw [if_pos h1]
  rw [hR]
  refine hd_of (by unfold l63_1; rfl) ?_
  unfold enV enH
  have gg:=trivial;repeat' first|simp (maxSteps:=2000000) (disch:=omega) only [gg,go_sem]|(refine br ?_ ?_<;>intro gg<;>try omega)|(apply And.intro;focus omega)|omega
 have e1 : (b.sl a.toNat (a + 512).toNat).l = (b.l.drop A).take 512 := by
  rw [BS.sl_l]
  have : a.toNat = A := by omega
  rw [this]
  congr 1
  omega
 have en : (a + 512).toNat = A + 512 := by omega
 have ean : a.toNat = A := by omega
 have c104 := s104 (b.sl A (A + 512)) (by rw [BS.sl_l]; simp; omega)
 have e1' : (b.sl A (A + 512)).l = (b.l.drop A).take 512 := by
  rw [BS.sl_l, Nat.add_sub_cancel_left]
 rw [e1'] at c104
 generalize hH : decH ((b.l.drop A).take 512) = H at *
 cases hd : decOk ((b.l.drop A).take 512) with
 | false =>
  have hR : R = none := by rw [hR]; unfold stR; rw [if_neg h1, if_pos hd]
  rw [hd, if_neg (by simp)] at c104
  simp only [hd0, Hd.av] at c104
  rw [hR]
  refine hd_of (by unfold l63_1; rfl) ?_
  unfold enV enH
  have gg:=trivial;repeat' first|simp (maxSteps:=2000000) (disch:=omega) only [gg,ean,en,c104,go_sem]|(refine br ?_ ?_<;>intro gg<;>try omega)|(apply And.intro;focus omega)|omega
 | true =>
  rw [hd, if_pos rfl] at c104
  have hfit : FitsH H := by
   unfold decOk at hd
   simp only [Bool.and_eq_true] at hd
   rw [hH] at hd
   exact (encOk_parts hd.1).2
  obtain ⟨z0, z1⟩ := hfit.size
  have c105 := s105 H.size z0 (by omega)
  generalize hw : (H.size + 511) / 512 * 512 = w at *
  have hw0 : H.size ≤ w ∧ 0 ≤ w := by omega
  by_cases h2 : (b.l.length : Int) - (A + 512) < w
  ·have hR : R = none := by
    rw [hR]; unfold stR
    rw [if_neg h1, hH, hw, if_neg (by rw [hd]; simp), if_pos h2]
   rw [hR]
   obtain ⟨p, md, u, g, sz, tm, ty, lk⟩ := H
   simp only [Hd.av] at *
   refine hd_of (by unfold l63_1; rfl) ?_
   unfold enV enH
   have gg:=trivial;repeat' first|simp (maxSteps:=2000000) (disch:=omega) only [gg,ean,en,c104,c105,go_sem]|(refine br ?_ ?_<;>intro gg<;>try omega)|(apply And.intro;focus omega)|omega
  ·have hst : stR b.l A = some (H, (b.l.drop (A + 512)).take H.size.toNat, A + 512 + w.toNat) := by
    unfold stR
    rw [if_neg h1, hH, hw, if_neg (by rw [hd]; simp), if_neg h2]
   rw [hst] at hR
   simp only at hR
   have e3 : (b.sl (A + 512) (A + 512 + H.size.toNat)).l = (b.l.drop (A + 512)).take H.size.toNat := by
    rw [BS.sl_l, Nat.add_sub_cancel_left]
   have e4 : (a + 512 + H.size).toNat = A + 512 + H.size.toNat := by omega
   obtain ⟨body, hbd⟩ : ∃ body, (b.l.drop (A + 512)).take H.size.toNat = body := ⟨_, rfl⟩
   rw [hbd] at hR e3
   have hbl : body.length = H.size.toNat := by rw [← hbd]; simp; omega
   have hh := fun e he0 => h63 b M hMl hMb (A + 512 + w.toNat) (a + 512 + w) (by omega) body H.size.toNat hbl.symm m hm (toldR (mkR H body) true M) M [] e true 0 he0 rfl rfl
   have hh := hh (mkR H body) rfl rfl
   have hR2 : rrE (toldR (mkR H body) true M) (A + 512 + w.toNat) = R := by rw [hR]; rfl
   rw [hR2] at hh
   obtain ⟨p, md, u, g, sz, tm, ty, lk⟩ := H
   simp only [Hd.av, mkR, entCs] at *
   clear hR hR2 hst hH hd
   have hk := fun z hz => kindB_of (t := ty) (z := z) hz
   generalize kindB ty = K at *
   generalize (ty.toNat : Int) = T at *
   unfold S63 at hh
   refine hd_of (by unfold l63_1; rfl) ?_
   have hK := hk T rfl
   clear hk
   by_cases k1 : T = 49
   ·subst k1
    simp at hK
    subst hK
    have gg:=trivial;repeat' first|simp (maxSteps:=2000000) (disch:=omega) only [gg,ean,en,e4,c104,c105,e3,hbl,lp_head,go_sem]|(refine br ?_ ?_<;>intro gg<;>try omega)|(apply And.intro;focus omega)|omega
   by_cases k2 : T = 50
   ·subst k2
    simp at hK
    subst hK
    have gg:=trivial;repeat' first|simp (maxSteps:=2000000) (disch:=omega) only [gg,ean,en,e4,c104,c105,e3,hbl,lp_head,go_sem]|(refine br ?_ ?_<;>intro gg<;>try omega)|(apply And.intro;focus omega)|omega
   by_cases k3 : T = 48
   ·subst k3
    simp at hK
    subst hK
    have gg:=trivial;repeat' first|simp (maxSteps:=2000000) (disch:=omega) only [gg,ean,en,e4,c104,c105,e3,hbl,lp_head,go_sem]|(refine br ?_ ?_<;>intro gg<;>try omega)|(apply And.intro;focus omega)|omega
   by_cases k4 : T = 53
   ·subst k4
    simp at hK
    subst hK
    have gg:=trivial;repeat' first|simp (maxSteps:=2000000) (disch:=omega) only [gg,ean,en,e4,c104,c105,e3,hbl,lp_head,go_sem]|(refine br ?_ ?_<;>intro gg<;>try omega)|(apply And.intro;focus omega)|omega
   ·rw [if_neg k1, if_neg k2, if_neg k3, if_neg k4] at hK
    subst hK
    by_cases k5 : T = 120
    ·subst k5
     have gg:=trivial;repeat' first|simp (maxSteps:=2000000) (disch:=omega) only [gg,ean,en,e4,c104,c105,e3,hbl,lp_head,go_sem]|(refine br ?_ ?_<;>intro gg<;>try omega)|(apply And.intro;focus omega)|omega
    ·have gg:=trivial;repeat' first|simp (maxSteps:=2000000) (disch:=omega) only [gg,ean,en,e4,c104,c105,e3,hbl,lp_head,go_sem]|(refine br ?_ ?_<;>intro gg<;>try omega)|(apply And.intro;focus omega)|omega
end Go.Abs
namespace Go.Abs
open Am Lib
set_option maxRecDepth 100000
theorem cut_rcd_le (line : List UInt8) (n : Nat) : ∀ (k i : Nat), (cutS line n k i).1.key.length ≤ line.length ∧ (cutS line n k i).1.value.length ≤ line.length
 | 0, i => by simp [cutS, rcd0]
 | k + 1, i => by
  unfold cutS
  split
  ·unfold cutAt
   simp
   omega
  ·exact cut_rcd_le line n k (i + 1)
theorem decQ_le : ∀ (k : Nat) (p : Option Rcd) (acc M : List Rcd) (l : List UInt8), decQ k p acc l = some M → l.length ≤ 1000000 → (∀ r ∈ acc, RcdOk r) → acc.length + l.length ≤ 1000000 → (∀ r ∈ M, RcdOk r) ∧ M.length ≤ 1000000
 | 0, p, acc, M, l, h, _, h2, h3 => by
  cases h
  exact ⟨h2, by omega⟩
 | k + 1, p, acc, M, l, h, h1, h2, h3 => by
  unfold decQ at h
  split at h
  ·cases h
   exact ⟨h2, by omega⟩
  split at h
  ·cases h
  rename_i hne hc
  split at h
  ·cases h
  split at h
  ·cases h
  have hd := dgR_le 6 0 0 l (by omega) (by simp)
  have hp := cut_rcd_le (l.take (dgR 6 0 0 l).2.toNat) (dgR 6 0 0 l).1 ((l.take (dgR 6 0 0 l).2.toNat).length - 1 - ((dgR 6 0 0 l).1 + 1)) ((dgR 6 0 0 l).1 + 1)
  have ht : (l.take (dgR 6 0 0 l).2.toNat).length ≤ l.length := by simp; omega
  refine decQ_le k _ _ M _ h (by simp; omega) (fun r hr => ?_) (by simp; omega)
  rcases List.mem_append.1 hr with hr | hr
  ·exact h2 r hr
  ·rw [List.mem_singleton.1 hr]
   unfold cutR
   exact ⟨by omega, by omega⟩
theorem paxQ_le {l : List UInt8} {M : List Rcd} (h : paxQ l = some M) : (∀ r ∈ M, RcdOk r) ∧ M.length ≤ 1000000 := by
 unfold paxQ at h
 split at h
 ·cases h
 ·exact decQ_le _ _ _ _ _ h (by omega) (by simp) (by simp; omega)
/-- the parts of the first header -/
def entK (b : List UInt8) (H : Hd) (body : List UInt8) (a : Nat) : Option (Ent × Nat) := if H.type = 120 then (match paxQ body with
   | none => none
   | some [] => none
   | some (r :: rs) => match stR b a with
    | none => none
    | some (H2, body2, a2) => finE H2 body2 (r :: rs) a2)
  else finE H body [] a
theorem entR_none {b : List UInt8} (h : stR b 0 = none) : entR b = none := by
 unfold entR
 rw [h]
theorem entR_some {b : List UInt8} {H : Hd} {body : List UInt8} {a : Nat} (h : stR b 0 = some (H, body, a)) : entR b = entK b H body a := by
 unfold entR
 rw [h]
 rfl
theorem finE_nil (H : Hd) (body : List UInt8) (a : Nat) : finE H body [] a = some (mkR H body, a) := rfl
set_option maxHeartbeats 40000000 in
theorem f63n (b : BS) (hb : b.l.length ≤ 1000000) :
  HD AA 0 [0, 2, 3, 4, 5, 6] l63_1 ⟨[b.av, .junk, .ptr 0 0, .int .i64 0, .ptr 1 0, .int .i64 0, .lit (.slice none 0 0), .junk, .junk, .junk, .junk, .junk, .junk, .junk, .junk, .junk, .junk, .junk, .junk, .junk, .junk, .junk, .junk, .junk, .junk, .junk, .junk, .junk, .junk, .junk, .junk, .junk, .junk, .junk, .junk, .junk, .junk, .junk, .junk, .junk, .junk, .junk, .junk, .junk, .junk, .junk, .junk, .junk, .junk, .junk, .junk, .junk, .junk, .junk, .junk, .junk, .junk, .junk, .junk, .junk, .junk, .junk, .junk, .junk, .junk, .junk, .junk, .junk, .junk, .junk, .junk, .junk, .junk, .junk, .junk, .junk, .junk, .junk, .junk, .junk, .junk, .junk, .junk, .junk, .junk, .junk, .junk, .junk, .junk, .junk, .junk, .junk, .junk, .junk, .junk, .junk, .junk, .junk, .junk, .junk, .junk, .junk, .junk, .junk, .junk, .junk, .junk, .junk, .junk, .junk, .junk, .junk, .junk, .junk, .junk, .junk, .junk, .junk, .junk, .junk, .junk, .junk, .junk, .junk, .junk, .junk, .junk, .junk, .junk, .junk, .junk, .junk, .junk, .junk, .junk, .junk, .junk, .junk, .junk, .junk, .junk, .junk, .junk, .junk, .junk, .junk, .junk, .junk, .junk, .junk, .junk, .junk, .junk, .junk, .junk, .junk, .junk, .junk, .junk, .junk, .junk, .junk, .junk, .junk, .junk, .junk, .junk, .junk, .junk, .junk], [(0, .var z8), (1, .var z8)], 2⟩ [.blk 0] (Fin [(2, some (8, true)), (3, none)] 0 (enV (entR b.l)) (enH (entR b.l))) := by
 by_cases h1 : (b.l.length : Int) < 512
 ·have hR : entR b.l = none := entR_none (by unfold stR; rw [if_pos (by simpa using h1)])
  rw [hR]
  refine hd_of (by unfold l63_1; rfl) ?_
  unfold enV enH
  have gg:=trivial;repeat' first|simp (maxSteps:=2000000) (disch:=omega) only [gg,Int.sub_zero,go_sem]|(refine br ?_ ?_<;>intro gg<;>try omega)|(apply And.intro;focus omega)|omega
 have c104 := s104 (b.sl 0 512) (by rw [BS.sl_l]; simp; omega)
 have e1' : (b.sl 0 512).l = b.l.take 512 := by rw [BS.sl_l]; simp
 rw [e1'] at c104
 generalize hH : decH (b.l.take 512) = H at *
 have hst0 : stR b.l 0 = if decOk (b.l.take 512) = false then none else if (b.l.length : Int) - 512 < (H.size + 511) / 512 * 512 then none else some (H, (b.l.drop 512).take H.size.toNat, 512 + ((H.size + 511) / 512 * 512).toNat) := by
  unfold stR
  rw [if_neg (by simpa using h1)]
  simp only [List.drop_zero, hH, Nat.zero_add, Int.natCast_zero, Int.zero_add]
 cases hd : decOk (b.l.take 512) with
 | false =>
  have hR : entR b.l = none := entR_none (by rw [hst0, if_pos hd])
  rw [hd, if_neg (by simp)] at c104
  simp only [hd0, Hd.av] at c104
  rw [hR]
  refine hd_of (by unfold l63_1; rfl) ?_
  unfold enV enH
  have gg:=trivial;repeat' first|simp (maxSteps:=2000000) (disch:=omega) only [gg,Int.sub_zero,c104,go_sem]|(refine br ?_ ?_<;>intro gg<;>try omega)|(apply And.intro;focus omega)|omega
 | true =>
  rw [hd, if_neg (by simp)] at hst0
  rw [hd, if_pos rfl] at c104
  have hfit : FitsH H := by
   unfold decOk at hd
   simp only [Bool.and_eq_true] at hd
   rw [hH] at hd
   exact (encOk_parts hd.1).2
  obtain ⟨z0, z1⟩ := hfit.size
  have c105 := s105 H.size z0 (by omega)
  generalize hw : (H.size + 511) / 512 * 512 = w at *
  have hw0 : H.size ≤ w ∧ 0 ≤ w := by omega
  by_cases h2 : (b.l.length : Int) - 512 < w
  ·have hR : entR b.l = none := entR_none (by rw [hst0, if_pos h2])
   rw [hR]
   obtain ⟨p, md, u, g, sz, tm, ty, lk⟩ := H
   simp only [Hd.av] at *
   refine hd_of (by unfold l63_1; rfl) ?_
   unfold enV enH
   have gg:=trivial;repeat' first|simp (maxSteps:=2000000) (disch:=omega) only [gg,Int.sub_zero,c104,c105,go_sem]|(refine br ?_ ?_<;>intro gg<;>try omega)|(apply And.intro;focus omega)|omega
  ·rw [if_neg h2] at hst0
   have hR := entR_some hst0
   have e3 : (b.sl 512 (512 + H.size.toNat)).l = (b.l.drop 512).take H.size.toNat := by
    rw [BS.sl_l, Nat.add_sub_cancel_left]
   have e4 : (512 + H.size).toNat = 512 + H.size.toNat := by omega
   obtain ⟨body, hbd⟩ : ∃ body, (b.l.drop 512).take H.size.toNat = body := ⟨_, rfl⟩
   rw [hbd] at hR e3
   have hbl : body.length = H.size.toNat := by rw [← hbd]; simp; omega
   have c106 := s106 (b.sl 512 (512 + H.size.toNat)) (by rw [e3, hbl]; omega)
   rw [e3] at c106
   by_cases hx : H.type = 120
   ·have hT : (H.type.toNat : Int) = 120 := by rw [hx]; rfl
    unfold entK at hR
    rw [if_pos hx] at hR
    obtain ⟨p, md, u, g, sz, tm, ty, lk⟩ := H
    simp only [Hd.av] at *
    rw [hT] at c104
    clear hst0 hH hd hx
    cases hq : paxQ body with
    | none =>
     rw [hq] at hR c106
     rw [hR]
     simp only [pqV, pdH] at c106
     refine hd_of (by unfold l63_1; rfl) ?_
     unfold enV enH
     have gg:=trivial;repeat' first|simp (maxSteps:=2000000) (disch:=omega) only [gg,Int.sub_zero,e4,c104,c105,c106,go_sem]|(refine br ?_ ?_<;>intro gg<;>try omega)|(apply And.intro;focus omega)|omega
    | some M =>
     obtain ⟨m1, m2⟩ := paxQ_le hq
     rw [hq] at hR c106
     cases M with
     | nil =>
      rw [hR]
      simp only [pqV, pdH] at c106
      refine hd_of (by unfold l63_1; rfl) ?_
      unfold enV enH
      have gg:=trivial;repeat' first|simp (maxSteps:=2000000) (disch:=omega) only [gg,Int.sub_zero,e4,c104,c105,c106,go_sem]|(refine br ?_ ?_<;>intro gg<;>try omega)|(apply And.intro;focus omega)|omega
     | cons r rs =>
      have f := f63o b hb (r :: rs) (by simp) m2 m1 _ rfl (512 + w.toNat) (512 + w) (by omega) (by omega) (entR b.l) hR
      simp only [pqV, pdH] at c106
      have hm0 : 0 < (r :: rs).length := by simp
      have et : ((r :: rs).map Rcd.av).take (r :: rs).length = (r :: rs).map Rcd.av := List.take_of_length_le (by simp)
      generalize r :: rs = M at *
      clear hR
      refine hd_of (by unfold l63_1; rfl) ?_
      have gg:=trivial;repeat' first|simp (maxSteps:=2000000) (disch:=omega) only [gg,Int.sub_zero,e4,c104,c105,c106,et,lp_head,go_sem]|(refine br ?_ ?_<;>intro gg<;>try omega)|(apply And.intro;focus omega)|omega
   ·unfold entK at hR
    rw [if_neg hx, finE_nil] at hR
    have hT : ¬ (H.type.toNat : Int) = 120 := by
     intro h
     apply hx
     rw [← UInt8.toNat_inj]
     have : (120 : UInt8).toNat = 120 := rfl
     omega
    rw [hR]
    obtain ⟨p, md, u, g, sz, tm, ty, lk⟩ := H
    simp only [Hd.av, mkR, entCs, enV, enH, mk_l] at *
    clear hR hst0 hH hd hx c106
    rw [hbl]
    have ew : ((512 + w.toNat : Nat) : Int) = 512 + w := by omega
    rw [ew]
    have hk := fun z hz => kindB_of (t := ty) (z := z) hz
    generalize kindB ty = K at *
    generalize (ty.toNat : Int) = T at *
    have hK := hk T rfl
    clear hk
    have ed : (body.map AVal.byte).take sz.toNat = body.map .byte := List.take_of_length_le (by simp; omega)
    by_cases k1 : T = 49
    ·subst k1
     simp at hK
     subst hK
     refine hd_of (by unfold l63_1; rfl) ?_
     have gg:=trivial;repeat' first|simp (maxSteps:=2000000) (disch:=omega) only [gg,Int.sub_zero,e4,c104,c105,e3,hbl,lp_head,go_sem]|(refine br ?_ ?_<;>intro gg<;>try omega)|(apply And.intro;focus omega)|omega
     refine hd_of (by unfold l63_0; rfl) ?_
     have gg:=trivial;repeat' first|simp (maxSteps:=2000000) (disch:=omega) only [gg,r63_0,ed,go_sem]|(refine br ?_ ?_<;>intro gg<;>try omega)|(apply And.intro;focus omega)|omega
    by_cases k2 : T = 50
    ·subst k2
     simp at hK
     subst hK
     refine hd_of (by unfold l63_1; rfl) ?_
     have gg:=trivial;repeat' first|simp (maxSteps:=2000000) (disch:=omega) only [gg,Int.sub_zero,e4,c104,c105,e3,hbl,lp_head,go_sem]|(refine br ?_ ?_<;>intro gg<;>try omega)|(apply And.intro;focus omega)|omega
     refine hd_of (by unfold l63_0; rfl) ?_
     have gg:=trivial;repeat' first|simp (maxSteps:=2000000) (disch:=omega) only [gg,r63_0,ed,go_sem]|(refine br ?_ ?_<;>intro gg<;>try omega)|(apply And.intro;focus omega)|omega
    by_cases k3 : T = 48
    ·subst k3
     simp at hK
     subst hK
     refine hd_of (by unfold l63_1; rfl) ?_
     have gg:=trivial;repeat' first|simp (maxSteps:=2000000) (disch:=omega) only [gg,Int.sub_zero,e4,c104,c105,e3,hbl,lp_head,go_sem]|(refine br ?_ ?_<;>intro gg<;>try omega)|(apply And.intro;focus omega)|omega
     refine hd_of (by unfold l63_0; rfl) ?_
     have gg:=trivial;repeat' first|simp (maxSteps:=2000000) (disch:=omega) only [gg,r63_0,ed,go_sem]|(refine br ?_ ?_<;>intro gg<;>try omega)|(apply And.intro;focus omega)|omega
    by_cases k4 : T = 53
    ·subst k4
     simp at hK
     subst hK
     refine hd_of (by unfold l63_1; rfl) ?_
     have gg:=trivial;repeat' first|simp (maxSteps:=2000000) (disch:=omega) only [gg,Int.sub_zero,e4,c104,c105,e3,hbl,lp_head,go_sem]|(refine br ?_ ?_<;>intro gg<;>try omega)|(apply And.intro;focus omega)|omega
     refine hd_of (by unfold l63_0; rfl) ?_
     have gg:=trivial;repeat' first|simp (maxSteps:=2000000) (disch:=omega) only [gg,r63_0,ed,go_sem]|(refine br ?_ ?_<;>intro gg<;>try omega)|(apply And.intro;focus omega)|omega
    ·rw [if_neg k1, if_neg k2, if_neg k3, if_neg k4] at hK
     subst hK
     refine hd_of (by unfold l63_1; rfl) ?_
     have gg:=trivial;repeat' first|simp (maxSteps:=2000000) (disch:=omega) only [gg,Int.sub_zero,e4,c104,c105,e3,hbl,lp_head,go_sem]|(refine br ?_ ?_<;>intro gg<;>try omega)|(apply And.intro;focus omega)|omega
     refine hd_of (by unfold l63_0; rfl) ?_
     have gg:=trivial;repeat' first|simp (maxSteps:=2000000) (disch:=omega) only [gg,r63_0,ed,go_sem]|(refine br ?_ ?_<;>intro gg<;>try omega)|(apply And.intro;focus omega)|omega
theorem s63 (b : BS) (hb : b.l.length ≤ 1000000) : callT AA 63 [b.av] [] = some (enV (entR b.l), enH (entR b.l)) := by
 have hh := f63n b hb
 refine enter fn63 np63 rfl ?_
 have gg:=trivial;repeat' first|simp (maxSteps:=2000000) (disch:=omega) only [gg,b63,lp_head,go_sem]|(refine br ?_ ?_<;>intro gg<;>try omega)|(apply And.intro;focus omega)|omega
end Go.Abs
namespace Go.Abs
open Am
set_option maxRecDepth 10000
theorem pad_whole (l : List UInt8) : ((padL l).length : Int) = wholeN l.length := by
 rw [padL_length]
 unfold padN wholeN
 omega
/-- a header and its bytes are read -/
theorem rd_block {b : BS} {h : Hd} {body rest : List UInt8} (hb : b.l = encB h ++ (padL body ++ rest)) (hok : encOk h = true) (hs : h.size = body.length) :
  (rdH b).1 = h ∧ (rdH b).2.1.l = body ∧ (rdH b).2.2 = true ∧ (hdrR b).l = rest := by
 have hl := encB_length h
 have hp := pad_whole body
 have hp2 := padL_length body
 have hbl : b.l.length = 512 + (padL body).length + rest.length := by rw [hb]; simp [hl]; omega
 have h0 : (b.sl 0 512).l = encB h := by
  rw [BS.sl_l, hb]
  simp only [List.drop_zero, Nat.sub_zero]
  exact List.take_left' hl
 have h1 : (b.sl 512 b.l.length).l = padL body ++ rest := by
  rw [BS.sl_l, List.take_of_length_le (by simp), hb]
  exact List.drop_left' hl
 have hd := decOk_encB hok
 have hdh := decH_encB hok
 have c1 : ¬ (b.l.length < 512 ∨ decOk (b.sl 0 512).l = false) := by
  rw [h0, hd]
  simp
  omega
 have c2 : wholeN h.size ≤ (b.sl 512 b.l.length).l.length := by
  rw [h1, List.length_append, hs]
  omega
 refine ⟨?_, ?_, ?_, ?_⟩
 ·unfold rdH
  rw [if_neg c1, h0, hdh, if_pos c2]
 ·unfold rdH
  rw [if_neg c1, h0, hdh, if_pos c2]
  simp only []
  rw [BS.sl_l, h1, hs]
  simp only [List.drop_zero, Nat.sub_zero, Int.toNat_natCast]
  unfold padL
  rw [List.append_assoc]
  exact List.take_left' rfl
 ·unfold rdH
  rw [if_neg c1, h0, hdh, if_pos c2]
 ·unfold hdrR
  rw [if_neg (by omega), h0, hd, if_neg (by simp), hdh, if_pos c2, BS.sl_l, h1, hs, List.take_of_length_le (by simp)]
  refine List.drop_left' ?_
  omega
/-- an entry as it is read -/
def rdEnt (e : Ent) : Ent := { e with data := .mk false false e.data.l }
theorem kind_type {k : Int} (h : k = 1 ∨ k = 2 ∨ k = 3 ∨ k = 4) : kindB (typeB k) = k ∧ typeB k ≠ 120 := by
 rcases h with rfl | rfl | rfl | rfl <;> decide
theorem told_back {e : Ent} (hf : FieldsOk e) (d : BS) : toldE ⟨if (splitN e.path).2.2 then e.path else paxB, e.kind, e.mode, if idB e.uid then e.uid else 0, if idB e.gid then e.gid else 0, if timeB e.time then e.time else 0, if linkE e.link then e.link else paxB, d⟩ (recsE e) = (⟨e.path, e.kind, e.mode, e.uid, e.gid, e.time, e.link, d⟩, true) := by
 have g := atoiV_itoa (n := e.gid) (by have := hf.gid; omega) (by have := hf.gid; omega)
 have u := atoiV_itoa (n := e.uid) (by have := hf.uid; omega) (by have := hf.uid; omega)
 have t := atoiV_itoa (n := e.time) (by have := hf.time; omega) (by have := hf.time; omega)
 unfold recsE rst3 rst4 rst5 rst6 rst7
 cases idB e.gid <;> cases linkE e.link <;> cases timeB e.time <;> cases (splitN e.path).2.2 <;> cases idB e.uid <;> simp [recIf, toldE, tellE, gidB, linkpathB, mtimeB, pathB, uidB, g, u, t]
/-- a piece is read -/
theorem entP_piece {b : BS} {n : Nat} {e : Ent} {rest : List UInt8} (hb : b.l = pieceL n e ++ rest) (hok : pieceOk n e) (hf : FieldsOk e) : ∃ r : BS, entP b = some (rdEnt e, r) ∧ r.l = rest := by
 have hk : e.kind = 1 ∨ e.kind = 2 ∨ e.kind = 3 ∨ e.kind = 4 := by
  rcases hf.kinds with h | h | h | h
  ·exact .inl h.1
  ·exact .inr (.inl h.1)
  ·exact .inr (.inr (.inl h.1))
  ·exact .inr (.inr (.inr h.1))
 obtain ⟨k1, k2⟩ := kind_type hk
 have hsz : (hdrE e (recsE e)).size = e.data.l.length := by rw [hdrE_eq]
 have hty : (hdrE e (recsE e)).type = typeB e.kind := by rw [hdrE_eq]
 have hmk : mkE (hdrE e (recsE e)) = ⟨if (splitN e.path).2.2 then e.path else paxB, e.kind, e.mode, if idB e.uid then e.uid else 0, if idB e.gid then e.gid else 0, if timeB e.time then e.time else 0, if linkE e.link then e.link else paxB, .nil⟩ := by
  unfold mkE
  rw [hdrE_eq]
  simp only [k1]
 have htold := told_back hf .nil
 obtain ⟨ok1, ok2⟩ := hok
 by_cases hr : recsE e = []
 ·have hp : pieceL n e = encB (hdrE e (recsE e)) ++ padL e.data.l := by
   unfold pieceL preE
   rw [if_pos hr, List.nil_append]
  rw [hp, List.append_assoc] at hb
  obtain ⟨r1, r2, r3, r4⟩ := rd_block hb ok1 hsz
  refine ⟨hdrR b, ?_, r4⟩
  unfold entP
  rw [if_neg (by rw [r3]; simp), r1, hty, if_neg k2, r2, hmk]
  rw [hr] at htold
  simp only [toldE, Prod.mk.injEq, and_true] at htold
  rw [htold]
  rfl
 ·obtain ⟨o1, o2⟩ := ok2 hr
  obtain ⟨body, hbo⟩ := Option.isSome_iff_exists.1 o1
  have hbe : bodyE e = body := by unfold bodyE; rw [hbo]; rfl
  have hp : pieceL n e = encB (hdX n body) ++ (padL body ++ (encB (hdrE e (recsE e)) ++ padL e.data.l)) := by
   unfold pieceL preE
   rw [if_neg hr, hbe]
   simp
  rw [hbe] at o2
  have hb1 : b.l = encB (hdX n body) ++ (padL body ++ (encB (hdrE e (recsE e)) ++ (padL e.data.l ++ rest))) := by
   rw [hb, hp]
   simp
  obtain ⟨r1, r2, r3, r4⟩ := rd_block hb1 o2 rfl
  obtain ⟨q1, q2, q3, q4⟩ := rd_block r4 ok1 hsz
  refine ⟨hdrR (hdrR b), ?_, q4⟩
  unfold entP
  rw [if_neg (by rw [r3]; simp), r1, if_pos (show (hdX n body).type = 120 from rfl), r2, paxD_paxE hbo]
  simp only []
  rw [if_neg (by rw [q3]; simp), q1, hmk, htold, q2]
  rfl
theorem readP_out : ∀ (t : List Ent) (i k : Nat) (b : BS) (acc : List Ent), b.l = outL i t → PiecesOk i t → (∀ e ∈ t, FieldsOk e) → b.l.length ≤ k → acc.length + t.length ≤ 200 → readP k b acc = some (acc ++ t.map rdEnt)
 | [], i, k, b, acc, hb, _, _, _, _ => by
  simp only [outL] at hb
  cases k with
  | zero => simp [readP]
  | succ k => simp [readP, hb]
 | e :: t, i, k, b, acc, hb, hp, hf, hk, hl => by
  obtain ⟨h1, h2, h3, h4⟩ := hp
  simp only [outL] at hb
  have hpl := pieceL_le h2 h3
  have hbl : b.l.length = (pieceL i e).length + (outL (i + 1) t).length := by rw [hb, List.length_append]
  obtain ⟨r, hr1, hr2⟩ := entP_piece hb h3 (hf e (by simp))
  obtain ⟨k, rfl⟩ : ∃ j, k = j + 1 := ⟨k - 1, by omega⟩
  have hne : b.l ≠ [] := by
   intro hh
   rw [hh] at hbl
   simp at hbl
   omega
  simp only [List.length_cons] at hl
  unfold readP
  rw [if_neg hne, hr1]
  simp only []
  rw [if_neg (by omega), readP_out t (i + 1) k r _ hr2 h4 (fun x hx => hf x (by simp [hx])) (by rw [hr2]; omega) (by simp; omega)]
  simp
theorem entryE_rd (c : Ck) {e f : Ent} (h1 : f.path = e.path) (h2 : f.kind = e.kind) (h3 : f.mode = e.mode) (h4 : f.uid = e.uid) (h5 : f.gid = e.gid) (h6 : f.time = e.time) (h7 : f.link = e.link) (h8 : f.data.l = e.data.l) : entryE c f = entryE c e := by
 have hf : fieldsB f = fieldsB e := by
  unfold fieldsB
  rw [h2, h3, h4, h5, h6, h7, h8]
 unfold entryE
 rw [hf, h1, h2, h7, h8]
/-- the same, their slices aside -/
def SameE (e f : Ent) : Prop := f.path = e.path ∧ f.kind = e.kind ∧ f.mode = e.mode ∧ f.uid = e.uid ∧ f.gid = e.gid ∧ f.time = e.time ∧ f.link = e.link ∧ f.data.l = e.data.l
theorem entryE_same {c : Ck} {e f : Ent} (h : SameE e f) : entryE c f = entryE c e := entryE_rd c h.1 h.2.1 h.2.2.1 h.2.2.2.1 h.2.2.2.2.1 h.2.2.2.2.2.1 h.2.2.2.2.2.2.1 h.2.2.2.2.2.2.2
theorem checkL_map (g : Ent → Ent) (hg : ∀ e, SameE e (g e)) : ∀ (t : List Ent) (c : Ck) (i : Int), checkL c i (t.map g) = checkL c i t
 | [], c, i => rfl
 | e :: t, c, i => by
  simp only [List.map_cons, checkL]
  rw [entryE_same (hg e), checkL_map g hg t]
theorem checkT_map (g : Ent → Ent) (hg : ∀ e, SameE e (g e)) (t : List Ent) : checkT (t.map g) = checkT t := by
 unfold checkT
 rw [List.length_map, checkL_map g hg]
theorem same_cp (e : Ent) : SameE e e.cp := ⟨rfl, rfl, rfl, rfl, rfl, rfl, rfl, cp_l⟩
theorem same_rd (e : Ent) : SameE e (rdEnt e) := ⟨rfl, rfl, rfl, rfl, rfl, rfl, rfl, rfl⟩
theorem outL_rd : ∀ (t : List Ent) (i : Nat), outL i (t.map rdEnt) = outL i t
 | [], _ => rfl
 | e :: t, i => by
  simp only [List.map_cons, outL]
  rw [outL_rd t]
  rfl
theorem writeL_rd (t : List Ent) : writeL (t.map rdEnt) = writeL t := by
 unfold writeL
 rw [outL_rd]
/-- THERE AND BACK: a tree's archive is read as that tree -/
theorem readE_writeL (c tmp : Bool) {t : List Ent} (h : (checkT t).2 = 0) : readE (.mk c tmp (writeL t)) = some (t.map rdEnt) := by
 obtain ⟨hl, hg⟩ := checkT_good h
 have hp : PiecesOk 0 t := piecesOk_of t 0 (by omega) hg
 have hf : ∀ e ∈ t, FieldsOk e := fun e he => fields_ok (hg e he).2
 have hwl : (writeL t).length = (outL 0 t).length + 1024 := by
  unfold writeL
  rw [List.length_append, zeros1024_length]
 unfold readE
 rw [if_neg (show ¬ (BS.mk c tmp (writeL t)).l.length < 1024 by rw [mk_l]; omega)]
 show finR (writeL t) (readP (writeL t).length ((BS.mk c tmp (writeL t)).sl 0 ((writeL t).length - 1024)) []) = _
 have hb : ((BS.mk c tmp (writeL t)).sl 0 ((writeL t).length - 1024)).l = outL 0 t := by
  rw [BS.sl_l]
  simp only [BS.l, List.drop_zero, Nat.sub_zero]
  unfold writeL
  rw [List.length_append, zeros1024_length]
  exact List.take_left' (by omega)
 rw [readP_out t 0 (writeL t).length _ [] hb hp hf (by rw [hb]; omega) (by simpa using hl)]
 simp only [List.nil_append, finR]
 rw [checkT_map Ent.cp same_cp, checkT_map rdEnt same_rd, writeL_rd, if_pos ⟨h, rfl⟩]
end Go.Abs
namespace Go.Abs
open Am Lib
theorem dgR_run (c : UInt8) (hc : (c.toNat : Int) < 48 ∨ 57 < (c.toNat : Int)) : ∀ (ds r : List UInt8) (j n : Nat) (a : Int), (∀ x ∈ ds, 48 ≤ (x.toNat : Int) ∧ (x.toNat : Int) ≤ 57) → ds.length < j → dgR j n a (ds ++ c :: r) = (n + ds.length, ds.foldl (fun a x => 10 * a + ((x.toNat : Int) - 48)) a)
 | [], r, 0, n, a, _, hj => by simp at hj
 | [], r, j + 1, n, a, _, _ => by
  unfold dgR
  simp only [List.nil_append]
  rw [if_neg (by omega)]
  rfl
 | x :: ds, r, 0, n, a, _, hj => by simp at hj
 | x :: ds, r, j + 1, n, a, hd, hj => by
  unfold dgR
  simp only [List.cons_append]
  rw [if_pos (hd x (by simp)), dgR_run c hc ds r j (n + 1) _ (fun y hy => hd y (by simp [hy])) (by simp at hj; omega)]
  simp only [List.foldl_cons, List.length_cons]
  congr 1
  omega
theorem dig_val {n : Int} : ((UInt8.ofNat (48 + n % 10).toNat).toNat : Int) - 48 = n % 10 := by
 have h : (UInt8.ofNat (48 + n % 10).toNat).toNat = (48 + n % 10).toNat := UInt8.toNat_ofNat_of_lt' (by simp [UInt8.size]; omega)
 rw [h]
 omega
theorem dec_fold : ∀ (k : Nat) (n : Int), 0 ≤ n → n < 10 ^ k → (Lib.decDigits n.toNat).foldl (fun a (x : UInt8) => 10 * a + ((x.toNat : Int) - 48)) 0 = n
 | 0, n, h0, h1 => by
  simp at h1
  have : n = 0 := by omega
  subst this
  rw [dec_small (by omega) (by omega)]
  simp only [List.foldl_cons, List.foldl_nil, dig_val]
  rfl
 | k + 1, n, h0, h1 => by
  by_cases hs : n < 10
  ·rw [dec_small h0 hs]
   simp only [List.foldl_cons, List.foldl_nil, dig_val]
   omega
  ·rw [dec_big h0 hs, List.foldl_append, dec_fold k (n / 10) (by omega) (by rw [Int.pow_succ] at h1; omega)]
   simp only [List.foldl_cons, List.foldl_nil, dig_val]
   omega
theorem dgR_itoa {N : Int} (h0 : 0 ≤ N) (h1 : N < 100000) (r : List UInt8) : dgR 6 0 0 (Lib.itoa N ++ 32 :: r) = ((Lib.itoa N).length, N) := by
 have e : Lib.itoa N = Lib.decDigits N.toNat := by
  rw [← itoa_nat]
  congr 1
  omega
 have hlen : (Lib.itoa N).length ≤ 5 := by
  have := digs_mono (a := N) (b := 99999) h0 (by omega)
  rw [digs_99999] at this
  unfold digs at this
  omega
 rw [e] at hlen ⊢
 rw [dgR_run 32 (by decide) _ _ _ _ _ (fun x hx => by have := dec_digit x hx; omega) (by omega), dec_fold 5 N h0 (by omega)]
 simp
theorem cutS_find (line : List UInt8) (n : Nat) : ∀ (k i m : Nat), m < k → line[i + m]? = some 61 → (∀ j, j < m → line[i + j]? ≠ some 61) → cutS line n k i = (cutAt line n (i + m), cutOk line (cutAt line n (i + m)))
 | 0, i, m, h, _, _ => by omega
 | k + 1, i, 0, _, h1, _ => by
  rw [Nat.add_zero] at h1
  simp only [Nat.add_zero]
  unfold cutS
  rw [if_pos h1]
 | k + 1, i, m + 1, h, h1, h2 => by
  have h0 := h2 0 (by omega)
  rw [Nat.add_zero] at h0
  unfold cutS
  rw [if_neg h0, cutS_find line n k (i + 1) m (by omega) (by rw [← h1]; congr 1; omega) (fun j hj => by
   have := h2 (j + 1) (by omega)
   rw [show i + (j + 1) = i + 1 + j by omega] at this
   exact this)]
  rw [show i + 1 + m = i + (m + 1) by omega]
theorem cutR_line {k v : List UInt8} (h : lineOk k v = true) : cutR (lineB k v) (Lib.itoa (paxLen (restP k v).length)).length = (⟨k, v⟩, true) := by
 have hlo := h
 unfold lineOk at h
 simp only [Bool.and_eq_true, decide_eq_true_eq] at h
 obtain ⟨⟨hk, hv⟩, hp⟩ := h
 have hrl := restP_length (k := k) (v := v)
 have hll : (lineB k v).length = (Lib.itoa (paxLen (restP k v).length)).length + (k.length + v.length + 3) := by
  unfold lineB
  rw [List.length_append, hrl]
 have hl : lineB k v = (Lib.itoa (paxLen (restP k v).length) ++ [32]) ++ (k ++ (61 :: (v ++ [10]))) := by
  unfold lineB restP
  simp
 generalize hD : Lib.itoa (paxLen (restP k v).length) = D at *
 have hLd : (D ++ [32]).length = D.length + 1 := by simp
 have hL2 : (D ++ [32] ++ k).length = D.length + 1 + k.length := by simp; omega
 have hl2 : lineB k v = (D ++ [32] ++ k) ++ (61 :: (v ++ [10])) := by rw [hl]; simp
 unfold cutR
 rw [cutS_find _ _ _ _ k.length (by omega)]
 ·have e : cutAt (lineB k v) D.length (D.length + 1 + k.length) = ⟨k, v⟩ := by
   unfold cutAt
   congr 1
   ·rw [hl]
    exact dt_mid hLd.symm (by omega)
   ·have e2 : lineB k v = (D ++ [32] ++ k ++ [61]) ++ (v ++ [10]) := by rw [hl2]; simp
    rw [hll]
    rw [e2]
    exact dt_mid (by simp; omega) (by omega)
  rw [e]
  unfold cutOk
  rw [hlo]
  simp
 ·rw [hl2, ← hL2, List.getElem?_append_right (Nat.le_refl _)]
  simp
 ·intro j hj
  rw [hl, ← hLd, List.getElem?_append_right (by omega), Nat.add_sub_cancel_left, List.getElem?_append_left hj]
  intro hh
  exact kw_ne hk _ (List.mem_of_getElem? hh) rfl
theorem decQ_enc : ∀ (rs : List Rcd) (p : Option Rcd) (out o : List UInt8), paxE p out rs = some o → ∃ L, o = out ++ L ∧ ∀ (k : Nat) (acc : List Rcd), L.length ≤ k → decQ k p acc L = some (acc ++ rs)
 | [], p, out, o, h => by
  unfold paxE at h
  cases h
  refine ⟨[], by simp, fun k acc _ => ?_⟩
  cases k <;> simp [decQ]
 | r :: rs, p, out, o, h => by
  unfold paxE at h
  by_cases hs : paxStep p out r = true
  ·rw [if_pos hs] at h
   obtain ⟨L, h1, h2⟩ := decQ_enc rs _ _ _ h
   unfold paxStep at hs
   simp only [Bool.and_eq_true, decide_eq_true_eq] at hs
   obtain ⟨⟨s1, s2⟩, s3⟩ := hs
   have hpos := lineB_pos (k := r.key) (v := r.value)
   have hlo := s1
   unfold lineOk at s1
   simp only [Bool.and_eq_true, decide_eq_true_eq] at s1
   obtain ⟨⟨hk, hv⟩, hp⟩ := s1
   have hkl : r.key.length ≤ 100 := by
    unfold kwB at hk
    simp only [Bool.and_eq_true, decide_eq_true_eq] at hk
    exact hk.1.2
   have hrl := restP_length (k := r.key) (v := r.value)
   have hN := lineB_len (k := r.key) (v := r.value) (by omega)
   have hpl := paxLen_le (rest := ((restP r.key r.value).length : Int)) (by omega) (by omega)
   have hcut := cutR_line hlo
   have hd : dgR 6 0 0 (lineB r.key r.value ++ L) = ((Lib.itoa (paxLen (restP r.key r.value).length)).length, paxLen (restP r.key r.value).length) := by
    have e : lineB r.key r.value ++ L = Lib.itoa (paxLen (restP r.key r.value).length) ++ 32 :: ((r.key ++ [61] ++ r.value ++ [10]) ++ L) := by
     unfold lineB restP
     simp
    rw [e]
    exact dgR_itoa (by omega) (by omega) _
   have hlt : (lineB r.key r.value).length = (Lib.itoa (paxLen (restP r.key r.value).length)).length + (restP r.key r.value).length := by
    unfold lineB
    rw [List.length_append]
   refine ⟨lineB r.key r.value ++ L, by rw [h1, List.append_assoc], fun k acc hk => ?_⟩
   rw [List.length_append] at hk
   obtain ⟨k, rfl⟩ : ∃ j, k = j + 1 := ⟨k - 1, by omega⟩
   unfold decQ
   have hne : lineB r.key r.value ++ L ≠ [] := by
    intro hh
    have := congrArg List.length hh
    rw [List.length_append] at this
    simp at this
    rw [this.1] at hpos
    cases hpos
   have e : (paxLen ((restP r.key r.value).length : Int)).toNat = (lineB r.key r.value).length := by omega
   rw [if_neg hne, hd]
   simp only []
   rw [e, List.take_left' rfl, List.drop_left' rfl, hcut]
   simp only []
   have ha : aftB p ⟨r.key, r.value⟩ = true := by
    cases p with
    | none => rfl
    | some p => exact s2
   rw [if_neg (by rw [List.length_append]; omega), if_neg (by simp), if_neg (by rw [ha]; simp), h2 k _ (by omega)]
   simp
  ·rw [if_neg hs] at h
   cases h
theorem paxQ_paxE {rs : List Rcd} {o : List UInt8} (h : paxE none [] rs = some o) : paxQ o = some rs := by
 have hl := paxE_le _ _ _ _ (by simp) h
 obtain ⟨L, h1, h2⟩ := decQ_enc rs none [] o h
 simp only [List.nil_append] at h1
 subst h1
 unfold paxQ
 rw [if_neg (by omega), h2 _ [] (Nat.le_refl _)]
 simp
theorem decR_run : ∀ (ds : List UInt8) (i : Nat) (a : Int), (∀ x ∈ ds, 48 ≤ (x.toNat : Int) ∧ (x.toNat : Int) ≤ 57) → i + ds.length ≤ 16 → decR i a ds = some (ds.foldl (fun a x => 10 * a + ((x.toNat : Int) - 48)) a)
 | [], i, a, _, _ => rfl
 | x :: ds, i, a, hd, hi => by
  have := hd x (by simp)
  simp only [List.length_cons] at hi
  unfold decR
  rw [if_neg (by omega), decR_run ds (i + 1) _ (fun y hy => hd y (by simp [hy])) (by omega)]
  rfl
theorem numR1_dec {n : Int} (h0 : 0 ≤ n) (h1 : n ≤ 1099511627776) (sg : Int) : numR1 sg (Lib.decDigits n.toNat) = (sg * n, true) := by
 have hl : (Lib.decDigits n.toNat).length ≤ 16 := by
  rw [Lib.decDigits_eq, List.length_map, List.length_range]
  have h2 : n.toNat ≤ 1099511627776 := by omega
  have := nDigits_mono h2
  have e : Lib.nDigits 1099511627776 = 13 := by decide +kernel
  omega
 have hne := dec_ne n.toNat
 unfold numR1
 rw [decR_run _ 0 0 (fun x hx => by have := dec_digit x hx; omega) (by omega), dec_fold 13 n h0 (by omega)]
 simp only [Prod.mk.injEq, decide_eq_true_eq, true_and]
 have : 0 < (Lib.decDigits n.toNat).length := List.length_pos_iff.2 hne
 omega
theorem numR_itoa {n : Int} (h0 : -1099511627776 ≤ n) (h1 : n ≤ 1099511627776) : numR (Lib.itoa n) = (n, true) := by
 unfold Lib.itoa
 by_cases hn : n < 0
 ·rw [if_pos hn]
  have := numR1_dec (n := -n) (by omega) (by omega) (-1)
  have e : n.natAbs = (-n).toNat := by omega
  rw [e]
  have e2 : ∀ r, numR (45 :: r) = numR1 (-1) r := fun r => by
   unfold numR
   exact if_pos (by decide)
  rw [e2, this]
  simp
 ·rw [if_neg hn]
  have := numR1_dec (n := n) (by omega) (by omega) 1
  cases hd : Lib.decDigits n.toNat with
  | nil => exact (dec_ne _ hd).elim
  | cons c r =>
   have hc := dec_digit (u := n.toNat) c (by rw [hd]; simp)
   have e2 : numR (c :: r) = numR1 1 (c :: r) := if_neg (by omega)
   rw [e2, ← hd, this]
   simp
end Go.Abs
namespace Go.Abs
open Am
set_option maxRecDepth 20000
theorem readP_rd : ∀ (k : Nat) (b : BS) (acc R : List Ent), readP k b acc = some R → (∀ e ∈ acc, RdE e) → acc.length ≤ 200 → b.l.length ≤ 1000000 → (∀ e ∈ R, RdE e) ∧ R.length ≤ 200
 | 0, b, acc, R, h, h1, h2, h3 => by
  simp only [readP, Option.some.injEq] at h
  subst h
  exact ⟨h1, h2⟩
 | k + 1, b, acc, R, h, h1, h2, h3 => by
  unfold readP at h
  split at h
  ·cases h
   exact ⟨h1, h2⟩
  ·cases hp : entP b with
   | none => rw [hp] at h; cases h
   | some er =>
    obtain ⟨e, r⟩ := er
    rw [hp] at h
    simp only at h
    obtain ⟨⟨p1, p2⟩, ⟨l, p3, p4⟩, p5⟩ := entP_ok hp
    split at h
    ·cases h
    ·rename_i hq
     refine readP_rd k r (acc ++ [e]) R h ?_ (by simp; omega) (by omega)
     intro x hx
     rcases List.mem_append.1 hx with hx | hx
     ·exact h1 x hx
     ·rw [List.mem_singleton.1 hx]
      exact ⟨p1, p2, l, p3, by omega⟩
theorem readE_rd {b : BS} {t : List Ent} (h : readE b = some t) (hb : b.l.length ≤ 1000000) : (∀ e ∈ t, RdE e) ∧ t.length ≤ 200 ∧ (checkT (t.map Ent.cp)).2 = 0 ∧ writeL t = b.l := by
 unfold readE at h
 split at h
 ·cases h
 ·cases hp : readP b.l.length (b.sl 0 (b.l.length - 1024)) [] with
  | none => rw [hp] at h; cases h
  | some R =>
   rw [hp] at h
   simp only [finR] at h
   split at h
   ·rename_i hc
    cases h
    have := readP_rd _ _ _ _ hp (by simp) (by simp) (by rw [BS.sl_l, List.length_take, List.length_drop]; omega)
    exact ⟨this.1, this.2, hc.1, hc.2⟩
   ·cases h
def marks : List UInt8 := [165, 90]
theorem map_marks (l : List UInt8) : l.map AVal.byte ++ [.int .u8 165, .int .u8 90] = (l ++ marks).map .byte := by
 rw [List.map_append]
 rfl
theorem s23 (b : BS) (hb : b.l.length ≤ 1000000) : callT AA 23 [b.av] [] = some (.own 0 1 0 b.l.length false, [(0, .row ((b.l ++ marks).map .byte) 1)]) := by
 refine enter fn23 np23 rfl ?_
 have gg:=trivial;repeat' first|simp (maxSteps:=2000000) (disch:=omega) only [gg,b23,map_marks,go_sem]|(refine br ?_ ?_<;>intro gg<;>try omega)|(apply And.intro;focus omega)|omega
end Go.Abs
namespace Go.Abs
open Am Lib
set_option maxRecDepth 20000
theorem recV_nil : recV [] = .lit (.slice none 0 0) := rfl
theorem recH_nil : recH [] = [] := rfl
theorem recV_cons {a : Rcd} {l : List Rcd} : recV (a :: l) = .own 0 2 0 (l.length + 1) false := rfl
theorem recH_cons {a : Rcd} {l : List Rcd} : recH (a :: l) = [(0, .row ((a :: l).map Rcd.av) 2)] := rfl
set_option maxHeartbeats 40000000 in
theorem s22 (e : Ent) (hb : EntB e) : callT AA 22 [e.av] [] = some (recV (recsE e), recH (recsE e)) := by
 have c1 := s57 e.path hb.2.2.2.2.2.2.2
 have c2 := s58 e.gid
 have c3 := s58 e.uid
 have c4 := s60 e.time
 have c5 := s59 e.link hb.2.2.2.2.2.2.1
 have d1 := s47 e.gid hb.1 hb.2.1
 have d2 := s47 e.uid hb.2.2.1 hb.2.2.2.1
 have d3 := s47 e.time hb.2.2.2.2.1 hb.2.2.2.2.2.1
 clear hb
 unfold recsE rst3 rst4 rst5 rst6 rst7
 obtain ⟨pa, kd, md, u, g, tm, lk, dt⟩ := e
 simp only at *
 generalize idB g = f1 at *
 generalize idB u = f2 at *
 generalize timeB tm = f3 at *
 generalize itoa g = G at *
 generalize itoa u = U at *
 generalize itoa tm = T at *
 generalize splitN pa = sp at *
 obtain ⟨sp1, sp2, f4⟩ := sp
 simp only at *
 refine enter fn22 np22 rfl ?_
 by_cases hl : lk = []
 ·have e0 : linkE lk = true := by rw [hl]; rfl
  have hz := decide_eq_true hl
  rw [e0]
  clear e0 hl c5
  cases f1 <;> cases f2 <;> cases f3 <;> cases f4
  all_goals
   simp only [recIf, if_true, Bool.false_eq_true, if_false, List.nil_append, List.cons_append, recV_nil, recV_cons, recH_nil, recH_cons, List.length_nil, List.length_cons]
   have gg:=trivial;repeat' first|simp (maxSteps:=2000000) (disch:=omega) only [gg,b22,c1,c2,c3,c4,d1,d2,d3,hz,gidB,linkpathB,mtimeB,pathB,uidB,go_sem]|(refine br ?_ ?_<;>intro gg<;>try omega)|(apply And.intro;focus omega)|omega
 ·rw [linkE_ne hl]
  have hz := decide_eq_false hl
  clear hl
  generalize linkB lk = f5 at *
  cases f1 <;> cases f2 <;> cases f3 <;> cases f4 <;> cases f5
  all_goals
   simp only [recIf, if_true, Bool.false_eq_true, if_false, List.nil_append, List.cons_append, recV_nil, recV_cons, recH_nil, recH_cons, List.length_nil, List.length_cons]
   have gg:=trivial;repeat' first|simp (maxSteps:=2000000) (disch:=omega) only [gg,b22,c1,c2,c3,c4,c5,d1,d2,d3,hz,gidB,linkpathB,mtimeB,pathB,uidB,go_sem]|(refine br ?_ ?_<;>intro gg<;>try omega)|(apply And.intro;focus omega)|omega
end Go.Abs
namespace Go.Abs
open Am Lib
set_option maxRecDepth 20000
theorem padN_zero {n : Nat} (h : padN n = 0) : n % 512 = 0 := by
 unfold padN at h
 omega
theorem padN_succ {n k : Nat} (h : padN n = k + 1) : n % 512 ≠ 0 ∧ padN (n + 1) = k := by
 unfold padN at *
 omega
theorem zs_succ (k : Nat) : zs (k + 1) = [0] ++ zs k := by rw [show k + 1 = 1 + k by omega, zs_add]; rfl
theorem h96 (r0 : List UInt8) : ∀ (k : Nat) (out : List UInt8) (q : Nat), q = out.length → out.length ≤ 2000000000 - k → padN out.length = k → r0 = out ++ zs k →
  HD AA 1 [0, 4] l96_0 ⟨[.own 1 1 0 q false, .junk, .junk, .junk, .lit (.slice none 0 0), .junk, .junk, .junk, .junk, .junk, .junk, .junk, .junk, .junk, .junk, .junk], [(1, .row (out.map .byte) 1)], 2⟩ [.blk 0, .code r96_0] (Fin [(4, none)] 1 (.own 1 1 0 r0.length false) [(1, .row (r0.map .byte) 1)])
 | 0, out, q, h1, h2, h3, h4 => by
  have hr : r0 = out := by simpa using h4
  have hm := padN_zero h3
  have e1 : (q : Int).tmod 512 = q % 512 := Int.tmod_eq_emod_of_nonneg (by omega)
  subst hr
  rw [← h1]
  refine hd_of (by unfold l96_0; rfl) ?_
  have gg:=trivial;repeat' first|simp (maxSteps:=2000000) (disch:=omega) only [gg,r96_0,e1,go_sem]|(refine br ?_ ?_<;>intro gg<;>try omega)|(apply And.intro;focus omega)|omega
 | k + 1, out, q, h1, h2, h3, h4 => by
  obtain ⟨hm, hm2⟩ := padN_succ h3
  have e1 : (q : Int).tmod 512 = q % 512 := Int.tmod_eq_emod_of_nonneg (by omega)
  have ih := h96 r0 k (out ++ [0]) (q + 1) (by simp [h1]) (by simp; omega) (by simpa using hm2) (by
   rw [h4, zs_succ]
   simp)
  have e : (out.map AVal.byte).take q = out.map .byte := List.take_of_length_le (by simp; omega)
  refine hd_of (by unfold l96_0; rfl) ?_
  have gg:=trivial;repeat' first|simp (maxSteps:=2000000) (disch:=omega) only [gg,e,e1,map_snoc,lp_head,go_sem]|(refine br ?_ ?_<;>intro gg<;>try omega)|(apply And.intro;focus omega)|omega
theorem padL_behind {out b : List UInt8} (h : out.length % 512 = 0) : padN (out ++ b).length = padN b.length ∧ out ++ padL b = (out ++ b) ++ zs (padN b.length) := by
 constructor
 ·unfold padN
  rw [List.length_append]
  omega
 ·simp [padL]
theorem s96 (out : List UInt8) (b : BS) (q : Nat) (hq : q = out.length) (ho : out.length ≤ 1000000000) (hb : b.l.length ≤ 100000000) (hm : out.length % 512 = 0) :
  callT AA 96 [.own 0 1 0 q false, b.av] [(0, .row (out.map .byte) 1)] = some (.own 1 1 0 (out ++ padL b.l).length false, [(1, .row ((out ++ padL b.l).map .byte) 1)]) := by
 obtain ⟨p1, p2⟩ := padL_behind (b := b.l) hm
 have pl := padN_lt b.l.length
 rw [p2]
 have hh := h96 (out ++ b.l ++ zs (padN b.l.length)) (padN b.l.length) (out ++ b.l) (q + b.l.length) (by simp [hq]) (by simp; omega) p1 rfl
 have e : (out.map AVal.byte).take q = out.map .byte := List.take_of_length_le (by simp; omega)
 generalize out ++ b.l ++ zs (padN b.l.length) = R at *
 refine enter fn96 np96 rfl ?_
 have gg:=trivial;repeat' first|simp (maxSteps:=2000000) (disch:=omega) only [gg,b96,e,← List.map_append,lp_head,go_sem]|(refine br ?_ ?_<;>intro gg<;>try omega)|(apply And.intro;focus omega)|omega
theorem h96o (bd : List UInt8) (r0 : List UInt8) : ∀ (k : Nat) (out : List UInt8) (q : Nat), q = out.length → out.length ≤ 2000000000 - k → padN out.length = k → r0 = out ++ zs k →
  HD AA 2 [0, 4] l96_0 ⟨[.own 2 1 0 q false, .junk, .junk, .junk, .lit (.slice none 0 0), .junk, .junk, .junk, .junk, .junk, .junk, .junk, .junk, .junk, .junk, .junk], [(1, .row (bd.map .byte) 1), (2, .row (out.map .byte) 1)], 4⟩ [.blk 0, .code r96_0] (Fin [(4, none)] 2 (.own 2 1 0 r0.length false) [(1, .row (bd.map .byte) 1), (2, .row (r0.map .byte) 1)])
 | 0, out, q, h1, h2, h3, h4 => by
  have hr : r0 = out := by simpa using h4
  have hm := padN_zero h3
  have e1 : (q : Int).tmod 512 = q % 512 := Int.tmod_eq_emod_of_nonneg (by omega)
  subst hr
  rw [← h1]
  refine hd_of (by unfold l96_0; rfl) ?_
  have gg:=trivial;repeat' first|simp (maxSteps:=2000000) (disch:=omega) only [gg,r96_0,e1,go_sem]|(refine br ?_ ?_<;>intro gg<;>try omega)|(apply And.intro;focus omega)|omega
 | k + 1, out, q, h1, h2, h3, h4 => by
  obtain ⟨hm, hm2⟩ := padN_succ h3
  have e1 : (q : Int).tmod 512 = q % 512 := Int.tmod_eq_emod_of_nonneg (by omega)
  have ih := h96o bd r0 k (out ++ [0]) (q + 1) (by simp [h1]) (by simp; omega) (by simpa using hm2) (by
   rw [h4, zs_succ]
   simp)
  have e : (out.map AVal.byte).take q = out.map .byte := List.take_of_length_le (by simp; omega)
  refine hd_of (by unfold l96_0; rfl) ?_
  have gg:=trivial;repeat' first|simp (maxSteps:=2000000) (disch:=omega) only [gg,e,e1,map_snoc,lp_head,go_sem]|(refine br ?_ ?_<;>intro gg<;>try omega)|(apply And.intro;focus omega)|omega
theorem s96o (out b : List UInt8) (q p : Nat) (hq : q = out.length) (hp : p = b.length) (ho : out.length ≤ 1000000000) (hb : b.length ≤ 100000000) (hm : out.length % 512 = 0) :
  callT AA 96 [.own 0 1 0 q false, .own 1 1 0 p false] [(0, .row (out.map .byte) 1), (1, .row (b.map .byte) 1)] = some (.own 2 1 0 (out ++ padL b).length false, [(1, .row (b.map .byte) 1), (2, .row ((out ++ padL b).map .byte) 1)]) := by
 obtain ⟨p1, p2⟩ := padL_behind (b := b) hm
 have pl := padN_lt b.length
 rw [p2]
 have hh := h96o b (out ++ b ++ zs (padN b.length)) (padN b.length) (out ++ b) (q + b.length) (by simp [hq]) (by simp; omega) p1 rfl
 have e : (out.map AVal.byte).take q = out.map .byte := List.take_of_length_le (by simp; omega)
 subst hp
 generalize out ++ b ++ zs (padN b.length) = R at *
 refine enter fn96 np96 rfl ?_
 have gg:=trivial;repeat' first|simp (maxSteps:=2000000) (disch:=omega) only [gg,b96,e,List.drop_zero,← List.map_append,lp_head,go_sem]|(refine br ?_ ?_<;>intro gg<;>try omega)|(apply And.intro;focus omega)|omega
end Go.Abs
namespace Go.Abs
open Am Lib
set_option maxRecDepth 20000
theorem s53 (out : List UInt8) (q : Nat) (hq : q = out.length) (ho : out.length ≤ 200000000) (hm : out.length % 512 = 0) (n : Int) (hn : 0 ≤ n) (hn' : n ≤ 1000000) (e : Ent) (hb : EntB e) (hk : e.kind = 1 ∨ e.kind = 2 ∨ e.kind = 3 ∨ e.kind = 4) (hd : e.data.l.length ≤ 1000000) (hok : pieceOk n e) :
  callT AA 53 [.own 0 1 0 q false, .int .i64 n, e.av] [(0, .row (out.map .byte) 1)] = some (.own 1 1 0 (out ++ pieceL n e).length false, [(1, .row ((out ++ pieceL n e).map .byte) 1)]) := by
 have h22 := s22 e hb
 have h97 := s97 e hb.2.2.2.2.2.2.2 hb.2.2.2.2.2.2.1 hk
 have hpl := fold_le (recsE e) (hdE e) hb.2.2.2.2.2.2.2 hb.2.2.2.2.2.2.1
 have h95 := s95 (hdrE e (recsE e)) hpl.1 hpl.2 hok.1
 have hl0 := encB_length (hdrE e (recsE e))
 have hpn := padN_lt e.data.l.length
 have hpe := padL_length e.data.l
 by_cases h0 : recsE e = []
 ·have e1 : pieceL n e = encB (hdrE e (recsE e)) ++ padL e.data.l := by
   unfold pieceL preE
   rw [if_pos h0, List.nil_append]
  rw [e1]
  rw [h0, recV_nil, recH_nil] at h22
  generalize hH : hdrE e (recsE e) = H at *
  generalize hB : encB H = B at *
  have h96 := s96 (out ++ B) e.data (q + 512) (by simp [hq, hl0]) (by simp; omega) (by omega) (by simp [hl0]; omega)
  rw [List.append_assoc] at h96
  have hx1 : (out.map AVal.byte).take q = out.map AVal.byte := List.take_of_length_le (by simp; omega)
  have hx2 : (B.map AVal.byte).take 512 = B.map AVal.byte := List.take_of_length_le (by simp; omega)
  generalize out ++ (B ++ padL e.data.l) = R at *
  simp only [Hd.av, Ent.av] at *
  refine enter fn53 np53 rfl ?_
  have gg:=trivial;repeat' first|simp (maxSteps:=2000000) (disch:=omega) only [gg,b53,h22,h97,h95,h96,hx1,hx2,hl0,List.drop_zero,← List.map_append,go_sem]|(refine br ?_ ?_<;>intro gg<;>try omega)|(apply And.intro;focus omega)|omega
 ·obtain ⟨body, hbd⟩ := Option.isSome_iff_exists.1 (hok.2 h0).1
  have hbe : bodyE e = body := by unfold bodyE; rw [hbd]; rfl
  have hok2 := (hok.2 h0).2
  rw [hbe] at hok2
  have hbl := paxE_le _ none [] body (by simp) hbd
  have hi := itoa_le (n := n) (by omega) (by omega)
  have h47 := s47 n (by omega) (by omega)
  have h95x := s95 (hdX n body) (by simp [hdX]; omega) (by simp [hdX]) hok2
  have hl1 := encB_length (hdX n body)
  have hrl : (recsE e).length ≤ 5 := by
   unfold recsE rst3 rst4 rst5 rst6 rst7 recIf
   repeat' split
   all_goals simp
  have h94 := s94 false true (recsE e) (by omega) (rcd_recsE hb)
  rw [hbd] at h94
  unfold paxRV paxH at h94
  have hpbl := padL_length body
  have hpbn := padN_lt body.length
  have e1 : out ++ pieceL n e = out ++ encB (hdX n body) ++ padL body ++ encB (hdrE e (recsE e)) ++ padL e.data.l := by
   unfold pieceL preE
   rw [if_neg h0, hbe]
   simp only [List.append_assoc]
  rw [e1]
  rw [show recV (recsE e) = .own 0 2 0 (recsE e).length false by simp [recV, h0], show recH (recsE e) = [(0, .row ((recsE e).map Rcd.av) 2)] by simp [recH, h0]] at h22
  generalize hH : hdrE e (recsE e) = H at *
  generalize hB : encB H = B at *
  generalize hC : encB (hdX n body) = C at *
  replace h95x : callT AA 95 [.agg [.str (112 :: 97 :: 120 :: 47 :: Lib.itoa n), .int .i64 0, .int .i64 0, .int .i64 0, .int .i64 body.length, .int .i64 0, .int .u8 120, .str []]] [] = some (.tuple [.own 0 1 0 512 false, .int .i64 0], [(0, .row (C.map .byte) 1)]) := h95x
  have hrp : 0 < (recsE e).length := by
   cases hq : recsE e with
   | nil => exact (h0 hq).elim
   | cons a b => simp
  have hrt : ((recsE e).map Rcd.av).take (recsE e).length = (recsE e).map Rcd.av := List.take_of_length_le (by simp)
  have h96x := s96o (out ++ C) body (q + 512) body.length (by simp [hq, hl1]) rfl (by simp; omega) (by omega) (by simp [hl1]; omega)
  have pb : (padL body).length % 512 = 0 := by
   rw [hpbl]
   unfold padN
   omega
  have hl2 : (out ++ C ++ padL body).length = out.length + 512 + (padL body).length := by simp [hl1]; omega
  have hl3 : (out ++ C).length = q + 512 := by simp [hl1, hq]
  have h96 := s96 (out ++ C ++ padL body ++ B) e.data ((out ++ C ++ padL body).length + 512) (by simp [hl0]; omega) (by rw [List.length_append, hl2, hl0]; omega) (by omega) (by rw [List.length_append, hl2, hl0]; omega)
  have hx0 : (body.map AVal.byte).take body.length = body.map AVal.byte := List.take_of_length_le (by simp)
  have hx1 : (out.map AVal.byte).take q = out.map AVal.byte := List.take_of_length_le (by simp; omega)
  have hx2 : (B.map AVal.byte).take 512 = B.map AVal.byte := List.take_of_length_le (by simp; omega)
  have hx3 : (C.map AVal.byte).take 512 = C.map AVal.byte := List.take_of_length_le (by simp; omega)
  generalize hO1 : out ++ C = O1 at *
  generalize hO2 : O1 ++ padL body = O2 at *
  have hx4 : (O2.map AVal.byte).take O2.length = O2.map AVal.byte := List.take_of_length_le (by simp)
  generalize hO3 : O2 ++ B = O3 at *
  have hy1 : out.map AVal.byte ++ C.map AVal.byte = O1.map .byte := by rw [← hO1, List.map_append]
  have hy3 : O2.map AVal.byte ++ B.map AVal.byte = O3.map .byte := by rw [← hO3, List.map_append]
  generalize O3 ++ padL e.data.l = R at *
  generalize hL2 : O2.length = L2 at *
  generalize recsE e = rs at *
  simp only [Hd.av, Ent.av] at *
  refine enter fn53 np53 rfl ?_
  have gg:=trivial;repeat' first|simp (maxSteps:=2000000) (disch:=omega) only [gg,b53,h22,h94,h47,h95x,h96x,h97,h95,h96,hrt,hx0,hx1,hx2,hx3,hx4,hy1,hy3,hl0,hl1,List.drop_zero,go_sem]|(refine br ?_ ?_<;>intro gg<;>try omega)|(apply And.intro;focus omega)|omega
end Go.Abs
namespace Go.Abs
open Am Lib
set_option maxRecDepth 10000
/-- what the code knows behind some entries, and these -/
structure CkOk (c : Ck) (done : List Ent) : Prop where
 ks : c.ks = done.map fun e => (e.path, e.kind)
 ord : ∀ d ∈ done, d.path = c.last ∨ cmpPath d.path c.last = -1
 size : 0 ≤ c.size ∧ c.size ≤ 1048576
theorem lk_kind (p : List UInt8) : ∀ done : List Ent, lk p (done.map fun e => (e.path, e.kind)) = kindF p done
 | [] => rfl
 | e :: r => by
  have ih := lk_kind p r
  simp only [List.map_cons, lk, kindF, ih]
  by_cases h : p = e.path
  ·rw [if_pos h, if_pos h.symm]
  ·rw [if_neg h, if_neg (fun hh => h hh.symm)]
theorem putK_new (p : List UInt8) (v : Int) : ∀ ks : Kinds, (∀ x ∈ ks, x.1 ≠ p) → putK p v ks = ks ++ [(p, v)]
 | [], _ => rfl
 |(q, u) :: r, h => by
  have ih := putK_new p v r fun x hx => h x (by simp [hx])
  have hq : ¬ p = q := fun hh => h (q, u) (by simp) hh.symm
  rw [putK, if_neg hq, ih]
  rfl
theorem ck_first : CkOk ⟨[], [], 0⟩ [] := ⟨rfl, by simp, by simp⟩
/-- the step, by the entries ahead -/
def stepE (done : List Ent) (last : List UInt8) (size : Int) (e : Ent) : Int :=
 if goodB e.path = false then 12 else
 if fieldsB e = false then 13 else
 if 0 < done.length ∧ cmpPath last e.path ≠ -1 then 13 else
 if (parentP e.path).2 = true ∧ kindF (parentP e.path).1 done ≠ 1 then 13 else
 if e.kind = 4 ∧ kindF e.link done ≠ 2 then 13 else
 if 1048576 < size + e.data.l.length then 18 else 0
theorem step_entry {c : Ck} {done : List Ent} (h : CkOk c done) (e : Ent) : (entryE c e).1 = stepE done c.last c.size e := by
 have hk := h.ks
 have h3 : (0 < c.ks.length ∧ 0 ≤ cmpPath c.last e.path) ↔ (0 < done.length ∧ cmpPath c.last e.path ≠ -1) := by
  rw [hk, List.length_map]
  have := path_range c.last e.path
  omega
 unfold entryE stepE
 rw [hk, lk_kind, lk_kind, ← hk]
 simp only [h3]
 repeat' split
 all_goals rfl
theorem step_ok {c : Ck} {done : List Ent} (h : CkOk c done) {e : Ent} (h0 : (entryE c e).1 = 0) : CkOk (entryE c e).2 (done ++ [e]) ∧ (entryE c e).2.last = e.path ∧ (entryE c e).2.size = c.size + e.data.l.length := by
 obtain ⟨a1, a2, a3⟩ := entryE_ok h0
 have hs := step_entry h e
 rw [h0] at hs
 have h3 : ¬ (0 < done.length ∧ cmpPath c.last e.path ≠ -1) := by
  intro hh
  unfold stepE at hs
  rw [if_pos hh] at hs
  split at hs
  ·omega
  ·split at hs
   ·omega
   ·omega
 have hn : ∀ d ∈ done, cmpPath d.path e.path = -1 := by
  intro d hd
  have hl : 0 < done.length := List.length_pos_of_mem hd
  have h4 : cmpPath c.last e.path = -1 := by
   apply Classical.byContradiction
   intro h5
   exact h3 ⟨hl, h5⟩
  rcases h.ord d hd with h5 | h5
  ·rw [h5]; exact h4
  ·exact path_trans h5 h4
 have hks : (entryE c e).2.ks = putK e.path e.kind c.ks := by
  clear hs a1 a2 a3 hn h3
  unfold entryE at h0 ⊢
  by_cases g1 : goodB e.path = false
  ·rw [if_pos g1] at h0; simp at h0
  rw [if_neg g1] at h0 ⊢
  by_cases g2 : fieldsB e = false
  ·rw [if_pos g2] at h0; simp at h0
  rw [if_neg g2] at h0 ⊢
  by_cases g3 : 0 < c.ks.length ∧ 0 ≤ cmpPath c.last e.path
  ·rw [if_pos g3] at h0; simp at h0
  rw [if_neg g3] at h0 ⊢
  by_cases g4 : (parentP e.path).2 = true ∧ lk (parentP e.path).1 c.ks ≠ 1
  ·rw [if_pos g4] at h0; simp at h0
  rw [if_neg g4] at h0 ⊢
  by_cases g5 : e.kind = 4 ∧ lk e.link c.ks ≠ 2
  ·rw [if_pos g5] at h0; simp at h0
  rw [if_neg g5] at h0 ⊢
  by_cases g6 : 1048576 < c.size + (e.data.l.length : Int)
  ·rw [if_pos g6] at h0; simp at h0
  rw [if_neg g6] at h0 ⊢
 refine ⟨⟨?_, ?_, ?_⟩, a1, a3⟩
 ·rw [hks, putK_new, h.ks]
  ·simp
  ·intro x hx hxp
   rw [h.ks] at hx
   obtain ⟨d, hd, he⟩ := List.mem_map.1 hx
   have h6 := hn d hd
   have h7 : d.path = e.path := by rw [← hxp, ← he]
   rw [h7, path_self] at h6
   omega
 ·intro d hd
  rw [a1]
  rcases List.mem_append.1 hd with hd | hd
  ·exact Or.inr (hn d hd)
  ·rw [List.mem_singleton.1 hd]; exact Or.inl rfl
 ·have := h.size
  omega
end Go.Abs
namespace Go.Abs
open Am Lib
set_option maxRecDepth 10000
set_option maxHeartbeats 4000000 in
theorem h41 (cl tmp : Bool) (t : List Ent) (ht : t.length ≤ 200) (hq : ∀ e ∈ t, EntOk e) (r0 : Int × Int) : ∀ (rest done : List Ent) (c : Ck) (i : Int), t = done ++ rest → i = done.length → CkOk c done → (∀ p ∈ done.getLast?, c.last = p.path) → r0 = checkL c i rest →
  HD AA 0 [0, 2, 3, 4, 5] l41_0 ⟨[.view 8 (t.map Ent.av) cl tmp, .junk, .int .i64 0, .int .i64 0, .int .i64 c.size, .int .i64 i, .junk, .junk, .junk, .junk, .junk, .junk, .junk, .junk, .junk, .junk, .junk, .junk, .junk, .junk, .junk, .junk, .junk, .junk, .junk, .junk, .junk, .junk, .junk, .junk, .junk, .junk, .junk, .junk, .junk, .junk, .junk, .junk, .junk, .junk, .junk, .junk, .junk, .junk, .junk, .junk, .junk, .junk, .junk, .junk, .junk, .junk, .junk, .junk, .junk, .junk, .junk, .junk, .junk, .junk, .junk, .junk, .junk, .junk, .junk, .junk, .junk, .junk, .junk, .junk, .junk, .junk, .junk, .junk, .junk, .junk, .junk, .junk, .junk, .junk, .junk, .junk, .junk, .junk, .junk, .junk, .junk, .junk, .junk, .junk, .junk], [], 0⟩ [.blk 0, .code r41_0] (Fin [(2, none), (3, none)] 0 (.tuple [.int .i64 r0.1, .int .i64 r0.2]) [])
 | [], done, c, i, h1, h2, hck, hlast, h5 => by
  have hl : t.length = done.length := by rw [h1]; simp
  have hr : r0 = (-1, 0) := h5
  subst hr
  refine hd_of (by unfold l41_0; rfl) ?_
  have gg:=trivial;repeat' first|simp (maxSteps:=2000000) (disch:=omega) only [gg,r41_0,go_sem]|(refine br ?_ ?_<;>intro gg<;>try omega)|(apply And.intro;focus omega)|omega
 | e :: rest, done, c, i, h1, h2, hck, hlast, h5 => by
  have hl : t.length = done.length + (rest.length + 1) := by rw [h1]; simp
  have hm : e ∈ t := by rw [h1]; simp
  obtain ⟨b1, b2, b3, b4⟩ := hq e hm
  have hsz := hck.size
  have hx : t[i.toNat]? = some e := by
   rw [show i.toNat = done.length by omega, h1, List.getElem?_append_right (by omega)]
   simp
  have k1 := s75 e.path b2
  have k2 := s76 e.path b2
  have k3 := s77 e b1
  have k4 := fun p => s79 cl tmp t (by omega) p i (by omega) (by omega)
  have hti : t.take i.toNat = done := by rw [show i.toNat = done.length by omega, h1, List.take_left' rfl]
  simp only [hti] at k4
  simp only [Ent.av] at k3
  have hs := step_entry hck e
  rw [checkL, hs] at h5
  have S : ∀ k, stepE done c.last c.size e = k → k ≠ 0 → r0 = (i, k) := by
   intro k h6 h7
   rw [h5, h6, if_neg h7]
  have K : stepE done c.last c.size e = 0 → HD AA 0 [0, 2, 3, 4, 5] l41_0 ⟨[.view 8 (t.map Ent.av) cl tmp, .junk, .int .i64 0, .int .i64 0, .int .i64 (c.size + e.data.l.length), .int .i64 (i + 1), .junk, .junk, .junk, .junk, .junk, .junk, .junk, .junk, .junk, .junk, .junk, .junk, .junk, .junk, .junk, .junk, .junk, .junk, .junk, .junk, .junk, .junk, .junk, .junk, .junk, .junk, .junk, .junk, .junk, .junk, .junk, .junk, .junk, .junk, .junk, .junk, .junk, .junk, .junk, .junk, .junk, .junk, .junk, .junk, .junk, .junk, .junk, .junk, .junk, .junk, .junk, .junk, .junk, .junk, .junk, .junk, .junk, .junk, .junk, .junk, .junk, .junk, .junk, .junk, .junk, .junk, .junk, .junk, .junk, .junk, .junk, .junk, .junk, .junk, .junk, .junk, .junk, .junk, .junk, .junk, .junk, .junk, .junk, .junk, .junk], [], 0⟩ [.blk 0, .code r41_0] (Fin [(2, none), (3, none)] 0 (.tuple [.int .i64 r0.1, .int .i64 r0.2]) []) := by
   intro h6
   rw [h6] at hs
   rw [h6, if_pos rfl] at h5
   obtain ⟨a1, a2, a3⟩ := step_ok hck hs
   have ih := h41 cl tmp t ht hq r0 rest (done ++ [e]) (entryE c e).2 (i + 1) (by rw [h1]; simp) (by simp; omega) a1 (by simp [a2]) h5
   rw [a3] at ih
   exact ih
  clear h5 hs
  by_cases hi : 0 < i
  ·obtain ⟨p, hp⟩ : ∃ p, done.getLast? = some p := by
    cases hd : done.getLast? with
    | none => rw [List.getLast?_eq_none_iff.1 hd] at h2; simp at h2; omega
    | some p => exact ⟨p, rfl⟩
   have hcl : c.last = p.path := hlast p (by rw [hp]; rfl)
   have hx2 : t[(i - 1).toNat]? = some p := by
    rw [show (i - 1).toNat = done.length - 1 by omega, h1, List.getElem?_append_left (by omega), ← List.getLast?_eq_getElem?, hp]
   have hpm : p ∈ t := by rw [h1]; exact List.mem_append_left _ (List.mem_of_getLast? hp)
   have k5 := s78 p.path e.path (hq p hpm).2.1 b2
   have hdl : 0 < done.length := by omega
   rw [hcl] at S K
   refine hd_of (by unfold l41_0; rfl) ?_
   have gg:=trivial;repeat' first|simp (maxSteps:=2000000) (disch:=omega) only [gg,hx,hx2,k1,k2,k3,k4,k5,lp_head,go_sem]|(refine br ?_ ?_<;>intro gg<;>try omega)|(apply And.intro;focus omega)|omega
   all_goals clear k1 k2 k3 k4 k5
   all_goals (try simp only [Bool.not_eq_true', Bool.not_eq_false'] at *)
   all_goals first
    |(refine K ?_; simp [stepE, *]; done)
    |(rw [S 12] <;> first | omega | (simp [stepE, *]; done))
    |(rw [S 13] <;> first | omega | (simp [stepE, *]; done))
    |(rw [S 18] <;> first | omega | (simp [stepE, *]; done))
  ·have hdl : ¬ 0 < done.length := by omega
   refine hd_of (by unfold l41_0; rfl) ?_
   have gg:=trivial;repeat' first|simp (maxSteps:=2000000) (disch:=omega) only [gg,hx,k1,k2,k3,k4,lp_head,go_sem]|(refine br ?_ ?_<;>intro gg<;>try omega)|(apply And.intro;focus omega)|omega
   all_goals clear k1 k2 k3 k4
   all_goals (try simp only [Bool.not_eq_true', Bool.not_eq_false'] at *)
   all_goals first
    |(refine K ?_; simp [stepE, *]; done)
    |(rw [S 12] <;> first | omega | (simp [stepE, *]; done))
    |(rw [S 13] <;> first | omega | (simp [stepE, *]; done))
    |(rw [S 18] <;> first | omega | (simp [stepE, *]; done))
theorem s41 (cl tmp : Bool) (t : List Ent) (hq : ∀ e ∈ t, EntOk e) (hl : t.length ≤ 1000000000) : callT AA 41 [.view 8 (t.map Ent.av) cl tmp] [] = some (.tuple [.int .i64 (checkT t).1, .int .i64 (checkT t).2], []) := by
 refine enter fn41 np41 rfl ?_
 unfold checkT
 by_cases h : 200 < t.length
 ·rw [if_pos h]
  have gg:=trivial;repeat' first|simp (maxSteps:=2000000) (disch:=omega) only [gg,b41,go_sem]|(refine br ?_ ?_<;>intro gg<;>try omega)|(apply And.intro;focus omega)|omega
 ·rw [if_neg h]
  have hh := h41 cl tmp t (by omega) hq (checkL ⟨[], [], 0⟩ 0 t) t [] ⟨[], [], 0⟩ 0 rfl rfl ck_first (by simp) rfl
  have gg:=trivial;repeat' first|simp (maxSteps:=2000000) (disch:=omega) only [gg,b41,lp_head,go_sem]|(refine br ?_ ?_<;>intro gg<;>try omega)|(apply And.intro;focus omega)|omega
end Go.Abs
