import Derived.Test.YtambgnjkakdoeaaGreatDoorReads11
/- PART OF A PROOF (texts joined by a program): F74 F75 F76 F77 F78 F36 F92 F93 F94 F95 F96 F97. -/
set_option linter.unusedVariables false
set_option linter.unusedSimpArgs false
set_option linter.unusedSectionVars false
namespace Go.Abs
open Am Lib
set_option maxRecDepth 10000
theorem bl_total (a b : List UInt8) : (Op.bytesLess b a || decide (b = a)) = !Op.bytesLess a b := by
 rcases cmp_cases a b with ⟨_, h1, h2⟩ | ⟨_, h0, h1, h2⟩ | ⟨_, h1, h2⟩
 ·rw [h1, h2]
  simp
  intro h
  subst h
  rw [h1] at h2
  cases h2
 ·subst h0
  simp [h1]
 ·rw [h1, h2]
  rfl
def paxRV (x : Option (List UInt8)) : AVal := match x with
 | none => .tuple [.lit (.slice none 0 0), .int .i64 15]
 | some o => .tuple [.own 0 1 0 o.length false, .int .i64 0]
theorem h94 (c t : Bool) (rs : List Rcd) (hs : rs.length ≤ 1000000) (hb : ∀ r ∈ rs, RcdOk r) (r0 : Option (List UInt8)) : ∀ (rest done : List Rcd) (out : List UInt8) (i : Int) (q : Nat), rs = done ++ rest → i = done.length → q = out.length → out.length ≤ 65536 → r0 = paxE done.getLast? out rest →
  HD AA 0 [0, 2, 3, 4, 5] l94_0 ⟨[.view 2 (rs.map Rcd.av) c t, .junk, .lit (.slice none 0 0), .int .i64 0, .own 0 1 0 q false, .int .i64 i, .junk, .junk, .junk, .junk, .junk, .junk, .junk, .junk, .junk, .junk, .junk, .junk, .junk, .junk, .junk, .junk, .junk, .junk, .junk, .junk, .junk, .junk, .junk, .junk, .junk, .junk, .junk, .junk, .junk, .junk, .junk, .junk, .junk, .junk, .junk, .junk, .junk, .junk, .junk, .junk, .junk, .junk, .junk, .junk, .junk, .junk, .junk, .junk, .junk, .junk], [(0, .row (out.map .byte) 1)], 1⟩ [.blk 0, .code r94_0] (Fin [(2, none), (3, none)] 0 (paxRV r0) (paxH r0))
 | [], done, out, i, q, h1, h2, h4, h5, h6 => by
  have hl : i = rs.length := by rw [h1]; simp; omega
  have e : (out.map AVal.byte).take q = out.map .byte := List.take_of_length_le (by simp; omega)
  refine hd_of (by unfold l94_0; rfl) ?_
  simp only [paxE] at h6
  rw [h6]
  unfold paxRV paxH
  have gg:=trivial;repeat' first|simp (maxSteps:=2000000) (disch:=omega) only [gg,r94_0,go_sem]|(refine br ?_ ?_<;>intro gg<;>try omega)|(apply And.intro;focus omega)|omega
  simp [h4]
 | r :: rest, done, out, i, q, h1, h2, h4, h5, h6 => by
  have hg0 : rs[i.toNat]? = some r := by
   rw [h1, show i.toNat = done.length by omega]
   simp
  have hl : i.toNat < rs.length := by rw [h1]; simp; omega
  obtain ⟨hk, hv⟩ := hb r (by simp [h1])
  have hc := s138 r.key r.value hk hv
  have e : (out.map AVal.byte).take q = out.map .byte := List.take_of_length_le (by simp; omega)
  unfold paxE at h6
  cases f1 : lineOk r.key r.value with
  | false =>
   rw [if_neg (by simp [paxStep, f1])] at h6
   rw [f1] at hc
   rw [h6]
   unfold paxRV paxH
   refine hd_of (by unfold l94_0; rfl) ?_
   have gg:=trivial;repeat' first|simp (maxSteps:=2000000) (disch:=omega) only [gg,hc,hg0,lp_head,go_sem]|(refine br ?_ ?_<;>intro gg<;>try omega)|(apply And.intro;focus omega)|omega
  | true =>
   have hll := lineB_length (k := r.key) (v := r.value) (by simp [lineOk, kwB] at f1; omega) (by simp [lineOk] at f1; omega)
   rw [f1] at hc
   generalize hL : lineB r.key r.value = L at *
   have ih := h94 c t rs hs hb r0 rest (done ++ [r]) (out ++ L) (i + 1) (q + L.length) (by simp [h1]) (by simp; omega) (by simp; omega)
   rw [List.getLast?_append] at ih
   cases hd : done.getLast? with
   | none =>
    have hn : done = [] := List.getLast?_eq_none_iff.1 hd
    have hi : i = 0 := by rw [hn] at h2; simpa using h2
    rw [hd] at h6
    by_cases f3 : out.length + L.length ≤ 65536
    ·rw [if_pos (by simp [paxStep, f1, hL, f3])] at h6
     have ih := ih (by simp; omega) (by simpa using h6)
     refine hd_of (by unfold l94_0; rfl) ?_
     have gg:=trivial;repeat' first|simp (maxSteps:=2000000) (disch:=omega) only [gg,hc,hg0,e,lp_head,← List.map_append,go_sem]|(refine br ?_ ?_<;>intro gg<;>try omega)|(apply And.intro;focus omega)|omega
    ·rw [if_neg (by simp [paxStep, f1, hL]; omega)] at h6
     clear ih
     rw [h6]
     unfold paxRV paxH
     refine hd_of (by unfold l94_0; rfl) ?_
     have gg:=trivial;repeat' first|simp (maxSteps:=2000000) (disch:=omega) only [gg,hc,hg0,lp_head,go_sem]|(refine br ?_ ?_<;>intro gg<;>try omega)|(apply And.intro;focus omega)|omega
   | some p =>
    have hne : done.length ≠ 0 := by
     intro h0
     rw [List.length_eq_zero_iff.1 h0] at hd
     cases hd
    have hp0 : rs[(i - 1).toNat]? = some p := by
     rw [List.getLast?_eq_getElem?] at hd
     rw [h1, show (i - 1).toNat = done.length - 1 by omega, List.getElem?_append_left (by omega), hd]
    have hl' : (i - 1).toNat < rs.length := by omega
    have ht := bl_total p.key r.key
    rw [hd] at h6
    cases f2 : Op.bytesLess p.key r.key with
    | true =>
     rw [f2] at ht
     by_cases f3 : out.length + L.length ≤ 65536
     ·rw [if_pos (by simp [paxStep, f1, f2, hL, f3])] at h6
      have ih := ih (by simp; omega) (by simpa using h6)
      refine hd_of (by unfold l94_0; rfl) ?_
      have gg:=trivial;repeat' first|simp (maxSteps:=2000000) (disch:=omega) only [gg,hc,hg0,hp0,ht,e,lp_head,← List.map_append,go_sem]|(refine br ?_ ?_<;>intro gg<;>try omega)|(apply And.intro;focus omega)|omega
     ·rw [if_neg (by simp [paxStep, f1, hL]; omega)] at h6
      clear ih
      rw [h6]
      unfold paxRV paxH
      refine hd_of (by unfold l94_0; rfl) ?_
      have gg:=trivial;repeat' first|simp (maxSteps:=2000000) (disch:=omega) only [gg,hc,hg0,hp0,ht,lp_head,go_sem]|(refine br ?_ ?_<;>intro gg<;>try omega)|(apply And.intro;focus omega)|omega
    | false =>
     rw [f2] at ht
     rw [if_neg (by simp [paxStep, f2])] at h6
     clear ih
     rw [h6]
     unfold paxRV paxH
     refine hd_of (by unfold l94_0; rfl) ?_
     have gg:=trivial;repeat' first|simp (maxSteps:=2000000) (disch:=omega) only [gg,hc,hg0,hp0,ht,lp_head,go_sem]|(refine br ?_ ?_<;>intro gg<;>try omega)|(apply And.intro;focus omega)|omega
theorem s94 (c t : Bool) (rs : List Rcd) (hs : rs.length ≤ 1000000) (hb : ∀ r ∈ rs, RcdOk r) : callT AA 94 [.view 2 (rs.map Rcd.av) c t] [] = some (paxRV (paxE none [] rs), paxH (paxE none [] rs)) := by
 have hh := h94 c t rs hs hb (paxE none [] rs) rs [] [] 0 0 rfl rfl rfl (by simp) rfl
 simp only [List.map_nil] at hh
 generalize paxE none [] rs = R at *
 refine enter fn94 np94 rfl ?_
 have gg:=trivial;repeat' first|simp (maxSteps:=2000000) (disch:=omega) only [gg,b94,lp_head,go_sem]|(refine br ?_ ?_<;>intro gg<;>try omega)|(apply And.intro;focus omega)|omega
end Go.Abs
namespace Go.Abs
open Am Lib
set_option maxRecDepth 10000
theorem h141 (d : Int) (r0 : List UInt8) : ∀ (k : Nat) (n i : Int) (s : List UInt8), i + k = d → 0 ≤ i → d ≤ 100 → 0 ≤ n → n ≤ 9223372036854775807 → s.length + k ≤ 200 → r0 = octD k n ++ s →
  HD AA 0 [0, 1, 4, 5, 6] l141_0 ⟨[.int .i64 n, .int .i64 d, .junk, .junk, .str [], .str s, .int .i64 i, .junk, .junk, .junk, .junk, .junk, .junk, .junk, .junk, .junk, .junk, .junk, .junk, .junk, .junk, .junk, .junk], [], 0⟩ [.blk 0, .code r141_0] (Fin [(4, none)] 0 (.str r0) [])
 | 0, n, i, s, h1, h2, h3, h4, h5, h6, h7 => by
  have hr : r0 = s := h7
  subst hr
  refine hd_of (by unfold l141_0; rfl) ?_
  have gg:=trivial;repeat' first|simp (maxSteps:=2000000) (disch:=omega) only [gg,r141_0,go_sem]|(refine br ?_ ?_<;>intro gg<;>try omega)|(apply And.intro;focus omega)|omega
 | k + 1, n, i, s, h1, h2, h3, h4, h5, h6, h7 => by
  have e1 : n.tmod 8 = n % 8 := Int.tmod_eq_emod_of_nonneg h4
  have e2 : n.tdiv 8 = n / 8 := Int.tdiv_eq_ediv_of_nonneg h4
  have ih := h141 d r0 k (n / 8) (i + 1) (UInt8.ofNat (48 + n % 8).toNat :: s) (by omega) (by omega) h3 (by omega) (by omega) (by simp; omega) (by
   rw [h7]
   simp [octD])
  refine hd_of (by unfold l141_0; rfl) ?_
  have gg:=trivial;repeat' first|simp (maxSteps:=2000000) (disch:=omega) only [gg,e1,e2,bytesOf_one,lp_head,go_sem]|(refine br ?_ ?_<;>intro gg<;>try omega)|(apply And.intro;focus omega)|omega
theorem s141 (n d : Int) (k : Nat) (hd : d = k) (hk : k ≤ 100) (h0 : 0 ≤ n) (h1 : n ≤ 9223372036854775807) : callT AA 141 [.int .i64 n, .int .i64 d] [] = some (.str (octD k n), []) := by
 have hh := h141 d (octD k n) k n 0 [] (by omega) (by omega) (by omega) h0 h1 (by simp; omega) (by simp)
 refine enter fn141 np141 rfl ?_
 have gg:=trivial;repeat' first|simp (maxSteps:=2000000) (disch:=omega) only [gg,b141,lp_head,go_sem]|(refine br ?_ ?_<;>intro gg<;>try omega)|(apply And.intro;focus omega)|omega
theorem s139 (h : Hd) (hp : h.path.length ≤ 1000000) (hl : h.link.length ≤ 1000000) (hok : encOk h = true) : callT AA 139 [h.av] [] = some (.bool true, []) := by
 have h1 := s57 h.path hp
 have h2 := s59 h.link hl
 have m1 := s58 h.mode
 have m2 := s58 h.uid
 have m3 := s58 h.gid
 have m4 := s60 h.size
 have m5 := s60 h.time
 unfold encOk at hok
 simp only [Bool.and_eq_true] at hok
 obtain ⟨k1, k2⟩ := hok
 unfold fitsB at k2
 simp only [Bool.and_eq_true] at k2
 obtain ⟨⟨⟨⟨⟨f1, f2⟩, f3⟩, f4⟩, f5⟩, f6⟩ := k2
 rw [k1] at h1
 rw [f1] at m1
 rw [f2] at m2
 rw [f3] at m3
 rw [f4] at m4
 rw [f5] at m5
 obtain ⟨p, md, u, g, sz, tm, ty, lk⟩ := h
 simp only [Hd.av] at *
 refine enter fn139 np139 rfl ?_
 generalize hz : (ty.toNat : Int) = z at *
 by_cases t1 : ty = 49 ∨ ty = 50
 ·rw [if_pos t1] at f6
  simp only [Bool.and_eq_true, decide_eq_true_eq] at f6
  rw [f6.1] at h2
  have e0 : sz = 0 := f6.2
  subst e0
  have hz2 : z = 49 ∨ z = 50 := by
   rcases t1 with t1 | t1
   ·left; rw [← hz, t1]; rfl
   ·right; rw [← hz, t1]; rfl
  clear hz f6
  rcases hz2 with hz2 | hz2
  ·subst hz2
   have gg:=trivial;repeat' first|simp (maxSteps:=2000000) (disch:=omega) only [gg,b139,h1,h2,m1,m2,m3,m4,m5,go_sem]|(refine br ?_ ?_<;>intro gg<;>try omega)|(apply And.intro;focus omega)|omega
  ·subst hz2
   have gg:=trivial;repeat' first|simp (maxSteps:=2000000) (disch:=omega) only [gg,b139,h1,h2,m1,m2,m3,m4,m5,go_sem]|(refine br ?_ ?_<;>intro gg<;>try omega)|(apply And.intro;focus omega)|omega
 ·rw [if_neg t1] at f6
  by_cases t2 : ty = 53
  ·rw [if_pos t2] at f6
   simp only [Bool.and_eq_true, decide_eq_true_eq] at f6
   obtain ⟨f6, f7⟩ := f6
   subst f6
   subst f7
   have hz2 : z = 53 := by rw [← hz, t2]; rfl
   subst hz2
   have gg:=trivial;repeat' first|simp (maxSteps:=2000000) (disch:=omega) only [gg,b139,h1,m1,m2,m3,m4,m5,go_sem]|(refine br ?_ ?_<;>intro gg<;>try omega)|(apply And.intro;focus omega)|omega
  ·rw [if_neg t2] at f6
   by_cases t3 : ty = 48 ∨ ty = 120
   ·rw [if_pos t3] at f6
    have f7 : lk = [] := of_decide_eq_true f6
    subst f7
    have hz2 : z = 48 ∨ z = 120 := by
     rcases t3 with t3 | t3
     ·left; rw [← hz, t3]; rfl
     ·right; rw [← hz, t3]; rfl
    clear hz f6
    rcases hz2 with hz2 | hz2
    ·subst hz2
     have gg:=trivial;repeat' first|simp (maxSteps:=2000000) (disch:=omega) only [gg,b139,h1,m1,m2,m3,m4,m5,go_sem]|(refine br ?_ ?_<;>intro gg<;>try omega)|(apply And.intro;focus omega)|omega
    ·subst hz2
     have gg:=trivial;repeat' first|simp (maxSteps:=2000000) (disch:=omega) only [gg,b139,h1,m1,m2,m3,m4,m5,go_sem]|(refine br ?_ ?_<;>intro gg<;>try omega)|(apply And.intro;focus omega)|omega
   ·rw [if_neg t3] at f6
    cases f6
theorem map_snoc (l : List UInt8) : l.map AVal.byte ++ [.int .u8 0] = (l ++ [0]).map .byte := by simp [AVal.byte]
theorem h182n (N : Nat) (n : Int) (hN : n = N) (hN2 : N ≤ 100000) (r0 : List UInt8) : ∀ (k : Nat) (out : List UInt8) (i : Int) (q : Nat), 0 ≤ i → i + k = N → q = out.length → out.length ≤ 2000000 - k → r0 = out ++ zs k →
  HD AA 0 [0, 2, 6, 7] l182_0 ⟨[.own 0 1 0 q false, .junk, .int .i64 n, .junk, .junk, .junk, .lit (.slice none 0 0), .int .i64 i, .junk, .junk, .junk, .junk, .junk, .junk, .junk, .junk, .junk, .junk, .junk, .junk, .junk, .junk], [(0, .row (out.map .byte) 1)], 1⟩ [.blk 0, .code r182_0] (Fin [(6, none)] 0 (.own 0 1 0 r0.length false) [(0, .row (r0.map .byte) 1)])
 | 0, out, i, q, h0, h1, h2, h3, h4 => by
  have hr : r0 = out := by simpa using h4
  subst hr
  refine hd_of (by unfold l182_0; rfl) ?_
  have gg:=trivial;repeat' first|simp (maxSteps:=2000000) (disch:=omega) only [gg,r182_0,h2,go_sem]|(refine br ?_ ?_<;>intro gg<;>try omega)|(apply And.intro;focus omega)|omega
 | k + 1, out, i, q, h0, h1, h2, h3, h4 => by
  have ih := h182n N n hN hN2 r0 k (out ++ [0]) (i + 1) (q + 1) (by omega) (by omega) (by simp [h2]) (by simp; omega) (by
   rw [h4, show k + 1 = 1 + k by omega, zs_add]
   simp)
  have e : (out.map AVal.byte).take q = out.map .byte := List.take_of_length_le (by simp; omega)
  refine hd_of (by unfold l182_0; rfl) ?_
  have gg:=trivial;repeat' first|simp (maxSteps:=2000000) (disch:=omega) only [gg,e,map_snoc,lp_head,go_sem]|(refine br ?_ ?_<;>intro gg<;>try omega)|(apply And.intro;focus omega)|omega
theorem s182n (s : List UInt8) (n : Int) (N : Nat) (hN : n = N) (hN2 : N ≤ 100000) (hs : s.length ≤ N) (hne : s ≠ []) : callT AA 182 [.lit (.slice none 0 0), .str s, .int .i64 n] [] = some (.own 0 1 0 (fillT s N).length false, [(0, .row ((fillT s N).map .byte) 1)]) := by
 have hh := h182n N n hN hN2 (fillT s N) (N - s.length) s s.length s.length (by omega) (by omega) rfl (by omega) rfl
 have hne2 : (s.map AVal.byte).isEmpty = false := by
  cases s with
  | nil => exact (hne rfl).elim
  | cons a r => rfl
 refine enter fn182 np182 rfl ?_
 have gg:=trivial;repeat' first|simp (maxSteps:=2000000) (disch:=omega) only [gg,b182,hne2,lp_head,go_sem]|(refine br ?_ ?_<;>intro gg<;>try omega)|(apply And.intro;focus omega)|omega
theorem h182 (N : Nat) (n : Int) (hN : n = N) (hN2 : N ≤ 100000) (r0 : List UInt8) : ∀ (k : Nat) (out : List UInt8) (i : Int) (q : Nat), 0 ≤ i → i + k = N → q = out.length → out.length ≤ 2000000 - k → r0 = out ++ zs k →
  HD AA 1 [0, 2, 6, 7] l182_0 ⟨[.own 1 1 0 q false, .junk, .int .i64 n, .junk, .junk, .junk, .lit (.slice none 0 0), .int .i64 i, .junk, .junk, .junk, .junk, .junk, .junk, .junk, .junk, .junk, .junk, .junk, .junk, .junk, .junk], [(1, .row (out.map .byte) 1)], 2⟩ [.blk 0, .code r182_0] (Fin [(6, none)] 1 (.own 1 1 0 r0.length false) [(1, .row (r0.map .byte) 1)])
 | 0, out, i, q, h0, h1, h2, h3, h4 => by
  have hr : r0 = out := by simpa using h4
  subst hr
  refine hd_of (by unfold l182_0; rfl) ?_
  have gg:=trivial;repeat' first|simp (maxSteps:=2000000) (disch:=omega) only [gg,r182_0,h2,go_sem]|(refine br ?_ ?_<;>intro gg<;>try omega)|(apply And.intro;focus omega)|omega
 | k + 1, out, i, q, h0, h1, h2, h3, h4 => by
  have ih := h182 N n hN hN2 r0 k (out ++ [0]) (i + 1) (q + 1) (by omega) (by omega) (by simp [h2]) (by simp; omega) (by
   rw [h4, show k + 1 = 1 + k by omega, zs_add]
   simp)
  have e : (out.map AVal.byte).take q = out.map .byte := List.take_of_length_le (by simp; omega)
  refine hd_of (by unfold l182_0; rfl) ?_
  have gg:=trivial;repeat' first|simp (maxSteps:=2000000) (disch:=omega) only [gg,e,map_snoc,lp_head,go_sem]|(refine br ?_ ?_<;>intro gg<;>try omega)|(apply And.intro;focus omega)|omega
theorem s182 (out s : List UInt8) (n : Int) (q N : Nat) (hN : n = N) (hN2 : N ≤ 100000) (hs : s.length ≤ N) (hq : q = out.length) (hq2 : out.length ≤ 1000000) : callT AA 182 [.own 0 1 0 q false, .str s, .int .i64 n] [(0, .row (out.map .byte) 1)] = some (.own 1 1 0 (q + N) false, [(1, .row ((out ++ fillT s N).map .byte) 1)]) := by
 have hl : (out ++ fillT s N).length = q + N := by rw [List.length_append, fillT_length hs, hq]
 have hh := h182 N n hN hN2 (out ++ fillT s N) (N - s.length) (out ++ s) s.length (q + s.length) (by omega) (by omega) (by simp [hq]) (by simp; omega) (by simp [fillT])
 rw [hl] at hh
 have e : (out.map AVal.byte).take q = out.map .byte := List.take_of_length_le (by simp; omega)
 generalize out ++ fillT s N = R at *
 refine enter fn182 np182 rfl ?_
 have gg:=trivial;repeat' first|simp (maxSteps:=2000000) (disch:=omega) only [gg,b182,e,← List.map_append,lp_head,go_sem]|(refine br ?_ ?_<;>intro gg<;>try omega)|(apply And.intro;focus omega)|omega
end Go.Abs
namespace Go.Abs
open Am Lib
set_option maxRecDepth 20000
theorem oct7_zero : octD 7 0 = [48, 48, 48, 48, 48, 48, 48] := by decide
theorem fill_one {s : List UInt8} {n : Nat} (h : s.length + 1 = n) : fillT s n = s ++ [0] := by
 subst h
 unfold fillT
 rw [show s.length + 1 - s.length = 1 by omega]
 rfl
theorem blkA_fill (h : Hd) (name : List UInt8) : blkA h name = fillT name 100 ++ fillT (octD 7 h.mode) 8 ++ fillT (octD 7 h.uid) 8 ++ fillT (octD 7 h.gid) 8 ++ fillT (octD 11 h.size) 12 ++ fillT (octD 11 h.time) 12 := by
 have e : ∀ (k : Nat) (n : Int), fillT (octD k n) (k + 1) = octD k n ++ [0] := fun k n => fill_one (by rw [octD_length])
 rw [e 7, e 7, e 7, e 11, e 11]
 simp only [blkA, List.append_assoc]
theorem blkZ_fill (h : Hd) (pre : List UInt8) : blkZ h pre = [h.type] ++ fillT h.link 100 ++ fillT [117, 115, 116, 97, 114] 6 ++ [48, 48] ++ fillT [] 64 ++ fillT [48, 48, 48, 48, 48, 48, 48] 8 ++ fillT [48, 48, 48, 48, 48, 48, 48] 8 ++ fillT pre 155 ++ fillT [] 12 := by
 have e1 : fillT [117, 115, 116, 97, 114] 6 = [117, 115, 116, 97, 114] ++ [0] := fill_one rfl
 have e2 : fillT [48, 48, 48, 48, 48, 48, 48] 8 = [48, 48, 48, 48, 48, 48, 48] ++ [0] := fill_one rfl
 rw [e1, e2]
 unfold blkZ
 rw [oct7_zero]
 simp only [magicB, fillT, List.append_assoc, List.nil_append, List.cons_append, List.length_nil, Nat.sub_zero]
theorem map_snoc' (l : List UInt8) (t : UInt8) (z : Int) (hz : (t.toNat : Int) = z) : l.map AVal.byte ++ [.int .u8 z] = (l ++ [t]).map .byte := by
 subst hz
 simp [AVal.byte]
theorem map_app48 (l : List UInt8) : l.map AVal.byte ++ [.int .u8 (UInt8.toNat 48), .int .u8 (UInt8.toNat 48)] = (l ++ [48, 48]).map .byte := by simp [AVal.byte]
set_option maxHeartbeats 4000000 in
theorem s140 (h : Hd) (hp : h.path.length ≤ 1000000) (hok : encOk h = true) (sum : List UInt8) (hs : sum.length = 8) : callT AA 140 [h.av, .str sum] [] = some (.own 0 1 0 512 false, [(0, .row ((blkA h (splitN h.path).2.1 ++ sum ++ blkZ h (splitN h.path).1).map .byte) 1)]) := by
 have h57 := s57 h.path hp
 obtain ⟨k1, hf⟩ := encOk_parts hok
 obtain ⟨_, s1, s2, s3, _⟩ := splitN_ok k1
 rw [k1] at h57
 generalize (splitN h.path).1 = pre at *
 generalize (splitN h.path).2.1 = name at *
 rw [blkA_fill, blkZ_fill]
 have o1 := s141 h.mode 7 7 rfl (by omega) hf.mode.1 (by have := hf.mode.2; omega)
 have o2 := s141 h.uid 7 7 rfl (by omega) hf.uid.1 (by have := hf.uid.2; omega)
 have o3 := s141 h.gid 7 7 rfl (by omega) hf.gid.1 (by have := hf.gid.2; omega)
 have o4 := s141 h.size 11 11 rfl (by omega) hf.size.1 (by have := hf.size.2; omega)
 have o5 := s141 h.time 11 11 rfl (by omega) hf.time.1 (by have := hf.time.2; omega)
 have p1 := octD_length 7 h.mode
 have p2 := octD_length 7 h.uid
 have p3 := octD_length 7 h.gid
 have p4 := octD_length 11 h.size
 have p5 := octD_length 11 h.time
 have hlk := hf.link.1
 have c1 := s182n name 100 100 rfl (by omega) s2 s3
 obtain ⟨B1, b1⟩ : ∃ B, B = fillT name 100 := ⟨_, rfl⟩
 have l1 : B1.length = 100 := by rw [b1]; exact fillT_length s2
 rw [← b1, l1] at c1
 have c2 := s182 B1 (octD 7 h.mode) 8 100 8 rfl (by omega) (by first | omega | decide) (by omega) (by omega)
 obtain ⟨B2, b2⟩ : ∃ B, B = B1 ++ fillT (octD 7 h.mode) 8 := ⟨_, rfl⟩
 have l2 : B2.length = 108 := by rw [b2, List.length_append, fillT_length (by first | omega | decide), l1]
 rw [← b2] at c2
 have c3 := s182 B2 (octD 7 h.uid) 8 108 8 rfl (by omega) (by first | omega | decide) (by omega) (by omega)
 obtain ⟨B3, b3⟩ : ∃ B, B = B2 ++ fillT (octD 7 h.uid) 8 := ⟨_, rfl⟩
 have l3 : B3.length = 116 := by rw [b3, List.length_append, fillT_length (by first | omega | decide), l2]
 rw [← b3] at c3
 have c4 := s182 B3 (octD 7 h.gid) 8 116 8 rfl (by omega) (by first | omega | decide) (by omega) (by omega)
 obtain ⟨B4, b4⟩ : ∃ B, B = B3 ++ fillT (octD 7 h.gid) 8 := ⟨_, rfl⟩
 have l4 : B4.length = 124 := by rw [b4, List.length_append, fillT_length (by first | omega | decide), l3]
 rw [← b4] at c4
 have c5 := s182 B4 (octD 11 h.size) 12 124 12 rfl (by omega) (by first | omega | decide) (by omega) (by omega)
 obtain ⟨B5, b5⟩ : ∃ B, B = B4 ++ fillT (octD 11 h.size) 12 := ⟨_, rfl⟩
 have l5 : B5.length = 136 := by rw [b5, List.length_append, fillT_length (by first | omega | decide), l4]
 rw [← b5] at c5
 have c6 := s182 B5 (octD 11 h.time) 12 136 12 rfl (by omega) (by first | omega | decide) (by omega) (by omega)
 obtain ⟨B6, b6⟩ : ∃ B, B = B5 ++ fillT (octD 11 h.time) 12 := ⟨_, rfl⟩
 have l6 : B6.length = 148 := by rw [b6, List.length_append, fillT_length (by first | omega | decide), l5]
 rw [← b6] at c6
 have e7 : (B6.map AVal.byte).take 148 = B6.map .byte := List.take_of_length_le (by rw [List.length_map]; omega)
 obtain ⟨B7, b7⟩ : ∃ B, B = B6 ++ sum := ⟨_, rfl⟩
 have l7 : B7.length = 156 := by rw [b7, List.length_append, l6]; rw [hs]
 have a7 : B6.map AVal.byte ++ sum.map AVal.byte = B7.map .byte := by rw [b7, List.map_append]
 have e8 : (B7.map AVal.byte).take 156 = B7.map .byte := List.take_of_length_le (by rw [List.length_map]; omega)
 obtain ⟨B8, b8⟩ : ∃ B, B = B7 ++ [h.type] := ⟨_, rfl⟩
 have l8 : B8.length = 157 := by rw [b8, List.length_append, l7]; rfl
 have a8 : B7.map AVal.byte ++ [.int .u8 h.type.toNat] = B8.map .byte := by rw [b8]; exact map_snoc' _ _ _ rfl
 have c9 := s182 B8 h.link 100 157 100 rfl (by omega) (by first | omega | decide) (by omega) (by omega)
 obtain ⟨B9, b9⟩ : ∃ B, B = B8 ++ fillT h.link 100 := ⟨_, rfl⟩
 have l9 : B9.length = 257 := by rw [b9, List.length_append, fillT_length (by first | omega | decide), l8]
 rw [← b9] at c9
 have c10 := s182 B9 [117, 115, 116, 97, 114] 6 257 6 rfl (by omega) (by first | omega | decide) (by omega) (by omega)
 obtain ⟨B10, b10⟩ : ∃ B, B = B9 ++ fillT [117, 115, 116, 97, 114] 6 := ⟨_, rfl⟩
 have l10 : B10.length = 263 := by rw [b10, List.length_append, fillT_length (by first | omega | decide), l9]
 rw [← b10] at c10
 have e11 : (B10.map AVal.byte).take 263 = B10.map .byte := List.take_of_length_le (by rw [List.length_map]; omega)
 obtain ⟨B11, b11⟩ : ∃ B, B = B10 ++ [48, 48] := ⟨_, rfl⟩
 have l11 : B11.length = 265 := by rw [b11, List.length_append, l10]; rfl
 have a11 : B10.map AVal.byte ++ [.int .u8 (UInt8.toNat 48), .int .u8 (UInt8.toNat 48)] = B11.map .byte := by rw [b11]; exact map_app48 _
 have c12 := s182 B11 [] 64 265 64 rfl (by omega) (by first | omega | decide) (by omega) (by omega)
 obtain ⟨B12, b12⟩ : ∃ B, B = B11 ++ fillT [] 64 := ⟨_, rfl⟩
 have l12 : B12.length = 329 := by rw [b12, List.length_append, fillT_length (by first | omega | decide), l11]
 rw [← b12] at c12
 have c13 := s182 B12 [48, 48, 48, 48, 48, 48, 48] 8 329 8 rfl (by omega) (by first | omega | decide) (by omega) (by omega)
 obtain ⟨B13, b13⟩ : ∃ B, B = B12 ++ fillT [48, 48, 48, 48, 48, 48, 48] 8 := ⟨_, rfl⟩
 have l13 : B13.length = 337 := by rw [b13, List.length_append, fillT_length (by first | omega | decide), l12]
 rw [← b13] at c13
 have c14 := s182 B13 [48, 48, 48, 48, 48, 48, 48] 8 337 8 rfl (by omega) (by first | omega | decide) (by omega) (by omega)
 obtain ⟨B14, b14⟩ : ∃ B, B = B13 ++ fillT [48, 48, 48, 48, 48, 48, 48] 8 := ⟨_, rfl⟩
 have l14 : B14.length = 345 := by rw [b14, List.length_append, fillT_length (by first | omega | decide), l13]
 rw [← b14] at c14
 have c15 := s182 B14 pre 155 345 155 rfl (by omega) (by first | omega | decide) (by omega) (by omega)
 obtain ⟨B15, b15⟩ : ∃ B, B = B14 ++ fillT pre 155 := ⟨_, rfl⟩
 have l15 : B15.length = 500 := by rw [b15, List.length_append, fillT_length (by first | omega | decide), l14]
 rw [← b15] at c15
 have c16 := s182 B15 [] 12 500 12 rfl (by omega) (by first | omega | decide) (by omega) (by omega)
 obtain ⟨B16, b16⟩ : ∃ B, B = B15 ++ fillT [] 12 := ⟨_, rfl⟩
 have l16 : B16.length = 512 := by rw [b16, List.length_append, fillT_length (by first | omega | decide), l15]
 rw [← b16] at c16
 have hR : fillT name 100 ++ fillT (octD 7 h.mode) 8 ++ fillT (octD 7 h.uid) 8 ++ fillT (octD 7 h.gid) 8 ++ fillT (octD 11 h.size) 12 ++ fillT (octD 11 h.time) 12 ++ sum ++ ([h.type] ++ fillT h.link 100 ++ fillT [117, 115, 116, 97, 114] 6 ++ [48, 48] ++ fillT [] 64 ++ fillT [48, 48, 48, 48, 48, 48, 48] 8 ++ fillT [48, 48, 48, 48, 48, 48, 48] 8 ++ fillT pre 155 ++ fillT [] 12) = B16 := by
  rw [b16, b15, b14, b13, b12, b11, b10, b9, b8, b7, b6, b5, b4, b3, b2, b1]
  simp only [List.append_assoc]
 rw [hR]
 clear hR b16 b15 b14 b13 b12 b11 b10 b9 b8 b7 b6 b5 b4 b3 b2 b1
 simp only [Hd.av] at *
 refine enter fn140 np140 rfl ?_
 have gg:=trivial;repeat' first|simp (maxSteps:=2000000) (disch:=omega) only [gg,b140,h57,o1,o2,o3,o4,o5,c1,c2,c3,c4,c5,c6,e7,a7,e8,a8,c9,c10,e11,a11,c12,c13,c14,c15,c16,hs,go_sem]|(refine br ?_ ?_<;>intro gg<;>try omega)|(apply And.intro;focus omega)|omega
end Go.Abs
namespace Go.Abs
open Am Lib
set_option maxRecDepth 20000
def sumA : List UInt8 → Int
 | [] => 0
 | c :: r => c.toNat + sumA r
theorem sumA_le : ∀ l : List UInt8, 0 ≤ sumA l ∧ sumA l ≤ 255 * l.length
 | [] => by simp [sumA]
 | c :: r => by
  have ih := sumA_le r
  have hc := c.toNat_lt
  simp only [sumA, List.length_cons]
  omega
theorem sumA_app : ∀ a b : List UInt8, sumA (a ++ b) = sumA a + sumA b
 | [], b => by simp [sumA]
 | c :: r, b => by
  have ih := sumA_app r b
  simp only [List.cons_append, sumA, ih]
  omega
theorem sumL_app : ∀ (a b : List UInt8) (i : Nat), sumL i (a ++ b) = sumL i a + sumL (i + a.length) b
 | [], b, i => by simp [sumL]
 | c :: r, b, i => by
  have ih := sumL_app r b (i + 1)
  simp only [List.cons_append, sumL, ih, List.length_cons]
  rw [show i + 1 + r.length = i + (r.length + 1) by omega]
  omega
theorem sumL_low : ∀ (a : List UInt8) (i : Nat), i + a.length ≤ 148 → sumL i a = sumA a
 | [], i, _ => rfl
 | c :: r, i, h => by
  simp only [List.length_cons] at h
  have ih := sumL_low r (i + 1) (by omega)
  simp only [sumL, sumA, ih]
  rw [if_pos (by omega)]
theorem sumL_high : ∀ (a : List UInt8) (i : Nat), 156 ≤ i → sumL i a = sumA a
 | [], i, _ => rfl
 | c :: r, i, h => by
  have ih := sumL_high r (i + 1) (by omega)
  simp only [sumL, sumA, ih]
  rw [if_pos (by omega)]
theorem sumL_mid : ∀ (a : List UInt8) (i : Nat), 148 ≤ i → i + a.length ≤ 156 → sumL i a = 0
 | [], i, _, _ => rfl
 | c :: r, i, h, h' => by
  simp only [List.length_cons] at h'
  have ih := sumL_mid r (i + 1) (by omega) (by omega)
  simp only [sumL, ih]
  rw [if_neg (by omega)]
  rfl
def spaces8 : List UInt8 := [32, 32, 32, 32, 32, 32, 32, 32]
theorem sum_eq {a z : List UInt8} (ha : a.length = 148) : 256 + sumL 0 (a ++ zs 8 ++ z) = sumA (a ++ spaces8 ++ z) := by
 rw [sumL_app, sumL_app, sumL_low a 0 (by omega), sumL_mid (zs 8) _ (by omega) (by simp; omega), sumL_high z _ (by simp; omega), sumA_app, sumA_app]
 have : sumA spaces8 = 256 := by decide
 omega
theorem h95 (h : Hd) (N : Int) (hN : N ≤ 200000) (R : List UInt8) (c141 : callT AA 141 [.int .i64 N, .int .i64 6] [] = some (.str (octD 6 N), [])) (lo : (octD 6 N).length = 6)
  (c140 : callT AA 140 [.agg [.str h.path, .int .i64 h.mode, .int .i64 h.uid, .int .i64 h.gid, .int .i64 h.size, .int .i64 h.time, .int .u8 h.type.toNat, .str h.link], .str (octD 6 N ++ [0, 32])] [] = some (.own 0 1 0 512 false, [(0, .row (R.map .byte) 1)]))
  (L : List UInt8) (hL : L.length = 512) : ∀ (rest done : List UInt8) (n i : Int), L = done ++ rest → i = done.length → 0 ≤ n → n + sumA rest = N →
  HD AA 0 [1, 2, 3, 4, 5, 6] l95_0 ⟨[.junk, .ptr 0 0, .lit (.slice none 0 0), .int .i64 0, .own 1 1 0 512 false, .int .i64 n, .int .i64 i, .junk, .junk, .junk, .junk, .junk, .junk, .junk, .junk, .junk, .junk, .junk, .junk, .junk, .junk, .junk, .junk, .junk, .junk, .junk, .junk, .junk, .junk, .junk], [(0, .var [.str h.path, .int .i64 h.mode, .int .i64 h.uid, .int .i64 h.gid, .int .i64 h.size, .int .i64 h.time, .int .u8 h.type.toNat, .str h.link]), (1, .row (L.map .byte) 1)], 2⟩ [.blk 0, .code r95_0] (Fin [(2, none), (3, none)] 0 (.tuple [.own 0 1 0 512 false, .int .i64 0]) [(0, .row (R.map .byte) 1)])
 | [], done, n, i, h1, h2, h3, h4 => by
  have hl : i = 512 := by rw [h1] at hL; simp at hL; omega
  have hn : n = N := by simp [sumA] at h4; exact h4
  subst hn
  refine hd_of (by unfold l95_0; rfl) ?_
  have gg:=trivial;repeat' first|simp (maxSteps:=2000000) (disch:=omega) only [gg,r95_0,c141,c140,lo,go_sem]|(refine br ?_ ?_<;>intro gg<;>try omega)|(apply And.intro;focus omega)|omega
 | c :: rest, done, n, i, h1, h2, h3, h4 => by
  have hl : i < 512 := by rw [h1] at hL; simp at hL; omega
  have hx : L[i.toNat]? = some c := by
   rw [h1, show i.toNat = done.length by omega]
   simp
  have hc := c.toNat_lt
  have hs := sumA_le rest
  simp only [sumA] at h4
  have ih := h95 h N hN R c141 lo c140 L hL rest (done ++ [c]) (n + c.toNat) (i + 1) (by simp [h1]) (by simp; omega) (by omega) (by omega)
  refine hd_of (by unfold l95_0; rfl) ?_
  have gg:=trivial;repeat' first|simp (maxSteps:=2000000) (disch:=omega) only [gg,hx,Nat.zero_add,hL,lp_head,go_sem]|(refine br ?_ ?_<;>intro gg<;>try omega)|(apply And.intro;focus omega)|omega
theorem s95 (h : Hd) (hp : h.path.length ≤ 1000000) (hl : h.link.length ≤ 1000000) (hok : encOk h = true) : callT AA 95 [h.av] [] = some (.tuple [.own 0 1 0 512 false, .int .i64 0], [(0, .row ((encB h).map .byte) 1)]) := by
 obtain ⟨k1, hf⟩ := encOk_parts hok
 obtain ⟨_, s1, s2, s3, _⟩ := splitN_ok k1
 have c139 := s139 h hp hl hok
 have c1 := s140 h hp hok spaces8 rfl
 rw [encB_blk s2 s1 hf.link.1]
 unfold blk sumV sumD
 have lA := blkA_length (h := h) s2
 have lZ := blkZ_length (h := h) s1 hf.link.1
 rw [sum_eq lA]
 have hb := sumA_le (blkA h (splitN h.path).2.1 ++ spaces8 ++ blkZ h (splitN h.path).1)
 have hL : (blkA h (splitN h.path).2.1 ++ spaces8 ++ blkZ h (splitN h.path).1).length = 512 := by
  rw [List.length_append, List.length_append, lA, lZ]
  rfl
 have c2 := s140 h hp hok (octD 6 (sumA (blkA h (splitN h.path).2.1 ++ spaces8 ++ blkZ h (splitN h.path).1)) ++ [0, 32]) (by rw [List.length_append, octD_length]; rfl)
 have c3 := s141 (sumA (blkA h (splitN h.path).2.1 ++ spaces8 ++ blkZ h (splitN h.path).1)) 6 6 rfl (by omega) hb.1 (by omega)
 have lo := octD_length 6 (sumA (blkA h (splitN h.path).2.1 ++ spaces8 ++ blkZ h (splitN h.path).1))
 have hh := h95 h (sumA (blkA h (splitN h.path).2.1 ++ spaces8 ++ blkZ h (splitN h.path).1)) (by omega) _ c3 lo c2 _ hL (blkA h (splitN h.path).2.1 ++ spaces8 ++ blkZ h (splitN h.path).1) [] 0 0 rfl rfl (by omega) (Int.zero_add _)
 clear c2 c3 lo hb
 generalize blkA h (splitN h.path).2.1 ++ (octD 6 (sumA (blkA h (splitN h.path).2.1 ++ spaces8 ++ blkZ h (splitN h.path).1)) ++ [0, 32]) ++ blkZ h (splitN h.path).1 = R at *
 generalize blkA h (splitN h.path).2.1 ++ spaces8 ++ blkZ h (splitN h.path).1 = L at *
 simp only [Hd.av, spaces8] at *
 refine enter fn95 np95 rfl ?_
 have gg:=trivial;repeat' first|simp (maxSteps:=2000000) (disch:=omega) only [gg,b95,c139,c1,lp_head,go_sem]|(refine br ?_ ?_<;>intro gg<;>try omega)|(apply And.intro;focus omega)|omega
end Go.Abs
namespace Go.Abs
open Am Lib
set_option maxRecDepth 20000
def p97_10 : ACode := .ret
def p97_9 : ACode := .seq (.reg false [] [⟨(some 63), (.ld 8 true (.t 4)), none⟩, ⟨none, (.st 8 (.t 2) (.t 63)), none⟩]) p97_10
def p97_8 : ACode := .seq (.seq (.reg false [] [⟨(some 58), (.fa 5 (.t 1)), none⟩, ⟨(some 59), (.ld 1 false (.t 58)), none⟩, ⟨(some 60), (.call (.c (.func (.func 60) [])) [(.t 59)]), none⟩, ⟨(some 61), (.un .not (.t 60)), none⟩]) (.cond (.t 61) (.reg false [] [⟨(some 62), (.fa 5 (.t 4)), none⟩, ⟨none, (.st 1 (.t 62) (.c (.int .i64 0))), none⟩]) .skip)) p97_9
def p97_7 : ACode := .seq (.seq (.reg false [] [⟨(some 53), (.fa 4 (.t 1)), none⟩, ⟨(some 54), (.ld 1 false (.t 53)), none⟩, ⟨(some 55), (.call (.c (.func (.func 58) [])) [(.t 54)]), none⟩, ⟨(some 56), (.un .not (.t 55)), none⟩]) (.cond (.t 56) (.reg false [] [⟨(some 57), (.fa 3 (.t 4)), none⟩, ⟨none, (.st 1 (.t 57) (.c (.int .i64 0))), none⟩]) .skip)) p97_8
def p97_6 : ACode := .seq (.seq (.reg false [] [⟨(some 48), (.fa 3 (.t 1)), none⟩, ⟨(some 49), (.ld 1 false (.t 48)), none⟩, ⟨(some 50), (.call (.c (.func (.func 58) [])) [(.t 49)]), none⟩, ⟨(some 51), (.un .not (.t 50)), none⟩]) (.cond (.t 51) (.reg false [] [⟨(some 52), (.fa 2 (.t 4)), none⟩, ⟨none, (.st 1 (.t 52) (.c (.int .i64 0))), none⟩]) .skip)) p97_7
def p97_5 : ACode := .seq (.seq (.reg false [] [⟨(some 38), (.fa 6 (.t 1)), none⟩, ⟨(some 39), (.ld 1 false (.t 38)), none⟩, ⟨(some 40), (.bin .neq .other true (.t 39) (.c (.str []))), none⟩, ⟨(some 41), (.mov (.t 40)), none⟩, ⟨(some 42), (.fa 6 (.t 1)), (some (41, true))⟩, ⟨(some 43), (.ld 1 false (.t 42)), (some (41, true))⟩, ⟨(some 44), (.call (.c (.func (.func 59) [])) [(.t 43)]), (some (41, true))⟩, ⟨(some 45), (.un .not (.t 44)), (some (41, true))⟩, ⟨(some 46), (.pick (.t 41) (.t 45) (.c (.bool false))), none⟩]) (.cond (.t 46) (.reg false [] [⟨(some 47), (.fa 7 (.t 4)), none⟩, ⟨none, (.st 1 (.t 47) (.c (.str [112, 97, 120]))), none⟩]) .skip)) p97_6
def p97_4 : ACode := .seq (.seq (.reg false [] [⟨(some 35), (.mov (.t 7)), none⟩, ⟨(some 36), (.un .not (.t 35)), none⟩]) (.cond (.t 36) (.reg false [] [⟨(some 37), (.fa 0 (.t 4)), none⟩, ⟨none, (.st 1 (.t 37) (.c (.str [112, 97, 120]))), none⟩]) .skip)) p97_5
def p97_3 : ACode := .seq (.reg false [] [⟨(some 29), (.fa 0 (.t 1)), none⟩, ⟨(some 30), (.ld 1 false (.t 29)), none⟩, ⟨(some 31), (.call (.c (.func (.func 57) [])) [(.t 30)]), none⟩, ⟨(some 28), (.mov (.t 31)), none⟩, ⟨(some 32), (.ext (.t 28) 0), none⟩, ⟨(some 33), (.ext (.t 28) 1), none⟩, ⟨(some 34), (.ext (.t 28) 2), none⟩, ⟨(some 5), (.mov (.t 32)), none⟩, ⟨(some 6), (.mov (.t 33)), none⟩, ⟨(some 7), (.mov (.t 34)), none⟩]) p97_4
def p97_2 : ACode := .seq (.reg true [(1, 2), (0, 3), (1, 3), (1, 4), (3, 4), (0, 5), (1, 5), (2, 5), (3, 5), (1, 6), (3, 6), (5, 6), (0, 7), (1, 7), (2, 7), (3, 7), (4, 7), (5, 7), (1, 8), (3, 8), (5, 8), (7, 8), (0, 9), (1, 9), (2, 9), (3, 9), (4, 9), (5, 9), (6, 9), (7, 9), (1, 10), (3, 10), (5, 10), (7, 10), (1, 11), (3, 11), (5, 11), (7, 11), (9, 11), (0, 12), (1, 12), (2, 12), (3, 12), (4, 12), (5, 12), (6, 12), (7, 12), (8, 12), (9, 12), (10, 12), (1, 13), (3, 13), (5, 13), (7, 13), (9, 13), (12, 13), (1, 14), (3, 14), (5, 14), (7, 14), (9, 14), (12, 14), (0, 15), (1, 15), (2, 15), (3, 15), (4, 15), (5, 15), (6, 15), (7, 15), (8, 15), (9, 15), (10, 15), (11, 15), (12, 15), (13, 15), (1, 16), (3, 16), (5, 16), (7, 16), (9, 16), (12, 16), (1, 17), (3, 17), (5, 17), (7, 17), (9, 17), (12, 17), (15, 17), (0, 18), (1, 18), (2, 18), (3, 18), (4, 18), (5, 18), (6, 18), (7, 18), (8, 18), (9, 18), (10, 18), (11, 18), (12, 18), (13, 18), (14, 18), (15, 18), (16, 18), (0, 20), (1, 20), (2, 20), (3, 20), (4, 20), (5, 20), (6, 20), (7, 20), (8, 20), (9, 20), (10, 20), (11, 20), (12, 20), (13, 20), (14, 20), (15, 20), (16, 20), (17, 20), (18, 20), (19, 20)] [⟨(some 8), (.fa 0 (.t 1)), none⟩, ⟨(some 9), (.ld 1 false (.t 8)), none⟩, ⟨(some 10), (.fa 2 (.t 1)), none⟩, ⟨(some 11), (.ld 1 false (.t 10)), none⟩, ⟨(some 12), (.fa 3 (.t 1)), none⟩, ⟨(some 13), (.ld 1 false (.t 12)), none⟩, ⟨(some 14), (.fa 4 (.t 1)), none⟩, ⟨(some 15), (.ld 1 false (.t 14)), none⟩, ⟨(some 16), (.fa 7 (.t 1)), none⟩, ⟨(some 17), (.ld 1 false (.t 16)), none⟩, ⟨(some 18), (.len 1 (.t 17)), none⟩, ⟨(some 19), (.fa 5 (.t 1)), none⟩, ⟨(some 20), (.ld 1 false (.t 19)), none⟩, ⟨(some 21), (.mov (.t 3)), none⟩, ⟨(some 22), (.fa 1 (.t 1)), none⟩, ⟨(some 23), (.ld 1 false (.t 22)), none⟩, ⟨(some 24), (.ixs (.t 21) (.t 23)), none⟩, ⟨(some 25), (.fa 6 (.t 1)), none⟩, ⟨(some 26), (.ld 1 false (.t 25)), none⟩, ⟨(some 27), (.build [(.str []), (.int .i64 0), (.int .i64 0), (.int .i64 0), (.int .i64 0), (.int .i64 0), (.int .u8 0), (.str [])] [(0, (1, (.t 9))), (1, (1, (.t 11))), (2, (1, (.t 13))), (3, (1, (.t 15))), (4, (1, (.t 18))), (5, (1, (.t 20))), (6, (1, (.t 24))), (7, (1, (.t 26)))]), none⟩, ⟨(some 4), (.alloc [(.str []), (.int .i64 0), (.int .i64 0), (.int .i64 0), (.int .i64 0), (.int .i64 0), (.int .u8 0), (.str [])]), none⟩, ⟨none, (.st 8 (.t 4) (.t 27)), none⟩]) p97_3
def p97_1 : ACode := .seq (.reg false [] [⟨(some 3), (.mov (.c (.str [48, 53, 48, 50, 49]))), none⟩]) p97_2
def p97_0 : ACode := .seq (.reg false [] [⟨(some 1), (.box (.t 0)), none⟩, ⟨(some 2), (.alloc [(.str []), (.int .i64 0), (.int .i64 0), (.int .i64 0), (.int .i64 0), (.int .i64 0), (.int .u8 0), (.str [])]), none⟩]) p97_1
theorem b97_p : b97 = ⟨1, 64, [(2, (some (8, true)))], p97_0⟩ := rfl
def FinH (p : List UInt8) (m u g sz tm : Int) (ty : UInt8) (lk : List UInt8) : FinP := Fin [(2, some (8, true))] 0 (Hd.av ⟨p, m, u, g, sz, tm, ty, lk⟩) []
theorem q97_9 (e : Ent) (hl : e.link.length ≤ 1000000) (p lk : List UInt8) (m u g sz tm : Int) (ty : UInt8)  : ∀ (x3 x5 x6 x7 x8 x9 x10 x11 x12 x13 x14 x15 x16 x17 x18 x19 x20 x21 x22 x23 x24 x25 x26 x27 x28 x29 x30 x31 x32 x33 x34 x35 x36 x37 x38 x39 x40 x41 x42 x43 x44 x45 x46 x47 x48 x49 x50 x51 x52 x53 x54 x55 x56 x57 x58 x59 x60 x61 x62 x63 : AVal) (N : Nat), EX AA 0 p97_9 ⟨[e.av, .ptr 0 0, .ptr 32 0, x3, .ptr 736 0, x5, x6, x7, x8, x9, x10, x11, x12, x13, x14, x15, x16, x17, x18, x19, x20, x21, x22, x23, x24, x25, x26, x27, x28, x29, x30, x31, x32, x33, x34, x35, x36, x37, x38, x39, x40, x41, x42, x43, x44, x45, x46, x47, x48, x49, x50, x51, x52, x53, x54, x55, x56, x57, x58, x59, x60, x61, x62, x63], [(0, .var e.av.cells), (32, .var [.str [], .int .i64 0, .int .i64 0, .int .i64 0, .int .i64 0, .int .i64 0, .int .u8 0, .str []]), (736, .var [.str p, .int .i64 m, .int .i64 u, .int .i64 g, .int .i64 sz, .int .i64 tm, .int .u8 ty.toNat, .str lk])], N⟩ [] (FinH p m u g sz tm ty lk) := by
 intro x3 x5 x6 x7 x8 x9 x10 x11 x12 x13 x14 x15 x16 x17 x18 x19 x20 x21 x22 x23 x24 x25 x26 x27 x28 x29 x30 x31 x32 x33 x34 x35 x36 x37 x38 x39 x40 x41 x42 x43 x44 x45 x46 x47 x48 x49 x50 x51 x52 x53 x54 x55 x56 x57 x58 x59 x60 x61 x62 x63 N
 unfold FinH
 have gg:=trivial;repeat' first|simp (maxSteps:=2000000) (disch:=omega) only [gg,p97_9,p97_10,go_sem]|(refine br ?_ ?_<;>intro gg<;>try omega)|(apply And.intro;focus omega)|omega
theorem q97_8 (e : Ent) (hl : e.link.length ≤ 1000000) (p lk : List UInt8) (m u g sz tm : Int) (ty : UInt8) (tm' : Int) (h8 : tm' = if timeB e.time = true then tm else 0) : ∀ (x3 x5 x6 x7 x8 x9 x10 x11 x12 x13 x14 x15 x16 x17 x18 x19 x20 x21 x22 x23 x24 x25 x26 x27 x28 x29 x30 x31 x32 x33 x34 x35 x36 x37 x38 x39 x40 x41 x42 x43 x44 x45 x46 x47 x48 x49 x50 x51 x52 x53 x54 x55 x56 x57 x58 x59 x60 x61 x62 x63 : AVal) (N : Nat), EX AA 0 p97_8 ⟨[e.av, .ptr 0 0, .ptr 32 0, x3, .ptr 736 0, x5, x6, x7, x8, x9, x10, x11, x12, x13, x14, x15, x16, x17, x18, x19, x20, x21, x22, x23, x24, x25, x26, x27, x28, x29, x30, x31, x32, x33, x34, x35, x36, x37, x38, x39, x40, x41, x42, x43, x44, x45, x46, x47, x48, x49, x50, x51, x52, x53, x54, x55, x56, x57, x58, x59, x60, x61, x62, x63], [(0, .var e.av.cells), (32, .var [.str [], .int .i64 0, .int .i64 0, .int .i64 0, .int .i64 0, .int .i64 0, .int .u8 0, .str []]), (736, .var [.str p, .int .i64 m, .int .i64 u, .int .i64 g, .int .i64 sz, .int .i64 tm, .int .u8 ty.toNat, .str lk])], N⟩ [] (FinH p m u g sz tm' ty lk) := by
 intro x3 x5 x6 x7 x8 x9 x10 x11 x12 x13 x14 x15 x16 x17 x18 x19 x20 x21 x22 x23 x24 x25 x26 x27 x28 x29 x30 x31 x32 x33 x34 x35 x36 x37 x38 x39 x40 x41 x42 x43 x44 x45 x46 x47 x48 x49 x50 x51 x52 x53 x54 x55 x56 x57 x58 x59 x60 x61 x62 x63 N
 have c := s60 e.time
 cases hf : timeB e.time with
 | true =>
  rw [hf] at c h8
  rw [if_pos rfl] at h8
  subst h8
  have ih := q97_9 e hl p lk m u g sz tm' ty
  have gg:=trivial;repeat' first|simp (maxSteps:=2000000) (disch:=omega) only [gg,p97_8,c,go_sem]|(refine br ?_ ?_<;>intro gg<;>try omega)|(apply And.intro;focus omega)|omega
  apply ih
 | false =>
  rw [hf] at c h8
  rw [if_neg (by decide)] at h8
  subst h8
  have ih := q97_9 e hl p lk m u g sz 0 ty
  have gg:=trivial;repeat' first|simp (maxSteps:=2000000) (disch:=omega) only [gg,p97_8,c,go_sem]|(refine br ?_ ?_<;>intro gg<;>try omega)|(apply And.intro;focus omega)|omega
  apply ih
theorem q97_7 (e : Ent) (hl : e.link.length ≤ 1000000) (p lk : List UInt8) (m u g sz tm : Int) (ty : UInt8) (g' : Int) (h7 : g' = if idB e.gid = true then g else 0) (tm' : Int) (h8 : tm' = if timeB e.time = true then tm else 0) : ∀ (x3 x5 x6 x7 x8 x9 x10 x11 x12 x13 x14 x15 x16 x17 x18 x19 x20 x21 x22 x23 x24 x25 x26 x27 x28 x29 x30 x31 x32 x33 x34 x35 x36 x37 x38 x39 x40 x41 x42 x43 x44 x45 x46 x47 x48 x49 x50 x51 x52 x53 x54 x55 x56 x57 x58 x59 x60 x61 x62 x63 : AVal) (N : Nat), EX AA 0 p97_7 ⟨[e.av, .ptr 0 0, .ptr 32 0, x3, .ptr 736 0, x5, x6, x7, x8, x9, x10, x11, x12, x13, x14, x15, x16, x17, x18, x19, x20, x21, x22, x23, x24, x25, x26, x27, x28, x29, x30, x31, x32, x33, x34, x35, x36, x37, x38, x39, x40, x41, x42, x43, x44, x45, x46, x47, x48, x49, x50, x51, x52, x53, x54, x55, x56, x57, x58, x59, x60, x61, x62, x63], [(0, .var e.av.cells), (32, .var [.str [], .int .i64 0, .int .i64 0, .int .i64 0, .int .i64 0, .int .i64 0, .int .u8 0, .str []]), (736, .var [.str p, .int .i64 m, .int .i64 u, .int .i64 g, .int .i64 sz, .int .i64 tm, .int .u8 ty.toNat, .str lk])], N⟩ [] (FinH p m u g' sz tm' ty lk) := by
 intro x3 x5 x6 x7 x8 x9 x10 x11 x12 x13 x14 x15 x16 x17 x18 x19 x20 x21 x22 x23 x24 x25 x26 x27 x28 x29 x30 x31 x32 x33 x34 x35 x36 x37 x38 x39 x40 x41 x42 x43 x44 x45 x46 x47 x48 x49 x50 x51 x52 x53 x54 x55 x56 x57 x58 x59 x60 x61 x62 x63 N
 have c := s58 e.gid
 cases hf : idB e.gid with
 | true =>
  rw [hf] at c h7
  rw [if_pos rfl] at h7
  subst h7
  have ih := q97_8 e hl p lk m u g' sz tm ty tm' h8
  have gg:=trivial;repeat' first|simp (maxSteps:=2000000) (disch:=omega) only [gg,p97_7,c,go_sem]|(refine br ?_ ?_<;>intro gg<;>try omega)|(apply And.intro;focus omega)|omega
  apply ih
 | false =>
  rw [hf] at c h7
  rw [if_neg (by decide)] at h7
  subst h7
  have ih := q97_8 e hl p lk m u 0 sz tm ty tm' h8
  have gg:=trivial;repeat' first|simp (maxSteps:=2000000) (disch:=omega) only [gg,p97_7,c,go_sem]|(refine br ?_ ?_<;>intro gg<;>try omega)|(apply And.intro;focus omega)|omega
  apply ih
theorem q97_6 (e : Ent) (hl : e.link.length ≤ 1000000) (p lk : List UInt8) (m u g sz tm : Int) (ty : UInt8) (u' : Int) (h6 : u' = if idB e.uid = true then u else 0) (g' : Int) (h7 : g' = if idB e.gid = true then g else 0) (tm' : Int) (h8 : tm' = if timeB e.time = true then tm else 0) : ∀ (x3 x5 x6 x7 x8 x9 x10 x11 x12 x13 x14 x15 x16 x17 x18 x19 x20 x21 x22 x23 x24 x25 x26 x27 x28 x29 x30 x31 x32 x33 x34 x35 x36 x37 x38 x39 x40 x41 x42 x43 x44 x45 x46 x47 x48 x49 x50 x51 x52 x53 x54 x55 x56 x57 x58 x59 x60 x61 x62 x63 : AVal) (N : Nat), EX AA 0 p97_6 ⟨[e.av, .ptr 0 0, .ptr 32 0, x3, .ptr 736 0, x5, x6, x7, x8, x9, x10, x11, x12, x13, x14, x15, x16, x17, x18, x19, x20, x21, x22, x23, x24, x25, x26, x27, x28, x29, x30, x31, x32, x33, x34, x35, x36, x37, x38, x39, x40, x41, x42, x43, x44, x45, x46, x47, x48, x49, x50, x51, x52, x53, x54, x55, x56, x57, x58, x59, x60, x61, x62, x63], [(0, .var e.av.cells), (32, .var [.str [], .int .i64 0, .int .i64 0, .int .i64 0, .int .i64 0, .int .i64 0, .int .u8 0, .str []]), (736, .var [.str p, .int .i64 m, .int .i64 u, .int .i64 g, .int .i64 sz, .int .i64 tm, .int .u8 ty.toNat, .str lk])], N⟩ [] (FinH p m u' g' sz tm' ty lk) := by
 intro x3 x5 x6 x7 x8 x9 x10 x11 x12 x13 x14 x15 x16 x17 x18 x19 x20 x21 x22 x23 x24 x25 x26 x27 x28 x29 x30 x31 x32 x33 x34 x35 x36 x37 x38 x39 x40 x41 x42 x43 x44 x45 x46 x47 x48 x49 x50 x51 x52 x53 x54 x55 x56 x57 x58 x59 x60 x61 x62 x63 N
 have c := s58 e.uid
 cases hf : idB e.uid with
 | true =>
  rw [hf] at c h6
  rw [if_pos rfl] at h6
  subst h6
  have ih := q97_7 e hl p lk m u' g sz tm ty g' h7 tm' h8
  have gg:=trivial;repeat' first|simp (maxSteps:=2000000) (disch:=omega) only [gg,p97_6,c,go_sem]|(refine br ?_ ?_<;>intro gg<;>try omega)|(apply And.intro;focus omega)|omega
  apply ih
 | false =>
  rw [hf] at c h6
  rw [if_neg (by decide)] at h6
  subst h6
  have ih := q97_7 e hl p lk m 0 g sz tm ty g' h7 tm' h8
  have gg:=trivial;repeat' first|simp (maxSteps:=2000000) (disch:=omega) only [gg,p97_6,c,go_sem]|(refine br ?_ ?_<;>intro gg<;>try omega)|(apply And.intro;focus omega)|omega
  apply ih
theorem q97_5 (e : Ent) (hl : e.link.length ≤ 1000000) (p lk : List UInt8) (m u g sz tm : Int) (ty : UInt8) (lk' : List UInt8) (h5 : lk' = if linkE e.link = true then lk else [112, 97, 120]) (u' : Int) (h6 : u' = if idB e.uid = true then u else 0) (g' : Int) (h7 : g' = if idB e.gid = true then g else 0) (tm' : Int) (h8 : tm' = if timeB e.time = true then tm else 0) : ∀ (x3 x5 x6 x7 x8 x9 x10 x11 x12 x13 x14 x15 x16 x17 x18 x19 x20 x21 x22 x23 x24 x25 x26 x27 x28 x29 x30 x31 x32 x33 x34 x35 x36 x37 x38 x39 x40 x41 x42 x43 x44 x45 x46 x47 x48 x49 x50 x51 x52 x53 x54 x55 x56 x57 x58 x59 x60 x61 x62 x63 : AVal) (N : Nat), EX AA 0 p97_5 ⟨[e.av, .ptr 0 0, .ptr 32 0, x3, .ptr 736 0, x5, x6, x7, x8, x9, x10, x11, x12, x13, x14, x15, x16, x17, x18, x19, x20, x21, x22, x23, x24, x25, x26, x27, x28, x29, x30, x31, x32, x33, x34, x35, x36, x37, x38, x39, x40, x41, x42, x43, x44, x45, x46, x47, x48, x49, x50, x51, x52, x53, x54, x55, x56, x57, x58, x59, x60, x61, x62, x63], [(0, .var e.av.cells), (32, .var [.str [], .int .i64 0, .int .i64 0, .int .i64 0, .int .i64 0, .int .i64 0, .int .u8 0, .str []]), (736, .var [.str p, .int .i64 m, .int .i64 u, .int .i64 g, .int .i64 sz, .int .i64 tm, .int .u8 ty.toNat, .str lk])], N⟩ [] (FinH p m u' g' sz tm' ty lk') := by
 intro x3 x5 x6 x7 x8 x9 x10 x11 x12 x13 x14 x15 x16 x17 x18 x19 x20 x21 x22 x23 x24 x25 x26 x27 x28 x29 x30 x31 x32 x33 x34 x35 x36 x37 x38 x39 x40 x41 x42 x43 x44 x45 x46 x47 x48 x49 x50 x51 x52 x53 x54 x55 x56 x57 x58 x59 x60 x61 x62 x63 N
 have c := s59 e.link hl
 by_cases hz : e.link = []
 ·rw [hz] at h5
  have e0 : linkE [] = true := rfl
  rw [e0, if_pos rfl] at h5
  subst h5
  have ih := q97_6 e hl p lk' m u g sz tm ty u' h6 g' h7 tm' h8
  have gg:=trivial;repeat' first|simp (maxSteps:=2000000) (disch:=omega) only [gg,p97_5,decide_eq_true hz,go_sem]|(refine br ?_ ?_<;>intro gg<;>try omega)|(apply And.intro;focus omega)|omega
  apply ih
 ·rw [linkE_ne hz] at h5
  have hz2 := decide_eq_false hz
  cases hf : linkB e.link with
  | true =>
   rw [hf] at c h5
   rw [if_pos rfl] at h5
   subst h5
   have ih := q97_6 e hl p lk' m u g sz tm ty u' h6 g' h7 tm' h8
   have gg:=trivial;repeat' first|simp (maxSteps:=2000000) (disch:=omega) only [gg,p97_5,c,hz2,go_sem]|(refine br ?_ ?_<;>intro gg<;>try omega)|(apply And.intro;focus omega)|omega
   apply ih
  | false =>
   rw [hf] at c h5
   rw [if_neg (by decide)] at h5
   subst h5
   have ih := q97_6 e hl p [112, 97, 120] m u g sz tm ty u' h6 g' h7 tm' h8
   have gg:=trivial;repeat' first|simp (maxSteps:=2000000) (disch:=omega) only [gg,p97_5,c,hz2,go_sem]|(refine br ?_ ?_<;>intro gg<;>try omega)|(apply And.intro;focus omega)|omega
   apply ih
theorem q97_4 (e : Ent) (hl : e.link.length ≤ 1000000) (f : Bool) (p lk : List UInt8) (m u g sz tm : Int) (ty : UInt8) (p' : List UInt8) (h4 : p' = if f = true then p else [112, 97, 120]) (lk' : List UInt8) (h5 : lk' = if linkE e.link = true then lk else [112, 97, 120]) (u' : Int) (h6 : u' = if idB e.uid = true then u else 0) (g' : Int) (h7 : g' = if idB e.gid = true then g else 0) (tm' : Int) (h8 : tm' = if timeB e.time = true then tm else 0) : ∀ (x3 x5 x6 x8 x9 x10 x11 x12 x13 x14 x15 x16 x17 x18 x19 x20 x21 x22 x23 x24 x25 x26 x27 x28 x29 x30 x31 x32 x33 x34 x35 x36 x37 x38 x39 x40 x41 x42 x43 x44 x45 x46 x47 x48 x49 x50 x51 x52 x53 x54 x55 x56 x57 x58 x59 x60 x61 x62 x63 : AVal) (N : Nat), EX AA 0 p97_4 ⟨[e.av, .ptr 0 0, .ptr 32 0, x3, .ptr 736 0, x5, x6, .bool f, x8, x9, x10, x11, x12, x13, x14, x15, x16, x17, x18, x19, x20, x21, x22, x23, x24, x25, x26, x27, x28, x29, x30, x31, x32, x33, x34, x35, x36, x37, x38, x39, x40, x41, x42, x43, x44, x45, x46, x47, x48, x49, x50, x51, x52, x53, x54, x55, x56, x57, x58, x59, x60, x61, x62, x63], [(0, .var e.av.cells), (32, .var [.str [], .int .i64 0, .int .i64 0, .int .i64 0, .int .i64 0, .int .i64 0, .int .u8 0, .str []]), (736, .var [.str p, .int .i64 m, .int .i64 u, .int .i64 g, .int .i64 sz, .int .i64 tm, .int .u8 ty.toNat, .str lk])], N⟩ [] (FinH p' m u' g' sz tm' ty lk') := by
 intro x3 x5 x6 x8 x9 x10 x11 x12 x13 x14 x15 x16 x17 x18 x19 x20 x21 x22 x23 x24 x25 x26 x27 x28 x29 x30 x31 x32 x33 x34 x35 x36 x37 x38 x39 x40 x41 x42 x43 x44 x45 x46 x47 x48 x49 x50 x51 x52 x53 x54 x55 x56 x57 x58 x59 x60 x61 x62 x63 N
 cases f with
 | true =>
  rw [if_pos rfl] at h4
  subst h4
  have ih := q97_5 e hl p' lk m u g sz tm ty lk' h5 u' h6 g' h7 tm' h8
  have gg:=trivial;repeat' first|simp (maxSteps:=2000000) (disch:=omega) only [gg,p97_4,go_sem]|(refine br ?_ ?_<;>intro gg<;>try omega)|(apply And.intro;focus omega)|omega
  apply ih
 | false =>
  rw [if_neg (by decide)] at h4
  subst h4
  have ih := q97_5 e hl [112, 97, 120] lk m u g sz tm ty lk' h5 u' h6 g' h7 tm' h8
  have gg:=trivial;repeat' first|simp (maxSteps:=2000000) (disch:=omega) only [gg,p97_4,go_sem]|(refine br ?_ ?_<;>intro gg<;>try omega)|(apply And.intro;focus omega)|omega
  apply ih
theorem types_at {k : Int} (hk : k = 1 ∨ k = 2 ∨ k = 3 ∨ k = 4) : 0 ≤ k ∧ k ≤ 4 ∧ ([48, 53, 48, 50, 49] : List UInt8)[k.toNat]? = some (typeB k) := by
 rcases hk with h | h | h | h <;> subst h <;> exact ⟨by omega, by omega, rfl⟩
theorem s97 (e : Ent) (hp : e.path.length ≤ 1000000) (hl : e.link.length ≤ 1000000) (hk : e.kind = 1 ∨ e.kind = 2 ∨ e.kind = 3 ∨ e.kind = 4) : callT AA 97 [e.av] [] = some ((hdrE e (recsE e)).av, []) := by
 obtain ⟨k0, k1, hx⟩ := types_at hk
 have h57 := s57 e.path hp
 have l5 : ([48, 53, 48, 50, 49] : List UInt8).length = 5 := rfl
 rw [hdrE_eq]
 have ih := q97_4 e hl (splitN e.path).2.2 e.path e.link e.mode e.uid e.gid e.data.l.length e.time (typeB e.kind) _ rfl _ rfl _ rfl _ rfl _ rfl
 unfold FinH at ih
 refine enter fn97 np97 rfl ?_
 rw [b97_p]
 show EX AA 0 p97_0 _ [] (Fin [(2, some (8, true))] 0 _ [])
 have gg:=trivial;repeat' first|simp (maxSteps:=2000000) (disch:=omega) only [gg,p97_0,p97_1,p97_2,p97_3,hx,h57,l5,go_sem]|(refine br ?_ ?_<;>intro gg<;>try omega)|(apply And.intro;focus omega)|omega
 apply ih
end Go.Abs
namespace Go.Abs
open Am
set_option maxRecDepth 10000
theorem sl_own_both {sz id z off len : Nat} {k k' : IntKind} {i j : Int} : aSlice sz (.own id z off len false) (some (.int k i)) (some (.int k' j)) none = if 0 ≤ i ∧ i ≤ j ∧ j ≤ len ∧ z = sz then some (.own id z (off + i.toNat) (j.toNat - i.toNat) false) else none := by
 by_cases h0 : 0 ≤ i
 ·by_cases h1 : 0 ≤ j
  ·rw [sl_own (a := i.toNat) (c := j.toNat) (by simp [natOr, toNat?, h0]) (by simp [natOr, toNat?, h1])]
   simp only [true_or, and_true]
   have : (i.toNat ≤ j.toNat ∧ j.toNat ≤ len ∧ z = sz) = (0 ≤ i ∧ i ≤ j ∧ j ≤ len ∧ z = sz) := by
    apply propext
    constructor
    ·rintro ⟨a, b, c⟩; exact ⟨h0, by omega, by omega, c⟩
    ·rintro ⟨a, b, c, d⟩; exact ⟨by omega, by omega, d⟩
   exact (ite_congr this (fun _ => rfl) (fun _ => rfl))
  ·have hf : ¬ (0 ≤ i ∧ i ≤ j ∧ j ≤ len ∧ z = sz) := by omega
   rw [if_neg hf]
   simp [aSlice, bounds, natOr, toNat?, h1, h0]
 ·simp [aSlice, bounds, natOr, toNat?, h0]
theorem ldE_head {e : AVal} {r : List AVal} {o sz : Nat} {agg : Bool} {h : Heap} : ldE (e :: r) 0 o sz agg h = (part e.cells o sz agg).map (·, h) := rfl
theorem zero_eq (x : UInt8) : decide ((x.toNat : Int) = 0) = decide (x = 0) := by
 rw [Bool.eq_iff_iff]
 simp only [decide_eq_true_eq]
 constructor
 ·intro h
  have : x.toNat = 0 := by omega
  rw [← UInt8.toNat_inj, this]
  rfl
 ·rintro rfl
  rfl
end Go.Abs
namespace Go.Abs
open Am Lib
set_option maxRecDepth 20000
theorem ipow_le {n i j : Nat} (h0 : 0 < n) (h : i ≤ j) : (n : Int) ^ i ≤ (n : Int) ^ j := by
 have := Nat.pow_le_pow_right h0 h
 rw [← Int.natCast_pow, ← Int.natCast_pow]
 exact Int.ofNat_le.2 this
theorem h145 (b : BS) (hb : b.l.length ≤ 1000000000) (r0 : List UInt8) : ∀ (rest done : List UInt8) (i : Int), b.l = done ++ rest → i = done.length → r0 = done ++ aheadOf 0 rest →
  HD AA 0 [0, 2, 3] l145_0 ⟨[b.av, .junk, .str [], .int .i64 i, .junk, .junk, .junk, .junk, .junk, .junk, .junk, .junk, .junk, .junk, .junk, .junk, .junk, .junk, .junk, .junk, .junk], [], 0⟩ [.blk 0, .code r145_0] (Fin [(2, none)] 0 (.str r0) [])
 | [], done, i, h1, h2, h3 => by
  have hl : b.l.length = done.length := by rw [h1]; simp
  have hs : (b.sl 0 i.toNat).l = r0 := by
   rw [BS.sl_l, h1, h3]
   simp [h2, aheadOf]
  refine hd_of (by unfold l145_0; rfl) ?_
  have gg:=trivial;repeat' first|simp (maxSteps:=2000000) (disch:=omega) only [gg,r145_0,go_sem]|(refine br ?_ ?_<;>intro gg<;>try omega)|(apply And.intro;focus omega)|omega
  rw [hs]
 | x :: rest, done, i, h1, h2, h3 => by
  have hl : b.l.length = done.length + (rest.length + 1) := by rw [h1]; simp
  have hg0 : b.l[i.toNat]? = some x := by
   rw [h1]
   simp [h2]
  unfold aheadOf at h3
  refine hd_of (by unfold l145_0; rfl) ?_
  by_cases hx : x = 0
  ·have hx' : (x.toNat : Int) = 0 := by rw [hx]; rfl
   have hs : (b.sl 0 i.toNat).l = r0 := by
    rw [BS.sl_l, h1, h3]
    simp [h2, hx]
   have gg:=trivial;repeat' first|simp (maxSteps:=2000000) (disch:=omega) only [gg,hg0,hx',r145_0,go_sem]|(refine br ?_ ?_<;>intro gg<;>try omega)|(apply And.intro;focus omega)|omega
   rw [hs]
  ·have hx' : ¬ (x.toNat : Int) = 0 := by
    intro h
    have := zero_eq x
    simp [h, hx] at this
   rw [if_neg hx] at h3
   have ih := h145 b hb r0 rest (done ++ [x]) (i + 1) (by simp [h1]) (by first | omega | (simp; omega) | (simp; done)) (by rw [h3]; simp)
   have gg:=trivial;repeat' first|simp (maxSteps:=2000000) (disch:=omega) only [gg,hg0,hx',lp_head,go_sem]|(refine br ?_ ?_<;>intro gg<;>try omega)|(apply And.intro;focus omega)|omega
theorem s145 (b : BS) (hb : b.l.length ≤ 1000000000) : callT AA 145 [b.av] [] = some (.str (aheadOf 0 b.l), []) := by
 have hh := h145 b hb (aheadOf 0 b.l) b.l [] 0 rfl rfl (by simp)
 refine enter fn145 np145 rfl ?_
 have gg:=trivial;repeat' first|simp (maxSteps:=2000000) (disch:=omega) only [gg,b145,lp_head,go_sem]|(refine br ?_ ?_<;>intro gg<;>try omega)|(apply And.intro;focus omega)|omega
/-- octal digits, as the reference reads them -/
def octN : Int → List UInt8 → Int
 | acc, [] => acc
 | acc, c :: r => if 48 ≤ (c.toNat : Int) ∧ (c.toNat : Int) ≤ 55 then octN (8 * acc + ((c.toNat : Int) - 48)) r else -1
theorem h146 (s : BS) (hs : s.l.length ≤ 11) (r0 : Int) : ∀ (rest done : List UInt8) (acc i : Int), s.l = done ++ rest → i = done.length → 0 ≤ acc → (acc + 1) * 8 ^ rest.length ≤ 8589934592 → r0 = octN acc rest →
  HD AA 0 [0, 2, 3, 4] l146_0 ⟨[s.av, .junk, .int .i64 0, .int .i64 acc, .int .i64 i, .junk, .junk, .junk, .junk, .junk, .junk, .junk, .junk, .junk, .junk, .junk, .junk, .junk, .junk, .junk, .junk, .junk, .junk, .junk, .junk, .junk, .junk, .junk, .junk, .junk, .junk, .junk, .junk], [], 0⟩ [.blk 0, .code r146_0] (Fin [(2, none)] 0 (.int .i64 r0) [])
 | [], done, acc, i, h1, h2, h4, h5, h6 => by
  have hl : s.l.length = done.length := by rw [h1]; simp
  refine hd_of (by unfold l146_0; rfl) ?_
  unfold octN at h6
  rw [h6]
  have gg:=trivial;repeat' first|simp (maxSteps:=2000000) (disch:=omega) only [gg,r146_0,go_sem]|(refine br ?_ ?_<;>intro gg<;>try omega)|(apply And.intro;focus omega)|omega
 | x :: r, done, acc, i, h1, h2, h4, h5, h6 => by
  have hg0 : s.l[i.toNat]? = some x := by
   rw [h1]
   simp [h2]
  have hl : i.toNat < s.l.length := by rw [h1]; simp; omega
  have hx := x.toNat_lt
  have hp := pow8_pos r.length
  simp only [List.length_cons, Int.pow_succ] at h5
  have h5' : (acc + 1) * 8 * 8 ^ r.length ≤ 8589934592 := by
   rw [Int.mul_assoc, Int.mul_comm 8]
   exact h5
  have h7 : (acc + 1) * 8 ≤ 8589934592 := by
   refine Int.le_trans ?_ h5'
   have := Int.mul_le_mul_of_nonneg_left hp (show (0 : Int) ≤ (acc + 1) * 8 by omega)
   omega
  unfold octN at h6
  refine hd_of (by unfold l146_0; rfl) ?_
  by_cases hd : 48 ≤ (x.toNat : Int) ∧ (x.toNat : Int) ≤ 55
  ·have h8 : (8 * acc + ((x.toNat : Int) - 48) + 1) * 8 ^ r.length ≤ 8589934592 := by
    refine Int.le_trans (Int.mul_le_mul_of_nonneg_right ?_ (by omega)) h5'
    omega
   rw [if_pos hd] at h6
   obtain ⟨d1, d2⟩ := hd
   have ih := h146 s hs r0 r (done ++ [x]) (8 * acc + ((x.toNat : Int) - 48)) (i + 1) (by simp [h1]) (by first | omega | (simp; omega) | (simp; done)) (by omega) h8 h6
   clear h5 h5' h8 hp h6
   have gg:=trivial;repeat' first|simp (maxSteps:=2000000) (disch:=omega) only [gg,hg0,lp_head,go_sem]|(refine br ?_ ?_<;>intro gg<;>try omega)|(apply And.intro;focus omega)|omega
  ·rw [if_neg hd] at h6
   rw [h6]
   clear h5 h5' hp h6
   have gg:=trivial;repeat' first|simp (maxSteps:=2000000) (disch:=omega) only [gg,hg0,lp_head,go_sem]|(refine br ?_ ?_<;>intro gg<;>try omega)|(apply And.intro;focus omega)|omega
theorem s146 (s : BS) (hs : s.l.length ≤ 11) : callT AA 146 [s.av] [] = some (.int .i64 (octN 0 s.l), []) := by
 have hh := h146 s hs (octN 0 s.l) s.l [] 0 0 rfl rfl (by omega) (by
  have : (8 : Int) ^ s.l.length ≤ 8 ^ 11 := ipow_le (n := 8) (by omega) hs
  have e : (8 : Int) ^ 11 = 8589934592 := by decide
  omega) rfl
 refine enter fn146 np146 rfl ?_
 have gg:=trivial;repeat' first|simp (maxSteps:=2000000) (disch:=omega) only [gg,b146,lp_head,go_sem]|(refine br ?_ ?_<;>intro gg<;>try omega)|(apply And.intro;focus omega)|omega
theorem s105 (n : Int) (h0 : 0 ≤ n) (h1 : n ≤ 1000000000000) : callT AA 105 [.int .i64 n] [] = some (.int .i64 ((n + 511) / 512 * 512), []) := by
 have e1 : (0 : Int) < 1 → (n + 511).tdiv 512 = (n + 511) / 512 := fun _ => Int.tdiv_eq_ediv_of_nonneg (by omega)
 refine enter fn105 np105 rfl ?_
 have gg:=trivial;repeat' first|simp (maxSteps:=2000000) (disch:=omega) only [gg,b105,e1,go_sem]|(refine br ?_ ?_<;>intro gg<;>try omega)|(apply And.intro;focus omega)|omega
end Go.Abs
namespace Go.Abs
open Am Lib
set_option maxRecDepth 20000
def decR : Nat → Int → List UInt8 → Option Int
 | _, acc, [] => some acc
 | i, acc, c :: r => if (c.toNat : Int) < 48 ∨ 57 < (c.toNat : Int) ∨ 15 < i then none else decR (i + 1) (10 * acc + ((c.toNat : Int) - 48)) r
def numR1 (sg : Int) (s : List UInt8) : Int × Bool := match decR 0 0 s with
 | none => (0, false)
 | some n => (sg * n, decide (0 < (s.length : Int)))
def numR : List UInt8 → Int × Bool
 | [] => (0, false)
 | c :: r => if (c.toNat : Int) = 45 then numR1 (-1) r else numR1 1 (c :: r)
theorem h107 (s : List UInt8) (hs : s.length ≤ 1000000) (sg : Int) (hsg : sg = 1 ∨ sg = -1) (r0 : Int × Bool) : ∀ (rest done : List UInt8) (acc i : Int), s = done ++ rest → i = done.length → 0 ≤ acc → acc + 1 ≤ 10 ^ done.length → done.length ≤ 16 → r0 = (match decR done.length acc rest with
   | none => (0, false)
   | some n => (sg * n, decide (0 < (s.length : Int)))) →
  HD AA 0 [0, 2, 3, 4, 5, 6] l107_0 ⟨[.str s, .junk, .int .i64 0, .bool false, .int .i64 acc, .int .i64 sg, .int .i64 i, .junk, .junk, .junk, .junk, .junk, .junk, .junk, .junk, .junk, .junk, .junk, .junk, .junk, .junk, .junk, .junk, .junk, .junk, .junk, .junk, .junk, .junk, .junk, .junk, .junk, .junk, .junk, .junk, .junk, .junk, .junk, .junk, .junk, .junk, .junk, .junk, .junk, .junk, .junk, .junk, .junk, .junk, .junk, .junk], [], 0⟩ [.blk 0, .code r107_0] (Fin [(2, none), (3, none)] 0 (.tuple [.int .i64 r0.1, .bool r0.2]) [])
 | [], done, acc, i, h1, h2, h3, h4, h5, h6 => by
  have hl : i = s.length := by rw [h1]; simp [h2]
  have hb : acc ≤ 10000000000000000 := by
   have : (10 : Int) ^ done.length ≤ 10 ^ 16 := ipow_le (n := 10) (by omega) h5
   have e : (10 : Int) ^ 16 = 10000000000000000 := by decide
   omega
  simp only [decR] at h6
  rw [h6]
  clear h6 h4
  refine hd_of (by unfold l107_0; rfl) ?_
  rcases hsg with h | h
  all_goals
   subst h
   have gg:=trivial;repeat' first|simp (maxSteps:=2000000) (disch:=omega) only [gg,r107_0,go_sem]|(refine br ?_ ?_<;>intro gg<;>try omega)|(apply And.intro;focus omega)|omega
 | x :: rest, done, acc, i, h1, h2, h3, h4, h5, h6 => by
  have hg0 : s[i.toNat]? = some x := by
   rw [h1]
   simp [h2]
  have hl : i.toNat < s.length := by rw [h1]; simp; omega
  have hx := x.toNat_lt
  unfold decR at h6
  refine hd_of (by unfold l107_0; rfl) ?_
  by_cases hc : (x.toNat : Int) < 48 ∨ 57 < (x.toNat : Int) ∨ 15 < done.length
  ·rw [if_pos hc] at h6
   rw [h6]
   clear h4 h6
   rcases hc with hc | hc | hc
   all_goals (have gg:=trivial;repeat' first|simp (maxSteps:=2000000) (disch:=omega) only [gg,hg0,lp_head,go_sem]|(refine br ?_ ?_<;>intro gg<;>try omega)|(apply And.intro;focus omega)|omega)
  ·rw [if_neg hc] at h6
   have hb : acc ≤ 1000000000000000 := by
    have : (10 : Int) ^ done.length ≤ 10 ^ 15 := ipow_le (n := 10) (by omega) (by omega)
    have e : (10 : Int) ^ 15 = 1000000000000000 := by decide
    omega
   have hp : 10 * acc + ((x.toNat : Int) - 48) + 1 ≤ 10 ^ (done.length + 1) := by
    rw [Int.pow_succ]
    omega
   have ih := h107 s hs sg hsg r0 rest (done ++ [x]) (10 * acc + ((x.toNat : Int) - 48)) (i + 1) (by simp [h1]) (by first | omega | (simp; omega) | (simp; done)) (by omega) (by simpa using hp) (by simp; omega) (by simpa using h6)
   clear h4 h6 hp
   have gg:=trivial;repeat' first|simp (maxSteps:=2000000) (disch:=omega) only [gg,hg0,lp_head,go_sem]|(refine br ?_ ?_<;>intro gg<;>try omega)|(apply And.intro;focus omega)|omega
theorem s107 (s : List UInt8) (hs : s.length ≤ 1000000) : callT AA 107 [.str s] [] = some (.tuple [.int .i64 (numR s).1, .bool (numR s).2], []) := by
 refine enter fn107 np107 rfl ?_
 cases s with
 | nil =>
  have hh := h107 [] (by simp) 1 (.inl rfl) (0, false) [] [] 0 0 rfl rfl (by omega) (by simp) (by simp) rfl
  have e : numR [] = (0, false) := rfl
  rw [e]
  have gg:=trivial;repeat' first|simp (maxSteps:=2000000) (disch:=omega) only [gg,b107,lp_head,go_sem]|(refine br ?_ ?_<;>intro gg<;>try omega)|(apply And.intro;focus omega)|omega
 | cons c r =>
  simp only [List.length_cons] at hs
  by_cases hc : (c.toNat : Int) = 45
  ·have e : numR (c :: r) = numR1 (-1) r := if_pos hc
   rw [e]
   have hh := h107 r (by omega) (-1) (.inr rfl) (numR1 (-1) r) r [] 0 0 rfl rfl (by omega) (by simp) (by simp) rfl
   have gg:=trivial;repeat' first|simp (maxSteps:=2000000) (disch:=omega) only [gg,b107,hc,lp_head,go_sem]|(refine br ?_ ?_<;>intro gg<;>try omega)|(apply And.intro;focus omega)|omega
  ·have e : numR (c :: r) = numR1 1 (c :: r) := if_neg hc
   rw [e]
   have hh := h107 (c :: r) (by simp; omega) 1 (.inl rfl) (numR1 1 (c :: r)) (c :: r) [] 0 0 rfl rfl (by omega) (by simp) (by simp) rfl
   have gg:=trivial;repeat' first|simp (maxSteps:=2000000) (disch:=omega) only [gg,b107,hc,lp_head,go_sem]|(refine br ?_ ?_<;>intro gg<;>try omega)|(apply And.intro;focus omega)|omega
end Go.Abs
namespace Go.Abs
open Am Lib
set_option maxRecDepth 20000
def rawH (l : List UInt8) : Hd :=
 ⟨if textF l 345 155 = [] then textF l 0 100 else textF l 345 155 ++ [47] ++ textF l 0 100, octN 0 ((l.drop 100).take 7), octN 0 ((l.drop 108).take 7), octN 0 ((l.drop 116).take 7), octN 0 ((l.drop 124).take 11), octN 0 ((l.drop 136).take 11), l.getD 156 0, textF l 157 100⟩
theorem oct_byte (n : Int) : ((UInt8.ofNat (48 + n % 8).toNat).toNat : Int) = 48 + n % 8 := by
 have h : (UInt8.ofNat (48 + n % 8).toNat).toNat = (48 + n % 8).toNat := UInt8.toNat_ofNat_of_lt' (by simp [UInt8.size]; omega)
 rw [h]
 omega
theorem octD_dig : ∀ (k : Nat) (n : Int), ∀ c ∈ octD k n, 48 ≤ (c.toNat : Int) ∧ (c.toNat : Int) ≤ 55
 | 0, n, c, hc => by cases hc
 | k + 1, n, c, hc => by
  unfold octD at hc
  rcases List.mem_append.1 hc with hc | hc
  ·exact octD_dig k _ c hc
  ·rw [List.mem_singleton.1 hc, oct_byte]
   omega
theorem octN_snoc (x : Int) : ∀ (l : List UInt8) (acc : Int), (∀ c ∈ l, 48 ≤ (c.toNat : Int) ∧ (c.toNat : Int) ≤ 55) → octN acc (l ++ [UInt8.ofNat (48 + x % 8).toNat]) = 8 * octN acc l + x % 8
 | [], acc, _ => by
  have e : octN acc ([] ++ [UInt8.ofNat (48 + x % 8).toNat]) = if 48 ≤ (((UInt8.ofNat (48 + x % 8).toNat).toNat : Nat) : Int) ∧ (((UInt8.ofNat (48 + x % 8).toNat).toNat : Nat) : Int) ≤ 55 then 8 * acc + ((((UInt8.ofNat (48 + x % 8).toNat).toNat : Nat) : Int) - 48) else -1 := rfl
  rw [e, oct_byte, if_pos (by omega)]
  show 8 * acc + (48 + x % 8 - 48) = 8 * acc + x % 8
  omega
 | c :: l, acc, h => by
  have hc := h c (by simp)
  have e1 : ∀ r : List UInt8, octN acc (c :: r) = octN (8 * acc + ((c.toNat : Int) - 48)) r := fun r => if_pos hc
  rw [List.cons_append, e1, e1, octN_snoc x l _ fun y hy => h y (by simp [hy])]
theorem octN_oct : ∀ (k : Nat) (n : Int), 0 ≤ n → n < 8 ^ k → octN 0 (octD k n) = n
 | 0, n, h0, h1 => by
  simp at h1
  have : n = 0 := by omega
  rw [this]
  rfl
 | k + 1, n, h0, h1 => by
  have hd : n / 8 < 8 ^ k := by
   rw [Int.pow_succ] at h1
   omega
  unfold octD
  rw [octN_snoc _ _ _ (octD_dig _ _), octN_oct k (n / 8) (by omega) hd]
  omega
theorem rawH_blk {h : Hd} {pre name : List UInt8} (s : List UInt8) (hs : s.length = 8) (hf : FitsH h) (h1 : name.length ≤ 100) (h2 : pre.length ≤ 155) (h3 : ∀ c ∈ name, c ≠ 0) (h4 : ∀ c ∈ pre, c ≠ 0) : rawH (blkA h name ++ s ++ blkZ h pre) = ⟨if pre = [] then name else pre ++ [47] ++ name, h.mode, h.uid, h.gid, h.size, h.time, h.type, h.link⟩ := by
 have l1 := fillT_length h1
 have l2 := fillT_length h2
 have l3 := fillT_length hf.link.1
 have o7 := octD_length 7
 have o11 := octD_length 11
 have hm : magicB.length = 8 := rfl
 have p7 : (8 : Int) ^ 7 = 2097152 := rfl
 have p11 : (8 : Int) ^ 11 = 8589934592 := rfl
 have c1 : textF (blkA h name ++ s ++ blkZ h pre) 0 100 = name := by
  unfold textF blkA
  have e : ((fillT name 100 ++ octD 7 h.mode ++ [0] ++ octD 7 h.uid ++ [0] ++ octD 7 h.gid ++ [0] ++ octD 11 h.size ++ [0] ++ octD 11 h.time ++ [0] ++ s ++ blkZ h pre).drop 0).take 100 = fillT name 100 := by
   simp only [List.append_assoc]
   exact dt_mid (a := []) (by simp) l1.symm
  rw [e, aheadOf_fill h3]
 have c2 : octN 0 (((blkA h name ++ s ++ blkZ h pre).drop 100).take 7) = h.mode := by
  have e : ((blkA h name ++ s ++ blkZ h pre).drop 100).take 7 = octD 7 h.mode := by
   unfold blkA
   simp only [List.append_assoc]
   exact dt_mid (a := fillT name 100) (by simp [l1]) (o7 _).symm
  rw [e, octN_oct 7 _ hf.mode.1 (by rw [p7]; exact hf.mode.2)]
 have c3 : octN 0 (((blkA h name ++ s ++ blkZ h pre).drop 108).take 7) = h.uid := by
  have e : ((blkA h name ++ s ++ blkZ h pre).drop 108).take 7 = octD 7 h.uid := by
   unfold blkA
   have := dt_mid (a := fillT name 100 ++ octD 7 h.mode ++ [0]) (x := octD 7 h.uid) (c := [0] ++ octD 7 h.gid ++ [0] ++ octD 11 h.size ++ [0] ++ octD 11 h.time ++ [0] ++ s ++ blkZ h pre) (i := 108) (n := 7) (by simp [l1, o7]) (o7 _).symm
   simpa only [List.append_assoc] using this
  rw [e, octN_oct 7 _ hf.uid.1 (by rw [p7]; exact hf.uid.2)]
 have c4 : octN 0 (((blkA h name ++ s ++ blkZ h pre).drop 116).take 7) = h.gid := by
  have e : ((blkA h name ++ s ++ blkZ h pre).drop 116).take 7 = octD 7 h.gid := by
   unfold blkA
   have := dt_mid (a := fillT name 100 ++ octD 7 h.mode ++ [0] ++ octD 7 h.uid ++ [0]) (x := octD 7 h.gid) (c := [0] ++ octD 11 h.size ++ [0] ++ octD 11 h.time ++ [0] ++ s ++ blkZ h pre) (i := 116) (n := 7) (by simp [l1, o7]) (o7 _).symm
   simpa only [List.append_assoc] using this
  rw [e, octN_oct 7 _ hf.gid.1 (by rw [p7]; exact hf.gid.2)]
 have c5 : octN 0 (((blkA h name ++ s ++ blkZ h pre).drop 124).take 11) = h.size := by
  have e : ((blkA h name ++ s ++ blkZ h pre).drop 124).take 11 = octD 11 h.size := by
   unfold blkA
   have := dt_mid (a := fillT name 100 ++ octD 7 h.mode ++ [0] ++ octD 7 h.uid ++ [0] ++ octD 7 h.gid ++ [0]) (x := octD 11 h.size) (c := [0] ++ octD 11 h.time ++ [0] ++ s ++ blkZ h pre) (i := 124) (n := 11) (by simp [l1, o7]) (o11 _).symm
   simpa only [List.append_assoc] using this
  rw [e, octN_oct 11 _ hf.size.1 (by rw [p11]; exact hf.size.2)]
 have c6 : octN 0 (((blkA h name ++ s ++ blkZ h pre).drop 136).take 11) = h.time := by
  have e : ((blkA h name ++ s ++ blkZ h pre).drop 136).take 11 = octD 11 h.time := by
   unfold blkA
   have := dt_mid (a := fillT name 100 ++ octD 7 h.mode ++ [0] ++ octD 7 h.uid ++ [0] ++ octD 7 h.gid ++ [0] ++ octD 11 h.size ++ [0]) (x := octD 11 h.time) (c := [0] ++ s ++ blkZ h pre) (i := 136) (n := 11) (by simp [l1, o7, o11]) (o11 _).symm
   simpa only [List.append_assoc] using this
  rw [e, octN_oct 11 _ hf.time.1 (by rw [p11]; exact hf.time.2)]
 have hA : (blkA h name ++ s).length = 156 := by simp [blkA_length h1, hs]
 have c7 : (blkA h name ++ s ++ blkZ h pre).getD 156 0 = h.type := by
  rw [List.getD, List.getElem?_append_right (by omega), hA]
  rfl
 have c8 : textF (blkA h name ++ s ++ blkZ h pre) 157 100 = h.link := by
  have e : ((blkA h name ++ s ++ blkZ h pre).drop 157).take 100 = fillT h.link 100 := by
   have := dt_mid (a := blkA h name ++ s ++ [h.type]) (x := fillT h.link 100) (c := magicB ++ zs 64 ++ octD 7 0 ++ [0] ++ octD 7 0 ++ [0] ++ fillT pre 155 ++ zs 12) (i := 157) (n := 100) (by rw [List.length_append, hA]; rfl) l3.symm
   unfold blkZ
   simpa only [List.append_assoc] using this
  unfold textF
  rw [e, aheadOf_fill (ascii_ne hf.link.2)]
 have c9 : textF (blkA h name ++ s ++ blkZ h pre) 345 155 = pre := by
  have e : ((blkA h name ++ s ++ blkZ h pre).drop 345).take 155 = fillT pre 155 := by
   have := dt_mid (a := blkA h name ++ s ++ ([h.type] ++ fillT h.link 100 ++ magicB ++ zs 64 ++ octD 7 0 ++ [0] ++ octD 7 0 ++ [0])) (x := fillT pre 155) (c := zs 12) (i := 345) (n := 155) (by rw [List.length_append, hA]; simp [l3, hm, o7]) l2.symm
   unfold blkZ
   simpa only [List.append_assoc] using this
  unfold textF
  rw [e, aheadOf_fill h4]
 unfold rawH
 rw [c1, c2, c3, c4, c5, c6, c7, c8, c9]
theorem rawH_encB {h : Hd} (hok : encOk h = true) : rawH (encB h) = h := by
 obtain ⟨k1, hf⟩ := encOk_parts hok
 obtain ⟨ha, s1, s2, s3, s4⟩ := splitN_ok k1
 rw [encB_blk s2 s1 hf.link.1]
 have ne := ascii_ne ha
 have n1 : ∀ c ∈ (splitN h.path).2.1, c ≠ 0 := by
  intro c hc
  rcases s4 with ⟨_, e⟩ | ⟨_, e⟩
  ·exact ne c (by rw [← e]; exact hc)
  ·exact ne c (by rw [e]; simp [hc])
 have n2 : ∀ c ∈ (splitN h.path).1, c ≠ 0 := by
  intro c hc
  rcases s4 with ⟨e, _⟩ | ⟨_, e⟩
  ·rw [e] at hc; cases hc
  ·exact ne c (by rw [e]; simp [hc])
 unfold blk
 rw [rawH_blk _ (by simp [sumD, octD_length]) hf s2 s1 n1 n2]
 rcases s4 with ⟨e1, e2⟩ | ⟨e1, e2⟩
 ·rw [if_pos e1, e2]
 ·rw [if_neg e1, ← e2]
theorem decOk_raw (b : List UInt8) : decOk b = (encOk (rawH b) && decide (encB (rawH b) = b)) := by
 cases h : decOk b with
 | true =>
  unfold decOk at h
  simp only [Bool.and_eq_true, decide_eq_true_eq] at h
  have hr : rawH b = decH b := by
   have := rawH_encB h.1
   rw [h.2] at this
   exact this
  rw [hr, h.1, h.2]
  simp
 | false =>
  symm
  apply Bool.eq_false_iff.2
  intro hh
  simp only [Bool.and_eq_true, decide_eq_true_eq] at hh
  have := decOk_encB hh.1
  rw [hh.2, h] at this
  cases this
theorem raw_dec {b : List UInt8} (h : decOk b = true) : rawH b = decH b := by
 unfold decOk at h
 simp only [Bool.and_eq_true, decide_eq_true_eq] at h
 have := rawH_encB h.1
 rw [h.2] at this
 exact this
set_option maxHeartbeats 4000000 in
theorem s139no (h : Hd) (hp : h.path.length ≤ 1000000) (hl : h.link.length ≤ 1000000) (hok : encOk h = false) : callT AA 139 [h.av] [] = some (.bool false, []) := by
 have h1 := s57 h.path hp
 have h2 := s59 h.link hl
 have m1 := s58 h.mode
 have m2 := s58 h.uid
 have m3 := s58 h.gid
 have m4 := s60 h.size
 have m5 := s60 h.time
 obtain ⟨p, md, u, g, sz, tm, ty, lk⟩ := h
 have t49 : ((ty.toNat : Int) = 49) = (ty = 49) := ty_eq _ 49 (by omega)
 have t50 : ((ty.toNat : Int) = 50) = (ty = 50) := ty_eq _ 50 (by omega)
 have t53 : ((ty.toNat : Int) = 53) = (ty = 53) := ty_eq _ 53 (by omega)
 have t48 : ((ty.toNat : Int) = 48) = (ty = 48) := ty_eq _ 48 (by omega)
 have t120 : ((ty.toNat : Int) = 120) = (ty = 120) := ty_eq _ 120 (by omega)
 unfold encOk fitsB at hok
 simp only [Hd.av] at *
 generalize (splitN p).2.2 = f0 at *
 generalize idB md = f1 at *
 generalize idB u = f2 at *
 generalize idB g = f3 at *
 generalize timeB sz = f4 at *
 generalize timeB tm = f5 at *
 generalize linkB lk = f6 at *
 refine enter fn139 np139 rfl ?_
 by_cases hz : f0 = true ∧ f1 = true ∧ f2 = true ∧ f3 = true ∧ f4 = true ∧ f5 = true
 ·obtain ⟨a, b, c, d, e, f⟩ := hz
  subst a b c d e f
  simp only [Bool.and_true, Bool.true_and] at hok
  have gg:=trivial;repeat' first|simp (maxSteps:=2000000) (disch:=omega) only [gg,b139,h1,h2,m1,m2,m3,m4,m5,t49,t50,t53,t48,t120,go_sem]|(refine br ?_ ?_<;>intro gg<;>try omega)|(apply And.intro;focus omega)|omega
  all_goals (clear h1 h2 m1 m2 m3 m4 m5 t49 t50 t53 t48 t120 hp hl)
  all_goals first | (simp_all; done) | (subst_vars; simp_all; done) | (revert hok; subst_vars; simp; done) | trace_state
 ·clear hok
  cases f0
  ·have gg:=trivial;repeat' first|simp (maxSteps:=2000000) (disch:=omega) only [gg,b139,h1,t49,t50,t53,t48,t120,go_sem]|(refine br ?_ ?_<;>intro gg<;>try omega)|(apply And.intro;focus omega)|omega
  ·cases f1
   ·have gg:=trivial;repeat' first|simp (maxSteps:=2000000) (disch:=omega) only [gg,b139,h1,m1,t49,t50,t53,t48,t120,go_sem]|(refine br ?_ ?_<;>intro gg<;>try omega)|(apply And.intro;focus omega)|omega
   ·cases f2
    ·have gg:=trivial;repeat' first|simp (maxSteps:=2000000) (disch:=omega) only [gg,b139,h1,m1,m2,t49,t50,t53,t48,t120,go_sem]|(refine br ?_ ?_<;>intro gg<;>try omega)|(apply And.intro;focus omega)|omega
    ·cases f3
     ·have gg:=trivial;repeat' first|simp (maxSteps:=2000000) (disch:=omega) only [gg,b139,h1,m1,m2,m3,t49,t50,t53,t48,t120,go_sem]|(refine br ?_ ?_<;>intro gg<;>try omega)|(apply And.intro;focus omega)|omega
     ·cases f4
      ·have gg:=trivial;repeat' first|simp (maxSteps:=2000000) (disch:=omega) only [gg,b139,h1,m1,m2,m3,m4,t49,t50,t53,t48,t120,go_sem]|(refine br ?_ ?_<;>intro gg<;>try omega)|(apply And.intro;focus omega)|omega
      ·cases f5
       ·have gg:=trivial;repeat' first|simp (maxSteps:=2000000) (disch:=omega) only [gg,b139,h1,m1,m2,m3,m4,m5,t49,t50,t53,t48,t120,go_sem]|(refine br ?_ ?_<;>intro gg<;>try omega)|(apply And.intro;focus omega)|omega
       ·exact (hz (by simp)).elim
theorem s95no (h : Hd) (hp : h.path.length ≤ 1000000) (hl : h.link.length ≤ 1000000) (hok : encOk h = false) : callT AA 95 [h.av] [] = some (.tuple [.lit (.slice none 0 0), .int .i64 14], []) := by
 have c139 := s139no h hp hl hok
 simp only [Hd.av] at *
 refine enter fn95 np95 rfl ?_
 have gg:=trivial;repeat' first|simp (maxSteps:=2000000) (disch:=omega) only [gg,b95,c139,go_sem]|(refine br ?_ ?_<;>intro gg<;>try omega)|(apply And.intro;focus omega)|omega
end Go.Abs
namespace Go.Abs
open Am Lib
set_option maxRecDepth 20000
theorem f145 (b : BS) (i j at_ k : Nat) (h1 : i = at_) (h2 : j = at_ + k) (hb : b.l.length = 512) : callT AA 145 [(b.sl i j).av] [] = some (.str (textF b.l at_ k), []) := by
 have e : (b.sl i j).l = (b.l.drop at_).take k := by
  rw [BS.sl_l, h1, h2, Nat.add_sub_cancel_left]
 have := s145 (b.sl i j) (by rw [e]; simp; omega)
 rw [e] at this
 exact this
theorem f146 (b : BS) (i j at_ k : Nat) (h1 : i = at_) (h2 : j = at_ + k) (hk : k ≤ 11) : callT AA 146 [(b.sl i j).av] [] = some (.int .i64 (octN 0 ((b.l.drop at_).take k)), []) := by
 have e : (b.sl i j).l = (b.l.drop at_).take k := by
  rw [BS.sl_l, h1, h2, Nat.add_sub_cancel_left]
 have := s146 (b.sl i j) (by rw [e]; simp; omega)
 rw [e] at this
 exact this
set_option maxHeartbeats 8000000 in
theorem s104 (b : BS) (h : b.l.length = 512) : callT AA 104 [b.av] [] = some (if decOk b.l = true then .tuple [(decH b.l).av, .int .i64 0] else .tuple [hd0.av, .int .i64 14], []) := by
 have t1 := f145 b 0 100 0 100 rfl rfl h
 have t2 := f145 b 157 257 157 100 rfl rfl h
 have t3 := f145 b 345 500 345 155 rfl rfl h
 have n1 := f146 b 100 107 100 7 rfl rfl (by omega)
 have n2 := f146 b 108 115 108 7 rfl rfl (by omega)
 have n3 := f146 b 116 123 116 7 rfl rfl (by omega)
 have n4 := f146 b 124 135 124 11 rfl rfl (by omega)
 have n5 := f146 b 136 147 136 11 rfl rfl (by omega)
 have l1 := textF_le b.l 0 100
 have l2 := textF_le b.l 157 100
 have l3 := textF_le b.l 345 155
 have hx : b.l[156]? = some (b.l.getD 156 0) := by
  rw [List.getD, List.getElem?_eq_getElem (by omega)]
  rfl
 have hH : (rawH b.l).av = .agg [.str (rawH b.l).path, .int .i64 (octN 0 ((b.l.drop 100).take 7)), .int .i64 (octN 0 ((b.l.drop 108).take 7)), .int .i64 (octN 0 ((b.l.drop 116).take 7)), .int .i64 (octN 0 ((b.l.drop 124).take 11)), .int .i64 (octN 0 ((b.l.drop 136).take 11)), .int .u8 (b.l.getD 156 0).toNat, .str (textF b.l 157 100)] := rfl
 have lp : (rawH b.l).path.length ≤ 1000000 := by
  show (if textF b.l 345 155 = [] then textF b.l 0 100 else textF b.l 345 155 ++ [47] ++ textF b.l 0 100).length ≤ 1000000
  split
  ·omega
  ·simp; omega
 have hp : (rawH b.l).path = if textF b.l 345 155 = [] then textF b.l 0 100 else textF b.l 345 155 ++ [47] ++ textF b.l 0 100 := rfl
 have ey := s95 (rawH b.l) lp (by show (textF b.l 157 100).length ≤ 1000000; omega)
 have en := s95no (rawH b.l) lp (by show (textF b.l 157 100).length ≤ 1000000; omega)
 have hlen := encB_length (rawH b.l)
 have hr : (if decOk b.l = true then AVal.tuple [(decH b.l).av, .int .i64 0] else .tuple [hd0.av, .int .i64 14]) = if (encOk (rawH b.l) && decide (encB (rawH b.l) = b.l)) = true then .tuple [(rawH b.l).av, .int .i64 0] else .tuple [hd0.av, .int .i64 14] := by
  rw [← decOk_raw]
  split
  ·rename_i hd
   rw [raw_dec hd]
  ·rfl
 rw [hr]
 rw [hH] at ey en ⊢
 clear hr hH
 generalize encB (rawH b.l) = B at *
 generalize encOk (rawH b.l) = ok at *
 generalize (rawH b.l).path = P at *
 generalize textF b.l 345 155 = T3 at *
 generalize textF b.l 157 100 = T2 at *
 generalize textF b.l 0 100 = T1 at *
 generalize octN 0 ((b.l.drop 100).take 7) = N1 at *
 generalize octN 0 ((b.l.drop 108).take 7) = N2 at *
 generalize octN 0 ((b.l.drop 116).take 7) = N3 at *
 generalize octN 0 ((b.l.drop 124).take 11) = N4 at *
 generalize octN 0 ((b.l.drop 136).take 11) = N5 at *
 generalize b.l.getD 156 0 = ty at *
 have et : (B.map AVal.byte).take 512 = B.map .byte := List.take_of_length_le (by simp [hlen])
 refine enter fn104 np104 rfl ?_
 by_cases h3 : T3 = []
 ·rw [if_pos h3] at hp
  subst hp
  have d3 := decide_eq_true h3
  cases ok with
  | false =>
   have en := en rfl
   have gg:=trivial;repeat' first|simp (maxSteps:=2000000) (disch:=omega) only [gg,b104,t1,t2,t3,n1,n2,n3,n4,n5,hx,en,d3,h,et,go_sem]|(refine br ?_ ?_<;>intro gg<;>try omega)|(apply And.intro;focus omega)|omega
   all_goals rfl
  | true =>
   have ey := ey rfl
   have gg:=trivial;repeat' first|simp (maxSteps:=2000000) (disch:=omega) only [gg,b104,t1,t2,t3,n1,n2,n3,n4,n5,hx,ey,d3,h,et,hlen,go_sem]|(refine br ?_ ?_<;>intro gg<;>try omega)|(apply And.intro;focus omega)|omega
   all_goals first | rfl | trace_state
 ·rw [if_neg h3] at hp
  subst hp
  have d3 := decide_eq_false h3
  cases ok with
  | false =>
   have en := en rfl
   have gg:=trivial;repeat' first|simp (maxSteps:=2000000) (disch:=omega) only [gg,b104,t1,t2,t3,n1,n2,n3,n4,n5,hx,en,d3,h,et,go_sem]|(refine br ?_ ?_<;>intro gg<;>try omega)|(apply And.intro;focus omega)|omega
   all_goals first | rfl | trace_state
  | true =>
   have ey := ey rfl
   have gg:=trivial;repeat' first|simp (maxSteps:=2000000) (disch:=omega) only [gg,b104,t1,t2,t3,n1,n2,n3,n4,n5,hx,ey,d3,h,et,hlen,go_sem]|(refine br ?_ ?_<;>intro gg<;>try omega)|(apply And.intro;focus omega)|omega
   all_goals first | rfl | trace_state
end Go.Abs
namespace Go.Abs
open Am Lib
set_option maxRecDepth 20000
def cutAt (line : List UInt8) (n i : Nat) : Rcd := ⟨(line.drop (n + 1)).take (i - (n + 1)), (line.drop (i + 1)).take (line.length - 1 - (i + 1))⟩
def cutOk (line : List UInt8) (r : Rcd) : Bool := lineOk r.key r.value && decide (lineB r.key r.value = line)
def cutS (line : List UInt8) (n : Nat) : Nat → Nat → Rcd × Bool
 | 0, _ => (rcd0, false)
 | k + 1, i => if line[i]? = some 61 then (cutAt line n i, cutOk line (cutAt line n i)) else cutS line n k (i + 1)
def cutR (line : List UInt8) (n : Nat) : Rcd × Bool := cutS line n (line.length - 1 - (n + 1)) (n + 1)
set_option maxHeartbeats 8000000 in
theorem h147 (line : List UInt8) (hl : line.length ≤ 1000000) (n : Int) (N : Nat) (hn : n = N) (hN : N ≤ 1000000) (r0 : Rcd × Bool) : ∀ (k I : Nat) (i : Int), i = I → k = line.length - 1 - I → N + 1 ≤ I → r0 = cutS line N k I →
  HD AA 0 [0, 1, 4, 5, 6] l147_0 ⟨[.str line, .int .i64 n, .junk, .junk, .ptr 0 0, .bool false, .int .i64 i, .junk, .junk, .junk, .junk, .junk, .junk, .junk, .junk, .junk, .junk, .junk, .junk, .junk, .junk, .junk, .junk, .junk, .junk, .junk, .junk, .junk, .junk, .junk, .junk, .junk, .junk, .junk, .junk, .junk, .junk, .junk, .junk, .junk, .junk, .junk, .junk, .junk, .junk, .junk, .junk, .junk, .junk, .junk, .junk, .junk, .junk], [(0, .var [.str [], .str []])], 1⟩ [.blk 0, .code r147_0] (Fin [(4, some (2, true)), (5, none)] 0 (.tuple [r0.1.av, .bool r0.2]) [])
 | 0, I, i, h1, h2, h3, h4 => by
  simp only [cutS] at h4
  rw [h4]
  refine hd_of (by unfold l147_0; rfl) ?_
  have gg:=trivial;repeat' first|simp (maxSteps:=2000000) (disch:=omega) only [gg,r147_0,go_sem]|(refine br ?_ ?_<;>intro gg<;>try omega)|(apply And.intro;focus omega)|omega
  all_goals rfl
 | k + 1, I, i, h1, h2, h3, h4 => by
  have hI : I + 1 < line.length := by omega
  obtain ⟨x, hx⟩ : ∃ x, line[I]? = some x := ⟨_, List.getElem?_eq_getElem (by omega)⟩
  have hg : line[i.toNat]? = some x := by
   rw [show i.toNat = I by omega]
   exact hx
  unfold cutS at h4
  refine hd_of (by unfold l147_0; rfl) ?_
  by_cases hc : x = 61
  ·rw [hx, if_pos (by rw [hc])] at h4
   have hx' : (x.toNat : Int) = 61 := by rw [hc]; rfl
   have en : n.toNat = N := by omega
   have ei : i.toNat = I := by omega
   have el : ((line.length : Int) - 1).toNat = line.length - 1 := by omega
   obtain ⟨K, hK⟩ : ∃ K, (line.drop (N + 1)).take (I - (N + 1)) = K := ⟨_, rfl⟩
   obtain ⟨V, hV⟩ : ∃ V, (line.drop (I + 1)).take (line.length - 1 - (I + 1)) = V := ⟨_, rfl⟩
   have lK : K.length ≤ 1000000 := by rw [← hK]; simp; omega
   have lV : V.length ≤ 1000000 := by rw [← hV]; simp; omega
   have c := s138 K V lK lV
   have h4 : r0 = (⟨K, V⟩, lineOk K V && decide (lineB K V = line)) := by
    rw [h4, ← hK, ← hV]
    rfl
   rw [h4]
   simp only [Rcd.av]
   cases hok : lineOk K V with
   | false =>
    rw [hok, if_neg (by simp)] at c
    have gg:=trivial;repeat' first|simp (maxSteps:=2000000) (disch:=omega) only [gg,hx,hx',en,ei,el,hK,hV,c,r147_0,go_sem]|(refine br ?_ ?_<;>intro gg<;>try omega)|(apply And.intro;focus omega)|omega
   | true =>
    rw [hok, if_pos rfl] at c
    have gg:=trivial;repeat' first|simp (maxSteps:=2000000) (disch:=omega) only [gg,hx,hx',en,ei,el,hK,hV,c,r147_0,go_sem]|(refine br ?_ ?_<;>intro gg<;>try omega)|(apply And.intro;focus omega)|omega
  ·rw [hx, if_neg (by simpa using hc)] at h4
   have hx' : ¬ (x.toNat : Int) = 61 := by
    intro h
    apply hc
    rw [← UInt8.toNat_inj]
    have : (61 : UInt8).toNat = 61 := rfl
    omega
   have ih := h147 line hl n N hn hN r0 k (I + 1) (i + 1) (by omega) (by omega) (by omega) h4
   simp only [Rcd.av] at ih
   have gg:=trivial;repeat' first|simp (maxSteps:=2000000) (disch:=omega) only [gg,hg,hx',lp_head,go_sem]|(refine br ?_ ?_<;>intro gg<;>try omega)|(apply And.intro;focus omega)|omega
theorem s147 (line : List UInt8) (hl : line.length ≤ 1000000) (n : Int) (N : Nat) (hn : n = N) (hN : N ≤ 1000000) : callT AA 147 [.str line, .int .i64 n] [] = some (.tuple [(cutR line N).1.av, .bool (cutR line N).2], []) := by
 have hh := h147 line hl n N hn hN (cutR line N) (line.length - 1 - (N + 1)) (N + 1) (n + 1) (by omega) rfl (Nat.le_refl _) rfl
 simp only [Rcd.av] at hh ⊢
 refine enter fn147 np147 rfl ?_
 have gg:=trivial;repeat' first|simp (maxSteps:=2000000) (disch:=omega) only [gg,b147,lp_head,go_sem]|(refine br ?_ ?_<;>intro gg<;>try omega)|(apply And.intro;focus omega)|omega
end Go.Abs
namespace Go.Abs
open Am Lib
set_option maxRecDepth 20000
/-- the digits ahead: how many, and their number -/
def dgR : Nat → Nat → Int → List UInt8 → Nat × Int
 | 0, n, a, _ => (n, a)
 | _ + 1, n, a, [] => (n, a)
 | k + 1, n, a, c :: r => if 48 ≤ (c.toNat : Int) ∧ (c.toNat : Int) ≤ 57 then dgR k (n + 1) (10 * a + ((c.toNat : Int) - 48)) r else (n, a)
theorem dgR_le : ∀ (k n : Nat) (a : Int) (l : List UInt8), 0 ≤ a → a + 1 ≤ 10 ^ n → n ≤ (dgR k n a l).1 ∧ (dgR k n a l).1 ≤ n + l.length ∧ 0 ≤ (dgR k n a l).2 ∧ (dgR k n a l).2 + 1 ≤ 10 ^ (n + k)
 | 0, n, a, l, h0, h1 => ⟨Nat.le_refl _, by simp [dgR], h0, h1⟩
 | k + 1, n, a, [], h0, h1 => by
  refine ⟨Nat.le_refl _, by simp [dgR], h0, ?_⟩
  show a + 1 ≤ 10 ^ (n + (k + 1))
  exact Int.le_trans h1 (ipow_le (n := 10) (by omega) (by omega))
 | k + 1, n, a, c :: r, h0, h1 => by
  unfold dgR
  split
  ·rename_i hc
   have := dgR_le k (n + 1) (10 * a + ((c.toNat : Int) - 48)) r (by omega) (by rw [Int.pow_succ]; omega)
   refine ⟨by omega, by simp; omega, this.2.2.1, ?_⟩
   rw [show n + (k + 1) = n + 1 + k by omega]
   exact this.2.2.2
  ·refine ⟨Nat.le_refl _, by simp, h0, ?_⟩
   exact Int.le_trans h1 (ipow_le (n := 10) (by omega) (by omega))
def decQ : Nat → Option Rcd → List Rcd → List UInt8 → Option (List Rcd)
 | 0, _, acc, _ => some acc
 | k + 1, p, acc, l => if l = [] then some acc else
  if (l.length : Int) < (dgR 6 0 0 l).2 ∨ (dgR 6 0 0 l).2 ≤ (dgR 6 0 0 l).1 then none else
  if (cutR (l.take (dgR 6 0 0 l).2.toNat) (dgR 6 0 0 l).1).2 = false then none else
  if aftB p (cutR (l.take (dgR 6 0 0 l).2.toNat) (dgR 6 0 0 l).1).1 = false then none else
  decQ k (some (cutR (l.take (dgR 6 0 0 l).2.toNat) (dgR 6 0 0 l).1).1) (acc ++ [(cutR (l.take (dgR 6 0 0 l).2.toNat) (dgR 6 0 0 l).1).1]) (l.drop (dgR 6 0 0 l).2.toNat)
def paxQ (l : List UInt8) : Option (List Rcd) := if 65536 < l.length then none else decQ l.length none [] l
def pqV (x : Option (List Rcd)) : AVal := match x with
 | none => .tuple [.lit (.slice none 0 0), .int .i64 15]
 | some [] => .tuple [.lit (.slice none 0 0), .int .i64 0]
 | some (r :: rs) => .tuple [.own 0 2 0 (r :: rs).length false, .int .i64 0]
theorem bl_not (a b : List UInt8) : (Op.bytesLess b a || decide (b = a)) = !Op.bytesLess a b := bl_total a b
abbrev SQ : List Frame := [.blk 2, .code r106_0, .blk 1, .loop [0, 2, 3, 4, 5] l106_1, .blk 0, .code r106_1]
set_option maxHeartbeats 16000000 in
/-- behind the digits -/
theorem x106o (r0 : Option (List Rcd)) (b : BS) (hb : b.l.length ≤ 1000000) (hl0 : 0 < b.l.length) (p : Rcd) (acc rs : List Rcd) (q : Nat) (hrs : rs = acc ++ [p]) (hq : q = rs.length) (hrl : rs.length ≤ 1000001) (k : Nat) (h5 : r0 = decQ (k + 1) (some p) rs b.l)
  (IH : ∀ (b' : BS) (r : Rcd), b'.l.length < b.l.length → r0 = decQ k (some r) (rs ++ [r]) b'.l → HD AA 0 [0, 2, 3, 4, 5] l106_1 ⟨[b'.av, .junk, .lit (.slice none 0 0), .int .i64 0, .int .i64 15, .own 0 2 0 (q + 1) false, .junk, .junk, .junk, .junk, .junk, .junk, .junk, .junk, .junk, .junk, .junk, .junk, .junk, .junk, .junk, .junk, .junk, .junk, .junk, .junk, .junk, .junk, .junk, .junk, .junk, .junk, .junk, .junk, .junk, .junk, .junk, .junk, .junk, .junk, .junk, .junk, .junk, .junk, .junk, .junk, .junk, .junk, .junk, .junk, .junk, .junk, .junk, .junk, .junk, .junk, .junk, .junk, .junk, .junk, .junk, .junk, .junk, .junk, .junk, .junk, .junk, .junk, .junk, .junk, .junk, .junk, .junk, .junk, .junk, .junk, .junk, .junk, .junk, .junk, .junk, .junk, .junk, .junk, .junk, .junk, .junk, .junk, .junk, .junk, .junk, .junk, .junk, .junk, .junk, .junk, .junk], [(0, .row ((rs ++ [r]).map Rcd.av) 2)], 1⟩ [.blk 0, .code r106_1] (Fin [(2, none), (3, none)] 0 (pqV r0) (pdH r0)))
  (N : Nat) (n a : Int) (h3 : n = N) (h4 : 0 ≤ a) (ha : a ≤ 999999) (hN : N ≤ 6) (hd : dgR 6 0 0 b.l = (N, a)) :
  ∀ x8 x9 x10 x11 x12 x13 x14 x15 x16 x17 x18 x19 x20 x21 x22 x23 x24 x25 x26 x27 x28 x29 x30 x31 x32 x33 x34 x35 x36 x37 x38 x39 x40 x41 x42 x43 x44 x45 x46 x47 x48 x49 x50 x51 x52 x53 x54 x55 x56 x57 x58 x59 x60 x61 x62 x63 x64 x65 x66 x67 x68 x69 x70 x71 x72 x73 x74 x75 x76 x77 x78 x79 x80 x81 x82 x83 x84 x85 x86 x87 x88 x89 x90 x91 x92 x93 x94 x95 x96 : AVal, EX AA 0 r106_0 ⟨[b.av, .junk, .lit (.slice none 0 0), .int .i64 0, .int .i64 15, .own 0 2 0 q false, .int .i64 n, .int .i64 a, x8, x9, x10, x11, x12, x13, x14, x15, x16, x17, x18, x19, x20, x21, x22, x23, x24, x25, x26, x27, x28, x29, x30, x31, x32, x33, x34, x35, x36, x37, x38, x39, x40, x41, x42, x43, x44, x45, x46, x47, x48, x49, x50, x51, x52, x53, x54, x55, x56, x57, x58, x59, x60, x61, x62, x63, x64, x65, x66, x67, x68, x69, x70, x71, x72, x73, x74, x75, x76, x77, x78, x79, x80, x81, x82, x83, x84, x85, x86, x87, x88, x89, x90, x91, x92, x93, x94, x95, x96], [(0, .row (rs.map Rcd.av) 2)], 705⟩ [.blk 1, .loop [0, 2, 3, 4, 5] l106_1, .blk 0, .code r106_1] (Fin [(2, none), (3, none)] 0 (pqV r0) (pdH r0)) := by
 intro x8 x9 x10 x11 x12 x13 x14 x15 x16 x17 x18 x19 x20 x21 x22 x23 x24 x25 x26 x27 x28 x29 x30 x31 x32 x33 x34 x35 x36 x37 x38 x39 x40 x41 x42 x43 x44 x45 x46 x47 x48 x49 x50 x51 x52 x53 x54 x55 x56 x57 x58 x59 x60 x61 x62 x63 x64 x65 x66 x67 x68 x69 x70 x71 x72 x73 x74 x75 x76 x77 x78 x79 x80 x81 x82 x83 x84 x85 x86 x87 x88 x89 x90 x91 x92 x93 x94 x95 x96
 have hne : b.l ≠ [] := by intro h; rw [h] at hl0; simp at hl0
 unfold decQ at h5
 rw [hd, if_neg hne] at h5
 simp only at h5
 have hg1 : rs[q - 1]? = some p := by rw [hq, hrs]; simp
 have hg2 : ((q : Int) - 1).toNat = q - 1 := by omega
 have hq0 : 0 < rs.length := by rw [hrs]; simp
 have et : (rs.map Rcd.av).take q = rs.map Rcd.av := List.take_of_length_le (by simp; omega)
 have eb : (b.sl 0 a.toNat).l = b.l.take a.toNat := by rw [BS.sl_l]; simp
 by_cases hB1 : (b.l.length : Int) < a
 ·rw [if_pos (.inl hB1)] at h5
  rw [h5]
  unfold pqV pdH
  clear IH h5
  have gg:=trivial;repeat' first|simp (maxSteps:=2000000) (disch:=omega) only [gg,r106_0,go_sem]|(refine br ?_ ?_<;>intro gg<;>try omega)|(apply And.intro;focus omega)|omega
 by_cases hB2 : a ≤ N
 ·rw [if_pos (.inr hB2)] at h5
  rw [h5]
  unfold pqV pdH
  clear IH h5
  have gg:=trivial;repeat' first|simp (maxSteps:=2000000) (disch:=omega) only [gg,r106_0,go_sem]|(refine br ?_ ?_<;>intro gg<;>try omega)|(apply And.intro;focus omega)|omega
 rw [if_neg (fun h => h.elim hB1 hB2)] at h5
 have c147 := s147 (b.l.take a.toNat) (by simp; omega) n N h3 (by omega)
 generalize cutR (b.l.take a.toNat) N = P at *
 obtain ⟨r, ok⟩ := P
 simp only [Rcd.av] at c147
 simp only at h5
 have IH := IH (b.sl a.toNat b.l.length) r (by rw [BS.sl_l]; simp; omega)
 rw [BS.sl_l, List.take_of_length_le (by simp)] at IH
 simp only [List.map_append, List.map_cons, List.map_nil, Rcd.av] at IH
 cases ok with
 | false =>
  rw [if_pos rfl] at h5
  rw [h5]
  unfold pqV pdH
  clear IH h5
  have gg:=trivial;repeat' first|simp (maxSteps:=2000000) (disch:=omega) only [gg,eb,c147,r106_0,go_sem]|(refine br ?_ ?_<;>intro gg<;>try omega)|(apply And.intro;focus omega)|omega
 | true =>
  rw [if_neg (by simp)] at h5
  cases ha' : aftB (some p) r with
  | false =>
   rw [ha', if_pos rfl] at h5
   rw [h5]
   unfold pqV pdH
   clear IH h5
   simp only [aftB] at ha'
   have gg:=trivial;repeat' first|simp (maxSteps:=2000000) (disch:=omega) only [gg,eb,c147,hg1,hg2,bl_not,ha',r106_0,go_sem]|(refine br ?_ ?_<;>intro gg<;>try omega)|(apply And.intro;focus omega)|omega
  | true =>
   rw [ha', if_neg (by simp)] at h5
   have IH := IH h5
   simp only [aftB] at ha'
   clear h5
   have gg:=trivial;repeat' first|simp (maxSteps:=2000000) (disch:=omega) only [gg,eb,c147,hg1,hg2,bl_not,ha',et,r106_0,lp_head,go_sem]|(refine br ?_ ?_<;>intro gg<;>try omega)|(apply And.intro;focus omega)|omega
set_option maxHeartbeats 16000000 in
/-- the digits of a line -/
theorem i106o (r0 : Option (List Rcd)) (b : BS) (hb : b.l.length ≤ 1000000) (hl0 : 0 < b.l.length) (p : Rcd) (acc rs : List Rcd) (q : Nat) (hrs : rs = acc ++ [p]) (hq : q = rs.length) (hrl : rs.length ≤ 1000001) (k : Nat) (h5 : r0 = decQ (k + 1) (some p) rs b.l)
  (IH : ∀ (b' : BS) (r : Rcd), b'.l.length < b.l.length → r0 = decQ k (some r) (rs ++ [r]) b'.l → HD AA 0 [0, 2, 3, 4, 5] l106_1 ⟨[b'.av, .junk, .lit (.slice none 0 0), .int .i64 0, .int .i64 15, .own 0 2 0 (q + 1) false, .junk, .junk, .junk, .junk, .junk, .junk, .junk, .junk, .junk, .junk, .junk, .junk, .junk, .junk, .junk, .junk, .junk, .junk, .junk, .junk, .junk, .junk, .junk, .junk, .junk, .junk, .junk, .junk, .junk, .junk, .junk, .junk, .junk, .junk, .junk, .junk, .junk, .junk, .junk, .junk, .junk, .junk, .junk, .junk, .junk, .junk, .junk, .junk, .junk, .junk, .junk, .junk, .junk, .junk, .junk, .junk, .junk, .junk, .junk, .junk, .junk, .junk, .junk, .junk, .junk, .junk, .junk, .junk, .junk, .junk, .junk, .junk, .junk, .junk, .junk, .junk, .junk, .junk, .junk, .junk, .junk, .junk, .junk, .junk, .junk, .junk, .junk, .junk, .junk, .junk, .junk], [(0, .row ((rs ++ [r]).map Rcd.av) 2)], 1⟩ [.blk 0, .code r106_1] (Fin [(2, none), (3, none)] 0 (pqV r0) (pdH r0))) :
  ∀ (j : Nat) (rest done : List UInt8) (N : Nat) (n a : Int), b.l = done ++ rest → N = done.length → n = N → 0 ≤ a → a + 1 ≤ 10 ^ N → j + N = 6 → dgR 6 0 0 b.l = dgR j N a rest →
  HD AA 0 [0, 2, 3, 4, 5, 6, 7] l106_0 ⟨[b.av, .junk, .lit (.slice none 0 0), .int .i64 0, .int .i64 15, .own 0 2 0 q false, .int .i64 n, .int .i64 a, .junk, .junk, .junk, .junk, .junk, .junk, .junk, .junk, .junk, .junk, .junk, .junk, .junk, .junk, .junk, .junk, .junk, .junk, .junk, .junk, .junk, .junk, .junk, .junk, .junk, .junk, .junk, .junk, .junk, .junk, .junk, .junk, .junk, .junk, .junk, .junk, .junk, .junk, .junk, .junk, .junk, .junk, .junk, .junk, .junk, .junk, .junk, .junk, .junk, .junk, .junk, .junk, .junk, .junk, .junk, .junk, .junk, .junk, .junk, .junk, .junk, .junk, .junk, .junk, .junk, .junk, .junk, .junk, .junk, .junk, .junk, .junk, .junk, .junk, .junk, .junk, .junk, .junk, .junk, .junk, .junk, .junk, .junk, .junk, .junk, .junk, .junk, .junk, .junk], [(0, .row (rs.map Rcd.av) 2)], 1⟩ SQ (Fin [(2, none), (3, none)] 0 (pqV r0) (pdH r0)) := by
 intro j rest done N n a h1 h2 h3 h4 h6 h7 h8
 have hbl : b.l.length = done.length + rest.length := by rw [h1]; simp
 by_cases hc : ∃ c r, rest = c :: r ∧ j ≠ 0 ∧ 48 ≤ (c.toNat : Int) ∧ (c.toNat : Int) ≤ 57
 ·obtain ⟨c, r, rfl, hj, hc1, hc2⟩ := hc
  obtain ⟨j', rfl⟩ : ∃ j', j = j' + 1 := ⟨j - 1, by omega⟩
  have hg0 : b.l[n.toNat]? = some c := by
   rw [h1]
   simp [h3, h2]
  have hx := c.toNat_lt
  simp only [List.length_cons] at hbl
  have ha : a ≤ 100000 := by
   have : (10 : Int) ^ N ≤ 10 ^ 5 := ipow_le (n := 10) (by omega) (by omega)
   have e : (10 : Int) ^ 5 = 100000 := by decide
   omega
  have h9 : dgR (j' + 1) N a (c :: r) = dgR j' (N + 1) (10 * a + ((c.toNat : Int) - 48)) r := if_pos ⟨hc1, hc2⟩
  rw [h9] at h8
  clear h9
  have ih := i106o r0 b hb hl0 p acc rs q hrs hq hrl k h5 IH j' r (done ++ [c]) (N + 1) (n + 1) (10 * a + ((c.toNat : Int) - 48)) (by simp [h1]) (by simp [h2]) (by omega) (by omega) (by rw [Int.pow_succ]; omega) (by omega) h8
  clear h6 h5 IH h8
  dsimp only [SQ] at ih ⊢
  refine hd_of (by unfold l106_0; rfl) ?_
  have gg:=trivial;repeat' first|simp (maxSteps:=2000000) (disch:=omega) only [gg,hg0,lp_head,go_sem]|(refine br ?_ ?_<;>intro gg<;>try omega)|(apply And.intro;focus omega)|omega
 ·have hd : dgR 6 0 0 b.l = (N, a) := by
   rw [h8]
   cases j with
   | zero => rfl
   | succ j' =>
    cases rest with
    | nil => rfl
    | cons c r =>
     exact if_neg fun hh => hc ⟨c, r, rfl, by omega, hh.1, hh.2⟩
  have ha : a ≤ 999999 := by
   have : (10 : Int) ^ N ≤ 10 ^ 6 := ipow_le (n := 10) (by omega) (by omega)
   have e : (10 : Int) ^ 6 = 1000000 := by decide
   omega
  have X := x106o r0 b hb hl0 p acc rs q hrs hq hrl k h5 IH N n a h3 h4 ha (by omega) hd
  dsimp only [SQ]
  clear h5 IH h8 h6 hd
  cases rest with
  | nil =>
   simp only [List.length_nil] at hbl
   clear hc
   refine hd_of (by unfold l106_0; rfl) ?_
   have gg:=trivial;repeat' first|simp (maxSteps:=2000000) (disch:=omega) only [gg,lp_head,go_sem]|(refine br ?_ ?_<;>intro gg<;>try omega)|(apply And.intro;focus omega)|omega
   all_goals exact X _ _ _ _ _ _ _ _ _ _ _ _ _ _ _ _ _ _ _ _ _ _ _ _ _ _ _ _ _ _ _ _ _ _ _ _ _ _ _ _ _ _ _ _ _ _ _ _ _ _ _ _ _ _ _ _ _ _ _ _ _ _ _ _ _ _ _ _ _ _ _ _ _ _ _ _ _ _ _ _ _ _ _ _ _ _ _ _ _
  | cons c r =>
   have hg0 : b.l[n.toNat]? = some c := by
    rw [h1]
    simp [h3, h2]
   simp only [List.length_cons] at hbl
   by_cases hj : j = 0
   ·clear hc
    refine hd_of (by unfold l106_0; rfl) ?_
    have gg:=trivial;repeat' first|simp (maxSteps:=2000000) (disch:=omega) only [gg,lp_head,go_sem]|(refine br ?_ ?_<;>intro gg<;>try omega)|(apply And.intro;focus omega)|omega
    all_goals exact X _ _ _ _ _ _ _ _ _ _ _ _ _ _ _ _ _ _ _ _ _ _ _ _ _ _ _ _ _ _ _ _ _ _ _ _ _ _ _ _ _ _ _ _ _ _ _ _ _ _ _ _ _ _ _ _ _ _ _ _ _ _ _ _ _ _ _ _ _ _ _ _ _ _ _ _ _ _ _ _ _ _ _ _ _ _ _ _ _
   ·have hcc : (c.toNat : Int) < 48 ∨ 57 < (c.toNat : Int) := by
     have : ¬ (48 ≤ (c.toNat : Int) ∧ (c.toNat : Int) ≤ 57) := fun hh => hc ⟨c, r, rfl, hj, hh.1, hh.2⟩
     omega
    clear hc
    refine hd_of (by unfold l106_0; rfl) ?_
    rcases hcc with hcc | hcc
    all_goals (have gg:=trivial;repeat' first|simp (maxSteps:=2000000) (disch:=omega) only [gg,hg0,lp_head,go_sem]|(refine br ?_ ?_<;>intro gg<;>try omega)|(apply And.intro;focus omega)|omega)
    all_goals exact X _ _ _ _ _ _ _ _ _ _ _ _ _ _ _ _ _ _ _ _ _ _ _ _ _ _ _ _ _ _ _ _ _ _ _ _ _ _ _ _ _ _ _ _ _ _ _ _ _ _ _ _ _ _ _ _ _ _ _ _ _ _ _ _ _ _ _ _ _ _ _ _ _ _ _ _ _ _ _ _ _ _ _ _ _ _ _ _ _
termination_by j => j
end Go.Abs
