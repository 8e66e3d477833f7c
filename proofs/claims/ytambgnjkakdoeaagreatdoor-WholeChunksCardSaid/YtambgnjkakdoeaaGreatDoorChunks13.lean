import Derived.Test.YtambgnjkakdoeaaGreatDoorChunks12
import Derived.Lib.ValidLaws
/- PART OF A PROOF (texts joined by a program): B9 F86 B5 F60 F61 F62 F63 F64 F65 F66 F70 F71 B6 F72 F73 F67 F74 F75 F76 F77 F78 F79 F80 F81 F68 F69 F82 B4 F83 F84 F43 F44 F91 F85 F87 F125. -/
set_option linter.unusedVariables false
set_option linter.unusedSimpArgs false
set_option linter.unusedSectionVars false
namespace Go.Abs
def l40_0 : ACode := (.seq (rg [oo 9 (.bin .lss .other false (.t 8) (.t 7))]) (.seq (.cond (.t 9) .skip (.exit 0)) (.seq (.block 1 (.seq (rg [oo 10 (.ixa 8 (.t 6) (.t 8)), oo 11 (.ld 8 true (.t 10)), oo 5 (.alloc [(.str []), (.int .i64 0), (.int .i64 0), (.int .i64 0), (.int .i64 0), (.int .i64 0), (.str []), (.lit (.slice none 0 0))]), ⟨none, (.st 8 (.t 5) (.t 11)), none⟩]) (.seq (rg [mv 12 3, oo 13 (.fa 7 (.t 5)), oo 14 (.ld 1 false (.t 13)), oo 15 (.len 1 (.t 14)), oo 16 (.bin .add .other true (ci 512) (.t 15)), oo 17 (.fa 0 (.t 5)), oo 18 (.ld 1 false (.t 17)), oo 19 (.len 0 (.t 18)), oo 20 (.bin .add .other false (.t 16) (.t 19)), oo 21 (.fa 6 (.t 5)), oo 22 (.ld 1 false (.t 21)), oo 23 (.len 0 (.t 22)), oo 24 (.bin .add .other false (.t 20) (.t 23)), oo 25 (.bin .add .other false (.t 12) (.t 24)), mv 3 25]) (.seq (rg [mv 26 3, oo 27 (.bin .gtr .other true (.t 26) (ci 65536))]) (.cond (.t 27) (.seq (rg [oo 2 (.mov (.c (.bool false)))]) .ret) .skip))))) (rg [oo 28 (.bin .add .other true (.t 8) (ci 1)), mv 8 28]))))
def r40_0 : ACode := (.seq (rg [oo 2 (.mov (.c (.bool true)))]) .ret)
def b40 : AFn := ⟨1, 29, [(2, none)], (.seq (rg [oo 2 (.mov (.c (.bool false)))]) (.seq (rg [oo 3 (.mov (ci 0))]) (.seq (.seq (rg [mv 6 0, oo 7 (.len 1 (.t 6)), oo 8 (.mov (ci 0))]) (.block 0 (.loop [2, 3, 6, 7, 8] l40_0))) r40_0)))⟩
theorem fn40 : AA.fn 40 = some b40 := by kernel_rfl
theorem np40 : AA.prim 40 = none := rfl
end Go.Abs
namespace Go.Abs
open Am
set_option maxRecDepth 20000
theorem h40 (c tmp : Bool) (t : List Ent) (ht : t.length ≤ 140737488351232) (hq : ∀ e ∈ t, EntL e) (r0 : Bool) : ∀ (rest done : List Ent) (acc n i : Int), t = done ++ rest → i = done.length → n = t.length → 0 ≤ acc → acc ≤ 65536 → r0 = !largeB acc rest →
  HD AA 0 [2, 3, 6, 7, 8] l40_0 ⟨[.junk, .junk, .bool false, .int .i64 acc, .junk, .junk, .view 8 (t.map Ent.av) c tmp, .int .i64 n, .int .i64 i, .junk, .junk, .junk, .junk, .junk, .junk, .junk, .junk, .junk, .junk, .junk, .junk, .junk, .junk, .junk, .junk, .junk, .junk, .junk, .junk], [], 0⟩ [.blk 0, .code r40_0] (Fin [(2, none)] 0 (.bool r0) [])
 | [], done, acc, n, i, h1, h2, h3, h4, h5, h6 => by
  subst h1
  simp at h3
  refine hd_of (by unfold l40_0; rfl) ?_
  simp only [largeB, Bool.not_false] at h6
  rw [h6]
  have gg:=trivial;repeat' first|simp (maxSteps:=2000000) (disch:=omega) only [gg,r40_0,go_sem]|(refine br ?_ ?_<;>intro gg<;>try omega)|(apply And.intro;focus omega)|omega
 | e :: rest, done, acc, n, i, h1, h2, h3, h4, h5, h6 => by
  have hg0 : t[i.toNat]? = some e := by
   rw [h1]
   simp [h2]
  have hl : i.toNat < t.length := by rw [h1]; simp; omega
  obtain ⟨l1, l2, l3⟩ := hq e (by simp [h1])
  unfold largeB at h6
  refine hd_of (by unfold l40_0; rfl) ?_
  by_cases hc : 65536 < acc + (512 + (e.data.l.length : Int) + e.path.length + e.link.length)
  ·rw [if_pos hc, Bool.not_true] at h6
   rw [h6]
   have gg:=trivial;repeat' first|simp (maxSteps:=2000000) (disch:=omega) only [gg,hg0,lp_head,go_sem]|(refine br ?_ ?_<;>intro gg<;>try omega)|(apply And.intro;focus omega)|omega
  ·rw [if_neg hc] at h6
   have ih := h40 c tmp t ht hq r0 rest (done ++ [e]) (acc + (512 + (e.data.l.length : Int) + e.path.length + e.link.length)) n (i + 1) (by simp [h1]) (by first | omega | (simp; omega) | (simp; done)) h3 (by omega) (by omega) h6
   have gg:=trivial;repeat' first|simp (maxSteps:=2000000) (disch:=omega) only [gg,hg0,lp_head,go_sem]|(refine br ?_ ?_<;>intro gg<;>try omega)|(apply And.intro;focus omega)|omega
theorem s40 (c tmp : Bool) (t : List Ent) (ht : t.length ≤ 140737488351232) (hq : ∀ e ∈ t, EntL e) : callT AA 40 [.view 8 (t.map Ent.av) c tmp] [] = some (.bool (!largeB 0 t), []) := by
 have hh := h40 c tmp t ht hq (!largeB 0 t) t [] 0 t.length 0 rfl rfl rfl (by omega) (by omega) rfl
 refine enter fn40 np40 rfl ?_
 have gg:=trivial;repeat' first|simp (maxSteps:=2000000) (disch:=omega) only [gg,b40,lp_head,go_sem]|(refine br ?_ ?_<;>intro gg<;>try omega)|(apply And.intro;focus omega)|omega
theorem s40n : callT AA 40 [.lit (.slice none 0 0)] [] = some (.bool true, []) := by
 refine enter fn40 np40 rfl ?_
 have gg:=trivial;repeat' first|simp (maxSteps:=2000000) (disch:=omega) only [gg,b40,lp_head,go_sem]|(refine br ?_ ?_<;>intro gg<;>try omega)|(apply And.intro;focus omega)|omega
 refine hd_of (by unfold l40_0; rfl) ?_
 have gg:=trivial;repeat' first|simp (maxSteps:=2000000) (disch:=omega) only [gg,r40_0,go_sem]|(refine br ?_ ?_<;>intro gg<;>try omega)|(apply And.intro;focus omega)|omega
instance decSame {x y : Ent} : Decidable (SameE x y) := by
 unfold SameE
 infer_instance
end Go.Abs
namespace Go.Abs
end Go.Abs
namespace Go.Abs
open Am
set_option maxRecDepth 10000
end Go.Abs
namespace Go.Abs
open Am Lib
set_option maxRecDepth 10000
end Go.Abs
namespace Go.Abs
open Am Lib
set_option maxRecDepth 10000
end Go.Abs
namespace Go.Abs
open Am Lib
set_option maxRecDepth 10000
end Go.Abs
namespace Go.Abs
open Am Lib
set_option maxRecDepth 10000
end Go.Abs
namespace Go.Abs
open Am Lib
set_option maxRecDepth 10000
end Go.Abs
namespace Go.Abs
open Am Lib
set_option maxRecDepth 10000
end Go.Abs
namespace Go.Abs
open Am Lib
set_option maxRecDepth 10000
end Go.Abs
namespace Go.Abs
open Am Lib
set_option maxRecDepth 10000
end Go.Abs
namespace Go.Abs
end Go.Abs
namespace Go.Abs
open Am Lib
set_option maxRecDepth 10000
end Go.Abs
namespace Go.Abs
open Am Lib
set_option maxRecDepth 10000
end Go.Abs
namespace Go.Abs
open Am Lib
set_option maxRecDepth 10000
end Go.Abs
namespace Go.Abs
open Am Lib
set_option maxRecDepth 10000
end Go.Abs
namespace Go.Abs
open Am Lib
set_option maxRecDepth 10000
end Go.Abs
namespace Go.Abs
open Am Lib
set_option maxRecDepth 20000
end Go.Abs
namespace Go.Abs
open Am Lib
set_option maxRecDepth 20000
end Go.Abs
namespace Go.Abs
open Am Lib
set_option maxRecDepth 20000
end Go.Abs
namespace Go.Abs
open Am Lib
set_option maxRecDepth 20000
end Go.Abs
namespace Go.Abs
open Am Lib
set_option maxRecDepth 20000
end Go.Abs
namespace Go.Abs
open Am Lib
set_option maxRecDepth 20000
end Go.Abs
namespace Go.Abs
open Am Lib
set_option maxRecDepth 10000
end Go.Abs
namespace Go.Abs
open Am Lib
set_option maxRecDepth 10000
end Go.Abs
namespace Go.Abs
open Am Lib
set_option maxRecDepth 20000
end Go.Abs
namespace Go.Abs
def b19 : AFn := ⟨1, 19, [(2, none)], (.seq (rg [oo 2 (.mov (ci 0))]) (.seq (.seq (rg [mv 5 0, oo 6 (.bin .eql (.iface [58]) true (.t 5) (.c (.lit .nilIface)))]) (.cond (.t 6) (.seq (rg [oo 2 (.mov (ci 0))]) .ret) .skip)) (.seq (rg [mv 8 0, oo 9 (.tass 58 true (.int .i64 0) (.t 8)), mv 7 9, oo 10 (.ext (.t 7) 0), oo 11 (.ext (.t 7) 1), mv 3 10, mv 4 11]) (.seq (.seq (rg [mv 12 4, oo 13 (.un .not (.t 12)), mv 14 13, og 15 (.mov (.t 3)) 14 false, og 16 (.bin .eql .other true (.t 15) (ci 0)) 14 false, oo 17 (.pick (.t 14) (.c (.bool true)) (.t 16))]) (.cond (.t 17) (.seq (rg [oo 2 (.mov (.c (.int .i64 (-1))))]) .ret) .skip)) (.seq (rg [mv 18 3, mv 2 18]) .ret)))))⟩
theorem fn19 : AA.fn 19 = some b19 := by kernel_rfl
theorem np19 : AA.prim 19 = none := rfl
end Go.Abs
namespace Go.Abs
open Am Lib
set_option maxRecDepth 100000
theorem s19w (n : Int) (hn : n ≠ 0) : callT AA 19 [.iface 58 (.int .i64 n)] [] = some (.int .i64 n, []) := by
 refine enter fn19 np19 rfl ?_
 have gg:=trivial;repeat' first|simp (maxSteps:=2000000) (disch:=omega) only [gg,b19,go_sem]|(refine br ?_ ?_<;>intro gg<;>try omega)|(apply And.intro;focus omega)|omega
end Go.Abs
namespace Go.Abs
open Am Lib
set_option maxRecDepth 100000
theorem entB_small {e : Ent} (h : EntW e) (h1 : e.data.l.length ≤ 65536 ∧ e.path.length ≤ 65536 ∧ e.link.length ≤ 65536) : EntB e := ⟨h.gid.1, h.gid.2, h.uid.1, h.uid.2, h.time.1, h.time.2, by omega, by omega⟩
end Go.Abs
namespace Go.Abs
open Am
set_option maxRecDepth 100000
end Go.Abs
namespace Go.Abs
open Am
set_option maxRecDepth 100000
end Go.Abs
namespace Go.Abs
open Am
set_option maxRecDepth 100000
end Go.Abs
namespace Go.Abs
open Am
set_option maxRecDepth 10000
def rcW (rs : List Rcd) : Nat := (rs.map fun r => r.key.length + r.value.length + 10).sum
theorem rcW_cons (r : Rcd) (rs : List Rcd) : rcW (r :: rs) = r.key.length + r.value.length + 10 + rcW rs := by simp [rcW]
theorem rcW_app (a b : List Rcd) : rcW (a ++ b) = rcW a + rcW b := by simp [rcW]
theorem rcW_recIf (f : Bool) (k v : List UInt8) : rcW (recIf f k v) ≤ k.length + v.length + 10 := by
 unfold recIf
 split
 ·simp [rcW]
 ·simp [rcW]
theorem paxE_len : ∀ (rs : List Rcd) (p : Option Rcd) (out o : List UInt8), paxE p out rs = some o → o.length ≤ out.length + rcW rs
 | [], p, out, o, h => by
  simp only [paxE, Option.some.injEq] at h
  subst h
  omega
 | r :: rs, p, out, o, h => by
  unfold paxE at h
  split at h
  ·rename_i hs
   have ih := paxE_len rs _ _ o h
   simp only [paxStep, lineOk, kwB, Bool.and_eq_true, decide_eq_true_eq] at hs
   have hl := lineB_length (k := r.key) (v := r.value) (by omega) (by omega)
   rw [List.length_append] at ih
   rw [rcW_cons]
   omega
  ·cases h
theorem recsE_w {e : Ent} (hb : EntB e) : rcW (recsE e) ≤ e.path.length + e.link.length + 200 := by
 obtain ⟨b1, b2, b3, b4, b5, b6, b7, b8⟩ := hb
 have i1 := itoa_le b1 b2
 have i2 := itoa_le b3 b4
 have i3 := itoa_le b5 b6
 have r1 := rcW_recIf (idB e.gid) gidB (Lib.itoa e.gid)
 have r2 := rcW_recIf (linkE e.link) linkpathB e.link
 have r3 := rcW_recIf (timeB e.time) mtimeB (Lib.itoa e.time)
 have r4 := rcW_recIf (splitN e.path).2.2 pathB e.path
 have r5 := rcW_recIf (idB e.uid) uidB (Lib.itoa e.uid)
 have g1 : gidB.length = 3 := rfl
 have g2 : linkpathB.length = 8 := rfl
 have g3 : mtimeB.length = 5 := rfl
 have g4 : pathB.length = 4 := rfl
 have g5 : uidB.length = 3 := rfl
 unfold recsE rst3 rst4 rst5 rst6 rst7
 rw [rcW_app, rcW_app, rcW_app, rcW_app]
 omega
theorem bodyE_len {e : Ent} (hb : EntB e) : (bodyE e).length ≤ e.path.length + e.link.length + 200 := by
 unfold bodyE
 cases h : paxE none [] (recsE e) with
 | none => simp
 | some o =>
  have h1 := paxE_len _ _ _ _ h
  have h2 := recsE_w hb
  simp only [List.length_nil, Nat.zero_add] at h1
  show o.length ≤ _
  omega
def entWt (e : Ent) : Nat := 512 + e.data.l.length + e.path.length + e.link.length
theorem piece_short {n : Int} {e : Ent} (hb : EntB e) : (pieceL n e).length ≤ entWt e + 2300 := by
 have h1 := encB_length (hdrE e (recsE e))
 have h2 := encB_length (hdX n (bodyE e))
 have h3 := padL_length e.data.l
 have h4 := padL_length (bodyE e)
 have h5 := padN_lt e.data.l.length
 have h6 := padN_lt (bodyE e).length
 have h7 := bodyE_len hb
 unfold pieceL preE entWt
 split
 ·simp only [List.length_append, List.length_nil]
  omega
 ·simp only [List.length_append]
  omega
theorem large_sum : ∀ (t : List Ent) (n : Nat), n ≤ 65536 → largeB n t = false → n + (t.map entWt).sum ≤ 65536
 | [], n, h, _ => by simpa using h
 | e :: r, n, h, hb => by
  unfold largeB at hb
  split at hb
  ·cases hb
  ·rename_i hc
   have e1 : (n : Int) + (512 + (e.data.l.length : Int) + e.path.length + e.link.length) = ((n + entWt e : Nat) : Int) := by
    unfold entWt
    omega
   rw [e1] at hb hc
   have ih := large_sum r (n + entWt e) (by omega) hb
   simp only [List.map_cons, List.sum_cons]
   omega
theorem out_short : ∀ (t : List Ent) (i : Nat), (∀ e ∈ t, EntB e) → (outL i t).length ≤ (t.map entWt).sum + 2300 * t.length
 | [], _, _ => by simp [outL]
 | e :: r, i, h => by
  have h1 := piece_short (n := i) (h e (by simp))
  have ih := out_short r (i + 1) fun x hx => h x (by simp [hx])
  simp only [outL, List.length_append, List.map_cons, List.sum_cons, List.length_cons]
  omega
theorem write_short {t : List Ent} (hb : largeB 0 t = false) (h : ∀ e ∈ t, EntB e) : (writeL t).length ≤ 400000 ∧ 0 < (writeL t).length := by
 have h1 := large_len hb
 have h2 := large_sum t 0 (by omega) hb
 have h3 := out_short t 0 h
 unfold writeL
 rw [List.length_append, zeros1024_length]
 omega
end Go.Abs
namespace Go.Abs
open Am
set_option maxRecDepth 100000
end Go.Abs
namespace Go.Abs
set_option maxRecDepth 20000
theorem w40c (t : Option (List Ent)) (ht : ∀ e ∈ esL t, EntW e) (hl : (esL t).length ≤ 140737488351232) : callT AB 40 [esAv t] [] = some (.bool false, []) ∨ largeB 0 (esL t) = false ∧ callT AB 40 [esAv t] [] = some (.bool true, []) := by
 cases t with
 | none => exact .inr ⟨rfl, callT_ext s40n⟩
 | some t =>
  simp only [esL] at ht hl
  show callT AB 40 [.view 8 (t.map Ent.av) false false] [] = _ ∨ largeB 0 t = false ∧ callT AB 40 [.view 8 (t.map Ent.av) false false] [] = _
  have h40 := callT_ext (s40 false false t hl fun e he => entL_of (ht e he))
  cases hb : largeB 0 t with
  | true => rw [hb] at h40; exact .inl h40
  | false => rw [hb] at h40; exact .inr ⟨rfl, h40⟩
theorem w17c (t : Option (List Ent)) (ht : ∀ e ∈ esL t, EntW e) (hl : (esL t).length ≤ 140737488351232) (hb : largeB 0 (esL t) = false) :
  (∃ W : List UInt8, W ≠ [] ∧ W.length ≤ 900000 ∧ callT AB 17 [esAv t] [] = some (.tuple [.own 0 1 0 W.length false, .lit .nilIface], [(0, .row (W.map .byte) 1)])) ∨
  (∃ E : Int, E ≠ 0 ∧ callT AB 17 [esAv t] [] = some (.tuple [.lit (.slice none 0 0), .iface 58 (.int .i64 E)], [])) := by
 have hz : zeros1024 ≠ [] := by
  intro h
  have := zeros1024_length
  rw [h] at this
  exact absurd this (by simp)
 have hz2 := zeros1024_length
 cases t with
 | none =>
  refine .inl ⟨zeros1024, hz, by omega, ?_⟩
  rw [hz2]
  exact callT_ext s17n
 | some t =>
  simp only [esL] at ht hl hb
  show (∃ W : List UInt8, W ≠ [] ∧ W.length ≤ 900000 ∧ callT AB 17 [.view 8 (t.map Ent.av) false false] [] = _) ∨ (∃ E : Int, E ≠ 0 ∧ callT AB 17 [.view 8 (t.map Ent.av) false false] [] = _)
  have hlen := large_len hb
  have hsm := (large_small t 0 (by omega) hb).2
  cases t with
  | nil =>
   refine .inl ⟨zeros1024, hz, by omega, ?_⟩
   rw [hz2]
   exact callT_ext (s17v false false)
  | cons e r =>
   have hq : ∀ x ∈ e :: r, EntOk x := fun x hx => entOk_of (ht x hx) (hsm x hx)
   by_cases hc : (checkT ((e :: r).map Ent.cp)).2 = 0
   ·have hwl := outL_le _ 0 (checkT_pieces hc)
    have hws := write_short hb (fun x hx => entB_small (ht x hx) (hsm x hx))
    exact .inl ⟨writeL (e :: r), List.length_pos_iff.1 hws.2, by omega, callT_ext (s17 false false e r (by omega) hq hc (checkT_pieces hc))⟩
   ·have h17 := callT_ext (s17no false false e r (by omega) hq hc (fun x hx => by have := hsm x hx; omega))
    unfold errV at h17
    rw [if_neg hc] at h17
    exact .inr ⟨_, hc, h17⟩
theorem lens_len (C : List (List UInt8)) : (lens C).length = C.length := List.length_map _
theorem cutL_len (mn mx bits p w : Int) (D : List UInt8) : (cutL mn mx bits p w D).length ≤ D.length + 1 := by
 have := (ck_lens (mn := mn) (mx := mx) (bits := bits) (D := D) ⟨(newR p w, List.replicate w.toNat 0), [], []⟩ 0 (Nat.le_refl _) (Nat.le_refl _)).2
 unfold cutL ckAll
 simp only [Nat.zero_add] at this
 split
 ·omega
 ·rw [List.length_append]
  simp only [List.length_cons, List.length_nil]
  omega
set_option maxHeartbeats 4000000 in
theorem t13 (p w mn mx bits : Int) (p0 : 0 ≤ p) (p1 : p ≤ 18446744073709551615) (ta ua : AVal) (hia : ta.ids = [] ∧ ta.ownIds = [] ∧ ta.leaf = true) (hib : ua.ids = [] ∧ ua.ownIds = []) (hra : ∀ f, ta.ren f = ta) (hrb : ∀ f, ua.ren f = ua)
  (h40 : callT AB 40 [ta] [] = some (.bool true, [])) (h40b : callT AB 40 [ua] [] = some (.bool true, [])) (A B : List UInt8) (hA : A ≠ []) (hB : B ≠ []) (lA : A.length ≤ 900000) (lB : B.length ≤ 900000)
  (h17 : callT AB 17 [ta] [] = some (.tuple [.own 0 1 0 A.length false, .lit .nilIface], [(0, .row (A.map .byte) 1)])) (h17b : callT AB 17 [ua] [] = some (.tuple [.own 0 1 0 B.length false, .lit .nilIface], [(0, .row (B.map .byte) 1)])) :
  callT AB 13 [.agg [.int .u64 p, .int .i64 w, .int .i64 mn, .int .i64 mx, .int .i64 bits], ta, ua] [] = some (.bool true, []) := by
 have h39 := s39
 obtain ⟨hi1, hi2, hi3⟩ := hia
 obtain ⟨hj1, hj2⟩ := hib
 obtain ⟨irr, hc⟩ := s133 p w mn mx bits p0 p1
 cases hb : setB irr p w mn mx bits with
 | false =>
  have c51 := fun D c t => callT_ext (s51_bad p w mn mx bits irr hb hc D c t)
  have c19 := callT_ext (s19w 11 (by omega))
  refine enter (ab_fn fn13) rfl rfl ?_
  have gg:=trivial;repeat' first|simp (maxSteps:=2000000) (disch:=omega) only [gg,b13,h39,h40,h40b,h17,h17b,hi1,hi2,hj1,hj2,hra,hrb,c51,c19,lp_head,go_sem]|(refine br ?_ ?_<;>intro gg<;>try omega)|(apply And.intro;focus omega)|omega
 | true =>
  have hpp : 0 < p := by
   have h2 := hb
   unfold setB at h2
   simp only [Bool.and_eq_true, decide_eq_true_eq] at h2
   rcases Int.lt_or_eq_of_le p0 with h | h
   ·exact h
   ·rw [← h] at h2
    exact absurd h2.1.1.1 (by decide)
  have c51 := fun D hD hl c t => callT_ext (s51_ok p w mn mx bits irr hpp p1 hb hc D hD hl c t)
  have c51a := fun c t => c51 A hA lA c t
  have c51b := fun c t => c51 B hB lB c t
  have c52 := fun c t c2 t2 => callT_ext (s52 A B (by omega) (by omega) c t c2 t2)
  have lx := cutL_len mn mx bits p w A
  have ly := cutL_len mn mx bits p w B
  have hX : (lens (cutL mn mx bits p w A)).sum = A.length := all_sum _ _ _ _ _
  have hl := comL_le A B
  have H := fun i c => all_alike rollQ (endsQ mn mx bits) rstQ (newR p w, List.replicate w.toNat 0) A B (comL A B) (comL_take A B) i c
  have hh := h13 (lens (cutL mn mx bits p w A)) (lens (cutL mn mx bits p w B)) A B (comL A B) (by omega) (by omega) hX (by rw [lens_len]; omega) (by rw [lens_len]; omega) (by omega) (fun i c h1 h2 h3 _ => H i c h1 h2 h3) _ [] 0 rfl rfl
  clear H hX hl c51 hc hb
  rw [← lens_len] at c51a c51b
  generalize lens (cutL mn mx bits p w A) = X at *
  generalize lens (cutL mn mx bits p w B) = Y at *
  generalize comL A B = n at *
  dsimp only at hh
  simp only [List.length_nil, Int.natCast_zero] at hh
  refine enter (ab_fn fn13) rfl rfl ?_
  have gg:=trivial;repeat' first|simp (maxSteps:=2000000) (disch:=omega) only [gg,b13,h39,h40,h40b,h17,h17b,hi1,hi2,hj1,hj2,hra,hrb,c51a,c51b,c52,lp_head,go_sem]|(refine br ?_ ?_<;>intro gg<;>try omega)|(apply And.intro;focus omega)|omega
theorem esAv_ids (t : Option (List Ent)) : (esAv t).ids = [] := by cases t <;> rfl
theorem esAv_own (t : Option (List Ent)) : (esAv t).ownIds = [] := by cases t <;> rfl
theorem esAv_leaf (t : Option (List Ent)) : (esAv t).leaf = true := by cases t <;> rfl
theorem esAv_ren (t : Option (List Ent)) (f : Nat → Option Nat) : (esAv t).ren f = esAv t := by cases t <;> rfl
theorem s13 (p w mn mx bits : Int) (p0 : 0 ≤ p) (p1 : p ≤ 18446744073709551615) (t u : Option (List Ent)) (ht : ∀ e ∈ esL t, EntW e) (hl : (esL t).length ≤ 140737488351232) (hu : ∀ e ∈ esL u, EntW e) (hm : (esL u).length ≤ 140737488351232) :
  callT AB 13 [.agg [.int .u64 p, .int .i64 w, .int .i64 mn, .int .i64 mx, .int .i64 bits], esAv t, esAv u] [] = some (.bool true, []) := by
 have h39 := s39
 have hi1 := esAv_ids t
 have hi2 := esAv_own t
 have hi3 := esAv_leaf t
 have hra := esAv_ren t
 have hj1 := esAv_ids u
 have hj2 := esAv_own u
 have hrb := esAv_ren u
 rcases w40c t ht hl with h40 | ⟨hb, h40⟩
 ·generalize esAv t = ta at *
  generalize esAv u = ua at *
  refine enter (ab_fn fn13) rfl rfl ?_
  have gg:=trivial;repeat' first|simp (maxSteps:=2000000) (disch:=omega) only [gg,b13,h39,h40,hi1,hi2,hj1,hj2,hra,hrb,lp_head,go_sem]|(refine br ?_ ?_<;>intro gg<;>try omega)|(apply And.intro;focus omega)|omega
 rcases w40c u hu hm with h40b | ⟨hbb, h40b⟩
 ·generalize esAv t = ta at *
  generalize esAv u = ua at *
  refine enter (ab_fn fn13) rfl rfl ?_
  have gg:=trivial;repeat' first|simp (maxSteps:=2000000) (disch:=omega) only [gg,b13,h39,h40,h40b,hi1,hi2,hj1,hj2,hra,hrb,lp_head,go_sem]|(refine br ?_ ?_<;>intro gg<;>try omega)|(apply And.intro;focus omega)|omega
 rcases w17c t ht hl hb with ⟨A, hA, lA, h17⟩ | ⟨E, hE, h17⟩ <;> rcases w17c u hu hm hbb with ⟨B, hB, lB, h17b⟩ | ⟨E2, hE2, h17b⟩
 ·exact t13 p w mn mx bits p0 p1 (esAv t) (esAv u) ⟨hi1, hi2, hi3⟩ ⟨hj1, hj2⟩ hra hrb h40 h40b A B hA hB lA lB h17 h17b
 all_goals
  generalize esAv t = ta at *
  generalize esAv u = ua at *
  refine enter (ab_fn fn13) rfl rfl ?_
  have gg:=trivial;repeat' first|simp (maxSteps:=2000000) (disch:=omega) only [gg,b13,h39,h40,h40b,h17,h17b,hi1,hi2,hj1,hj2,hra,hrb,lp_head,go_sem]|(refine br ?_ ?_<;>intro gg<;>try omega)|(apply And.intro;focus omega)|omega
end Go.Abs
