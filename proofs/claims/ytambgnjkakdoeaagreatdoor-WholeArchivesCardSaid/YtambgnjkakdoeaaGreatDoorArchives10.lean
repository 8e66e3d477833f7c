import Derived.Test.YtambgnjkakdoeaaGreatDoorArchives9
/- PART OF A PROOF (texts joined by a program): F16 F17 F18 F19 F20 F21 F22 F23 F24 Q1 F25 F26 F27 F28 F29 F30 F31 F32 F33. -/
set_option linter.unusedVariables false
set_option linter.unusedSimpArgs false
set_option linter.unusedSectionVars false
namespace Go.Abs
open Am
set_option maxRecDepth 10000
theorem s28 : callT AA 28 [] [] = some (.ptr 0 0, [(0, .var [.lit (.slice none 0 0)])]) := by
 refine enter fn28 np28 rfl ?_
 have gg:=trivial;repeat' first|simp (maxSteps:=2000000) (disch:=omega) only [gg,b28,go_sem]|(refine br ?_ ?_<;>intro gg<;>try omega)|(apply And.intro;focus omega)|omega
def zeros1024 : List UInt8 := List.replicate 1024 0
theorem zeros1024_eq : List.replicate 1024 (0 : UInt8) = zeros1024 := rfl
theorem s32 (x : AVal) (hx : x = .lit (.slice none 0 0)) : callT AA 32 [.ptr 0 0] [(0, .var [x])] = some (.own 1 1 0 1024 false, [(0, .var [.lit (.slice none 0 0)]), (1, .row (zeros1024.map .byte) 1)]) := by
 subst hx
 refine enter fn32 np32 rfl ?_
 have gg:=trivial;repeat' first|simp (maxSteps:=2000000) (disch:=omega) only [gg,b32,zeros1024_eq,go_sem]|(refine br ?_ ?_<;>intro gg<;>try omega)|(apply And.intro;focus omega)|omega
theorem s32o (es : List AVal) (n : Nat) : callT AA 32 [.ptr 0 0] [(0, .var [.own 1 8 0 n false]), (1, .row es 8)] = some (.own 2 1 0 1024 false, [(0, .var [.lit (.slice none 0 0)]), (1, .row es 8), (2, .row (zeros1024.map .byte) 1)]) := by
 refine enter fn32 np32 rfl ?_
 have gg:=trivial;repeat' first|simp (maxSteps:=2000000) (disch:=omega) only [gg,b32,zeros1024_eq,go_sem]|(refine br ?_ ?_<;>intro gg<;>try omega)|(apply And.intro;focus omega)|omega
theorem s64n : callT AA 64 [.lit (.slice none 0 0)] [] = some (.lit (.slice none 0 0), []) := by
 refine enter fn64 np64 rfl ?_
 have gg:=trivial;repeat' first|simp (maxSteps:=2000000) (disch:=omega) only [gg,b64,go_sem]|(refine br ?_ ?_<;>intro gg<;>try omega)|(apply And.intro;focus omega)|omega
theorem s29e : callT AA 29 [.ptr 0 0, .lit (.slice none 0 0)] [(0, .var [.lit (.slice none 0 0)])] = some (.tuple [.lit (.slice none 0 0), .lit .nilIface], [(0, .var [.lit (.slice none 0 0)])]) := by
 refine enter fn29 np29 rfl ?_
 have gg:=trivial;repeat' first|simp (maxSteps:=2000000) (disch:=omega) only [gg,b29,s64n,s65n,s31n,lp_head,go_sem]|(refine br ?_ ?_<;>intro gg<;>try omega)|(apply And.intro;focus omega)|omega
 refine hd_of (by unfold l29_0; rfl) ?_
 have gg:=trivial;repeat' first|simp (maxSteps:=2000000) (disch:=omega) only [gg,r29_0,go_sem]|(refine br ?_ ?_<;>intro gg<;>try omega)|(apply And.intro;focus omega)|omega
theorem s17n : callT AA 17 [.lit (.slice none 0 0)] [] = some (.tuple [.own 0 1 0 1024 false, .lit .nilIface], [(0, .row (zeros1024.map .byte) 1)]) := by
 have e : (zeros1024.map AVal.byte).take 1024 = zeros1024.map .byte := List.take_of_length_le (by simp [zeros1024])
 have lz : zeros1024.length = 1024 := by simp [zeros1024]
 have nz : (zeros1024.map AVal.byte).isEmpty = false := by
  cases hz : zeros1024 with
  | nil => rw [hz] at lz; cases lz
  | cons x y => rfl
 have h0 := s32 _ rfl
 refine enter fn17 np17 rfl ?_
 have gg:=trivial;repeat' first|simp (maxSteps:=2000000) (disch:=omega) only [gg,b17,s28,s29e,h0,e,lz,nz,go_sem]|(refine br ?_ ?_<;>intro gg<;>try omega)|(apply And.intro;focus omega)|omega
def outL : Nat → List Ent → List UInt8
 | _, [] => []
 | i, e :: r => pieceL i e ++ outL (i + 1) r
def PiecesOk : Nat → List Ent → Prop
 | _, [] => True
 | i, e :: r => EntB e ∧ e.data.l.length ≤ 1000000 ∧ pieceOk i e ∧ PiecesOk (i + 1) r
theorem pieceL_le {n : Int} {e : Ent} (hd : e.data.l.length ≤ 1000000) (hok : pieceOk n e) : 512 ≤ (pieceL n e).length ∧ (pieceL n e).length ≤ 1100000 := by
 have h1 := padL_length e.data.l
 have h2 := padN_lt e.data.l.length
 have h3 := encB_length (hdrE e (recsE e))
 have h4 : (preE n e).length ≤ 68000 := by
  unfold preE
  by_cases h0 : recsE e = []
  ·rw [if_pos h0]; simp
  ·rw [if_neg h0]
   obtain ⟨body, hb⟩ := Option.isSome_iff_exists.1 (hok.2 h0).1
   have h5 := paxE_le _ _ _ _ (by simp) hb
   have h6 : bodyE e = body := by unfold bodyE; rw [hb]; rfl
   have h7 := padL_length body
   have h8 := padN_lt body.length
   have h9 := encB_length (hdX n body)
   rw [h6, List.length_append]
   omega
 unfold pieceL
 simp only [List.length_append]
 omega
theorem h29 (c tmp : Bool) (t : List Ent) (es : List AVal) (m : Nat) (ht : t.length ≤ 200) (r0 : List UInt8) : ∀ (rest done : List Ent) (out : List UInt8) (n i : Int) (q : Nat), t = done ++ rest → i = done.length → n = t.length → q = out.length → out.length ≤ 3000000 * done.length → PiecesOk done.length rest → r0 = out ++ outL done.length rest →
  HD AA 1 [0, 4, 5, 6, 9, 33, 34, 35] l29_0 ⟨[.ptr 0 0, .junk, .junk, .junk, .lit (.slice none 0 0), .lit .nilIface, .own 1 8 0 m false, .junk, .junk, .own 2 1 0 q false, .junk, .junk, .junk, .junk, .junk, .junk, .junk, .junk, .junk, .junk, .junk, .junk, .junk, .junk, .junk, .junk, .junk, .junk, .junk, .junk, .junk, .junk, .junk, .view 8 (t.map Ent.av) c tmp, .int .i64 n, .int .i64 i, .junk, .junk, .junk, .junk, .junk, .junk, .junk, .junk, .junk, .junk, .junk, .junk, .junk, .junk, .junk, .junk, .junk, .junk, .junk, .junk, .junk, .junk, .junk, .junk, .junk, .junk, .junk, .junk], [(0, .var [.lit (.slice none 0 0)]), (1, .row es 8), (2, .row (out.map .byte) 1)], 4⟩ [.blk 0, .code r29_0] (Fin [(4, none), (5, none)] 1 (.tuple [.own 2 1 0 r0.length false, .lit .nilIface]) [(0, .var [.own 1 8 0 m false]), (1, .row es 8), (2, .row (r0.map .byte) 1)])
 | [], done, out, n, i, q, h1, h2, h3, h4, h5, h6, h7 => by
  subst h1
  simp at h3
  refine hd_of (by unfold l29_0; rfl) ?_
  simp only [outL, List.append_nil] at h7
  rw [h7]
  have gg:=trivial;repeat' first|simp (maxSteps:=2000000) (disch:=omega) only [gg,r29_0,go_sem]|(refine br ?_ ?_<;>intro gg<;>try omega)|(apply And.intro;focus omega)|omega
  simp [h4]
 | e :: rest, done, out, n, i, q, h1, h2, h3, h4, h5, h6, h7 => by
  have hg0 : t[i.toNat]? = some e := by
   rw [h1]
   simp [h2]
  have hl : i.toNat < t.length := by rw [h1]; simp; omega
  obtain ⟨hb, hd, hok, hrest⟩ := h6
  have hp := s66 (done.length : Int) (by omega) (by rw [h1] at ht; simp at ht; omega) e hb (by omega) hok
  have et : (out.map AVal.byte).take q = out.map .byte := List.take_of_length_le (by simp; omega)
  have hpl := pieceL_le hd hok
  simp only [outL] at h7
  have h7' : r0 = (out ++ pieceL (done.length : Int) e) ++ outL (done.length + 1) rest := by rw [h7]; simp
  generalize hP : pieceL (done.length : Int) e = P at *
  have ih := h29 c tmp t es m ht r0 rest (done ++ [e]) (out ++ P) n (i + 1) (q + P.length) (by simp [h1]) (by simp; omega) h3 (by simp; omega) (by simp; omega) (by simpa using hrest) (by simpa using h7')
  simp only [Ent.av] at hp
  rw [← h2] at hp
  have hdl : done.length ≤ 200 := by rw [h1] at ht; simp at ht; omega
  refine hd_of (by unfold l29_0; rfl) ?_
  have gg:=trivial;repeat' first|simp (maxSteps:=2000000) (disch:=omega) only [gg,hp,hg0,et,lp_head,← List.map_append,go_sem]|(refine br ?_ ?_<;>intro gg<;>try omega)|(apply And.intro;focus omega)|omega
theorem cp_isTmp {b : BS} : b.cp.isTmp = false := by cases b <;> rfl
theorem entOk_cp {e : Ent} (h : EntOk e) : EntOk e.cp := ⟨h.1, h.2.1, by show e.data.cp.l.length ≤ _; rw [cp_l]; exact h.2.2.1, cp_isTmp⟩
theorem s29no (c tmp : Bool) (e : Ent) (r : List Ent) (ht : (e :: r).length ≤ 1000000) (hq : ∀ x ∈ e :: r, EntOk x) (he : (checkT ((e :: r).map Ent.cp)).2 ≠ 0) (hd : ∀ x ∈ e :: r, x.data.l.length ≤ 281474976710656 / 4) :
  callT AA 29 [.ptr 0 0, .view 8 ((e :: r).map Ent.av) c tmp] [(0, .var [.lit (.slice none 0 0)])] = some (.tuple [.lit (.slice none 0 0), errV (checkT ((e :: r).map Ent.cp)).2], [(0, .var [.lit (.slice none 0 0)])]) := by
 have h65 := s65 c tmp e r ht hd
 have h31 := fun cl tm => s31 cl tm ((e :: r).map Ent.cp) (by
  intro x hx
  obtain ⟨y, hy, rfl⟩ := List.mem_map.1 hx
  exact entOk_cp (hq y hy)) (by rw [List.length_map]; omega)
 rw [← cav_eq] at h31
 generalize hC : checkT ((e :: r).map Ent.cp) = C at *
 have hv : errV C.2 = .iface 58 (.int .i64 C.2) := by unfold errV; rw [if_neg he]
 rw [hv] at h31 ⊢
 refine enter fn29 np29 rfl ?_
 have hne : ((e :: r).map Ent.cav).isEmpty = false := rfl
 generalize e :: r = t at *
 have gg:=trivial;repeat' first|simp (maxSteps:=2000000) (disch:=omega) only [gg,b29,s64n,h65,h31,hne,go_sem]|(refine br ?_ ?_<;>intro gg<;>try omega)|(apply And.intro;focus omega)|omega
theorem s29 (c tmp : Bool) (e : Ent) (r : List Ent) (ht : (e :: r).length ≤ 200) (hq : ∀ x ∈ e :: r, EntOk x) (he : (checkT ((e :: r).map Ent.cp)).2 = 0) (hok : PiecesOk 0 (e :: r)) :
  callT AA 29 [.ptr 0 0, .view 8 ((e :: r).map Ent.av) c tmp] [(0, .var [.lit (.slice none 0 0)])] = some (.tuple [.own 2 1 0 (outL 0 (e :: r)).length false, .lit .nilIface], [(0, .var [.own 1 8 0 (e :: r).length false]), (1, .row ((e :: r).map Ent.cav) 8), (2, .row ((outL 0 (e :: r)).map .byte) 1)]) := by
 have hd : ∀ x ∈ e :: r, x.data.l.length ≤ 281474976710656 / 4 := by
  have key : ∀ (l : List Ent) (i : Nat), PiecesOk i l → ∀ x ∈ l, x.data.l.length ≤ 281474976710656 / 4 := by
   intro l
   induction l with
   | nil => intro i _ x hx; cases hx
   | cons a b ih =>
    intro i h x hx
    rcases List.mem_cons.1 hx with rfl | hx
    ·exact Nat.le_trans h.2.1 (by decide)
    ·exact ih (i + 1) h.2.2.2 x hx
  exact key _ 0 hok
 have h65 := s65 c tmp e r (by omega) hd
 have h31 := fun cl tm => s31 cl tm ((e :: r).map Ent.cp) (by
  intro x hx
  obtain ⟨y, hy, rfl⟩ := List.mem_map.1 hx
  exact entOk_cp (hq y hy)) (by rw [List.length_map]; omega)
 rw [← cav_eq] at h31
 have hv : errV (checkT ((e :: r).map Ent.cp)).2 = .lit .nilIface := by unfold errV; rw [if_pos he]
 rw [hv] at h31
 have hne : ((e :: r).map Ent.cav).isEmpty = false := rfl
 obtain ⟨hb, hde, hoke, hrest⟩ := hok
 have hp := s66 (0 : Int) (by omega) (by omega) e hb (by omega) hoke
 have hpl := pieceL_le (n := (0 : Int)) hde hoke
 have hh := h29 c tmp (e :: r) ((e :: r).map Ent.cav) (e :: r).length ht (outL 0 (e :: r)) r [e] (pieceL 0 e) (e :: r).length 1 (pieceL 0 e).length rfl rfl rfl rfl (by simp only [List.length_singleton]; omega) hrest (by simp [outL])
 have hPn : ((pieceL 0 e).map AVal.byte).isEmpty = false := by
  cases hz : pieceL 0 e with
  | nil => rw [hz] at hpl; simp at hpl
  | cons x y => rfl
 have hg0 : (e :: r)[0]? = some e := rfl
 have hl : 0 < (e :: r).length := by simp
 simp only [Ent.av] at hp
 refine enter fn29 np29 rfl ?_
 generalize outL 0 (e :: r) = O at *
 generalize (pieceL 0 e) = P at *
 generalize (checkT ((e :: r).map Ent.cp)).1 = cp at *
 generalize e :: r = t at *
 have gg:=trivial;repeat' first|simp (maxSteps:=2000000) (disch:=omega) only [gg,b29,s64n,h65,h31,hne,lp_head,go_sem]|(refine br ?_ ?_<;>intro gg<;>try omega)|(apply And.intro;focus omega)|omega
 refine hd_of (by unfold l29_0; rfl) ?_
 have gg:=trivial;repeat' first|simp (maxSteps:=2000000) (disch:=omega) only [gg,hp,hg0,hPn,lp_head,go_sem]|(refine br ?_ ?_<;>intro gg<;>try omega)|(apply And.intro;focus omega)|omega
end Go.Abs
namespace Go.Abs
open Am
set_option maxRecDepth 10000
theorem zeros1024_length : zeros1024.length = 1024 := by simp [zeros1024]
theorem zeros1024_ne : (zeros1024.map AVal.byte).isEmpty = false := by
 cases hz : zeros1024 with
 | nil => have := zeros1024_length; rw [hz] at this; cases this
 | cons x y => rfl
theorem zeros1024_take : (zeros1024.map AVal.byte).take 1024 = zeros1024.map .byte := List.take_of_length_le (by simp [zeros1024])
theorem s17no (c tmp : Bool) (e : Ent) (r : List Ent) (ht : (e :: r).length ≤ 1000000) (hq : ∀ x ∈ e :: r, EntOk x) (he : (checkT ((e :: r).map Ent.cp)).2 ≠ 0) (hd : ∀ x ∈ e :: r, x.data.l.length ≤ 281474976710656 / 4) :
  callT AA 17 [.view 8 ((e :: r).map Ent.av) c tmp] [] = some (.tuple [.lit (.slice none 0 0), errV (checkT ((e :: r).map Ent.cp)).2], []) := by
 have h1 := s29no c tmp e r ht hq he hd
 have hv : errV (checkT ((e :: r).map Ent.cp)).2 = .iface 58 (.int .i64 (checkT ((e :: r).map Ent.cp)).2) := by unfold errV; rw [if_neg he]
 rw [hv] at h1 ⊢
 generalize (checkT ((e :: r).map Ent.cp)).2 = E at *
 generalize e :: r = t at *
 refine enter fn17 np17 rfl ?_
 have gg:=trivial;repeat' first|simp (maxSteps:=2000000) (disch:=omega) only [gg,b17,s28,h1,go_sem]|(refine br ?_ ?_<;>intro gg<;>try omega)|(apply And.intro;focus omega)|omega
theorem outL_le : ∀ (t : List Ent) (i : Nat), PiecesOk i t → (outL i t).length ≤ 1100000 * t.length
 | [], i, _ => by simp [outL]
 | e :: r, i, h => by
  have h1 := pieceL_le h.2.1 h.2.2.1
  have h2 := outL_le r (i + 1) h.2.2.2
  simp only [outL, List.length_append, List.length_cons]
  omega
def writeL (t : List Ent) : List UInt8 := outL 0 t ++ zeros1024
theorem s17 (c tmp : Bool) (e : Ent) (r : List Ent) (ht : (e :: r).length ≤ 200) (hq : ∀ x ∈ e :: r, EntOk x) (he : (checkT ((e :: r).map Ent.cp)).2 = 0) (hok : PiecesOk 0 (e :: r)) :
  callT AA 17 [.view 8 ((e :: r).map Ent.av) c tmp] [] = some (.tuple [.own 0 1 0 (writeL (e :: r)).length false, .lit .nilIface], [(0, .row ((writeL (e :: r)).map .byte) 1)]) := by
 have h1 := s29 c tmp e r ht hq he hok
 have h2 := s32o ((e :: r).map Ent.cav) (e :: r).length
 have h3 := outL_le _ 0 hok
 unfold writeL
 generalize outL 0 (e :: r) = O at *
 generalize e :: r = t at *
 have h4 : (O.map AVal.byte).take O.length = O.map .byte := List.take_of_length_le (by simp)
 refine enter fn17 np17 rfl ?_
 have gg:=trivial;repeat' first|simp (maxSteps:=2000000) (disch:=omega) only [gg,b17,s28,h1,h2,h4,zeros1024_take,zeros1024_length,zeros1024_ne,List.map_append,go_sem]|(refine br ?_ ?_<;>intro gg<;>try omega)|(apply And.intro;focus omega)|omega
end Go.Abs
namespace Go.Abs
open Am
set_option maxRecDepth 10000
theorem s62 (a b : BS) : callT AA 62 [a.av, b.av] [] = some (.bool (decide (a.l = b.l)), []) := by
 refine enter fn62 np62 rfl ?_
 have gg:=trivial;repeat' first|simp (maxSteps:=2000000) (disch:=omega) only [gg,b62,go_sem]|(refine br ?_ ?_<;>intro gg<;>try omega)|(apply And.intro;focus omega)|omega
theorem s193 (b : BS) (c : UInt8) : callT AA 193 [b.av, .int .u8 c.toNat] [] = some (.int .i64 (Lib.indexByte b.l c), []) := by
 have e : ((c.toNat : Int).toNat.toUInt8) = c := by simp
 refine enter fn193 np193 rfl ?_
 have gg:=trivial;repeat' first|simp (maxSteps:=2000000) (disch:=omega) only [gg,b193,e,go_sem]|(refine br ?_ ?_<;>intro gg<;>try omega)|(apply And.intro;focus omega)|omega
@[go_sem high] theorem ixa_one {v : AVal} {c t : Bool} {k : IntKind} {h : Heap} : ixaV 1 (.view 1 [v] c t) (.int k 0) h = some (.rptr v.cells t, h) := rfl
@[go_sem high] theorem ldE_one {v : AVal} {sz : Nat} {agg : Bool} {h : Heap} : ldE [v] 0 0 sz agg h = (part v.cells 0 sz agg).map (·, h) := rfl
theorem s152 (b : BS) (c t : Bool) (x : UInt8) (z : Int) (hz : (x.toNat : Int) = z) : callT AA 152 [b.av, .view 1 [.int .u8 z] c t] [] = some (.int .i64 (Lib.indexByte b.l x), []) := by
 have h := s193 b x
 rw [hz] at h
 refine enter fn152 np152 rfl ?_
 have gg:=trivial;repeat' first|simp (maxSteps:=2000000) (disch:=omega) only [gg,b152,h,go_sem]|(refine br ?_ ?_<;>intro gg<;>try omega)|(apply And.intro;focus omega)|omega
def aheadOf (x : UInt8) : List UInt8 → List UInt8
 | [] => []
 | y :: r => if y = x then [] else y :: aheadOf x r
theorem aheadOf_eq (x : UInt8) : ∀ l : List UInt8, aheadOf x l = if 0 ≤ Lib.indexByte l x then l.take (Lib.indexByte l x).toNat else l
 | [] => by simp [aheadOf, Lib.indexByte]
 | y :: r => by
  have ih := aheadOf_eq x r
  have hge := Lib.indexByte_ge r x
  unfold aheadOf Lib.indexByte
  by_cases h : y = x
  ·simp [h]
  ·have h' : ¬ (y == x) = true := by simpa using h
   rw [if_neg h, if_neg h', ih]
   by_cases h0 : 0 ≤ Lib.indexByte r x
   ·have h1 : ¬ Lib.indexByte r x < 0 := by omega
    have e : (Lib.indexByte r x + 1).toNat = (Lib.indexByte r x).toNat + 1 := by omega
    have h2 : ¬ (Lib.indexByte r x == -1) = true := by simp; omega
    rw [if_pos h0, if_neg h2, if_pos (by omega), e, List.take_succ_cons]
   ·have h1 : Lib.indexByte r x < 0 := by omega
    have h2 : (Lib.indexByte r x == -1) = true := by simp; omega
    rw [if_neg h0, if_pos h2, if_neg (by omega)]
theorem s114 (b : BS) (x : UInt8) (z : Int) (hz : (x.toNat : Int) = z) (c t : Bool) (hb : b.l.length ≤ 1000000000) (h0 : 0 ≤ Lib.indexByte b.l x) : callT AA 114 [b.av, .view 1 [.int .u8 z] c t] [] = some (.tuple [(b.sl 0 (Lib.indexByte b.l x).toNat).av, (b.sl (Lib.indexByte b.l x + 1).toNat b.l.length).av, .bool true], []) := by
 have h := s152 b c t x z hz
 have hlt := indexByte_lt (s := b.l) (c := x)
 refine enter fn114 np114 rfl ?_
 generalize Lib.indexByte b.l x = q at *
 have gg:=trivial;repeat' first|simp (maxSteps:=2000000) (disch:=omega) only [gg,b114,h,go_sem]|(refine br ?_ ?_<;>intro gg<;>try omega)|(apply And.intro;focus omega)|omega
theorem s114n (b : BS) (x : UInt8) (z : Int) (hz : (x.toNat : Int) = z) (c t : Bool) (h0 : ¬ 0 ≤ Lib.indexByte b.l x) : callT AA 114 [b.av, .view 1 [.int .u8 z] c t] [] = some (.tuple [b.av, .lit (.slice none 0 0), .bool false], []) := by
 have h := s152 b c t x z hz
 refine enter fn114 np114 rfl ?_
 generalize Lib.indexByte b.l x = q at *
 have gg:=trivial;repeat' first|simp (maxSteps:=2000000) (disch:=omega) only [gg,b114,h,go_sem]|(refine br ?_ ?_<;>intro gg<;>try omega)|(apply And.intro;focus omega)|omega
theorem s114o (b : BS) (x : UInt8) (z : Int) (hz : (x.toNat : Int) = z) (hb : b.l.length ≤ 1000000000) (h0 : 0 ≤ Lib.indexByte b.l x) : callT AA 114 [b.av, .own 0 1 0 1 false] [(0, .row [.int .u8 z] 1)] = some (.tuple [(b.sl 0 (Lib.indexByte b.l x).toNat).av, (b.sl (Lib.indexByte b.l x + 1).toNat b.l.length).av, .bool true], [(0, .row [.int .u8 z] 1)]) := by
 have h := fun c t => s152 b c t x z hz
 have hlt := indexByte_lt (s := b.l) (c := x)
 refine enter fn114 np114 rfl ?_
 generalize Lib.indexByte b.l x = q at *
 have gg:=trivial;repeat' first|simp (maxSteps:=2000000) (disch:=omega) only [gg,b114,h,List.take_succ_cons,List.take_zero,go_sem]|(refine br ?_ ?_<;>intro gg<;>try omega)|(apply And.intro;focus omega)|omega
theorem s114on (b : BS) (x : UInt8) (z : Int) (hz : (x.toNat : Int) = z) (h0 : ¬ 0 ≤ Lib.indexByte b.l x) : callT AA 114 [b.av, .own 0 1 0 1 false] [(0, .row [.int .u8 z] 1)] = some (.tuple [b.av, .lit (.slice none 0 0), .bool false], [(0, .row [.int .u8 z] 1)]) := by
 have h := fun c t => s152 b c t x z hz
 refine enter fn114 np114 rfl ?_
 generalize Lib.indexByte b.l x = q at *
 have gg:=trivial;repeat' first|simp (maxSteps:=2000000) (disch:=omega) only [gg,b114,h,List.take_succ_cons,List.take_zero,go_sem]|(refine br ?_ ?_<;>intro gg<;>try omega)|(apply And.intro;focus omega)|omega
def textF (l : List UInt8) (at_ n : Nat) : List UInt8 := aheadOf 0 ((l.drop at_).take n)
theorem s68 (b : BS) (p n : Int) (at_ k : Nat) (h1 : p = at_) (h2 : n = k) (h3 : at_ + k ≤ b.l.length) (hb : b.l.length ≤ 1000000000) : callT AA 68 [b.av, .int .i64 p, .int .i64 n] [] = some (.str (textF b.l at_ k), []) := by
 have hl : (b.sl p.toNat (p + n).toNat).l = (b.l.drop at_).take k := by
  rw [BS.sl_l]
  congr 1
  ·omega
  ·congr 1; omega
 have hc := s114o (b.sl p.toNat (p + n).toNat) 0 0 rfl
 have hn := s114on (b.sl p.toNat (p + n).toNat) 0 0 rfl
 have ha := aheadOf_eq 0 (b.sl p.toNat (p + n).toNat).l
 rw [hl] at ha hc hn
 have ht : textF b.l at_ k = aheadOf 0 ((b.l.drop at_).take k) := rfl
 rw [ht, ha]
 refine enter fn68 np68 rfl ?_
 by_cases h0 : 0 ≤ Lib.indexByte ((b.l.drop at_).take k) 0
 ·have hc := hc (by simp; omega) h0
  rw [if_pos h0]
  generalize Lib.indexByte ((b.l.drop at_).take k) 0 = q at *
  have gg:=trivial;repeat' first|simp (maxSteps:=2000000) (disch:=omega) only [gg,b68,hc,go_sem]|(refine br ?_ ?_<;>intro gg<;>try omega)|(apply And.intro;focus omega)|omega
  rw [BS.sl_l, hl]
  simp
 ·have hn := hn h0
  rw [if_neg h0]
  have gg:=trivial;repeat' first|simp (maxSteps:=2000000) (disch:=omega) only [gg,b68,hn,go_sem]|(refine br ?_ ?_<;>intro gg<;>try omega)|(apply And.intro;focus omega)|omega
  rw [hl]
end Go.Abs
namespace Go.Abs
open Am
set_option maxRecDepth 10000
theorem and7u {x : Int} (h0 : 0 ≤ x) (h1 : x ≤ 255) : ((BitVec.ofInt 8 x &&& BitVec.ofInt 8 7).toNat : Int) = x % 8 := by
 rw [BitVec.toNat_and]
 have e1 : (BitVec.ofInt 8 x).toNat = x.toNat := by
  rw [BitVec.toNat_ofInt]
  congr 1
  omega
 have e2 : (BitVec.ofInt 8 7).toNat = 2 ^ 3 - 1 := by rfl
 rw [e1, e2, Nat.and_two_pow_sub_one_eq_mod]
 omega
@[go_sem high] theorem aBin_and7b {e : EqK} {c : Bool} {a : UInt8} : aBin .and e c (.int .u8 (a.toNat : Int)) (.int .u8 7) = some (.int .u8 ((a.toNat : Int) % 8)) := by
 have ha := a.toNat_lt
 rw [aBin_and]
 have e : ((BitVec.ofInt IntKind.u8.bits (a.toNat : Int) &&& BitVec.ofInt IntKind.u8.bits 7).toNat : Int) = (a.toNat : Int) % 8 := and7u (by omega) (by omega)
 rw [e, wrap_u8 (by omega) (by omega)]
theorem or7 {x y : Int} (h0 : 0 ≤ x) (h1 : x ≤ 1000000000000000000) (h2 : 0 ≤ y) (h3 : y < 8) : ((BitVec.ofInt 64 (x * 8) ||| BitVec.ofInt 64 y).toNat : Int) = x * 8 + y := by
 have e1 : (BitVec.ofInt 64 (x * 8)).toNat = 2 ^ 3 * x.toNat := by
  rw [BitVec.toNat_ofInt]
  omega
 have e2 : (BitVec.ofInt 64 y).toNat = y.toNat := by
  rw [BitVec.toNat_ofInt]
  omega
 rw [BitVec.toNat_or, e1, e2, ← Nat.two_pow_add_eq_or_of_lt (by omega)]
 omega
@[go_sem high] theorem aBin_or7 {e : EqK} {c : Bool} {x y : Int} (h0 : 0 ≤ x) (h1 : x ≤ 1000000000000000000) (h2 : 0 ≤ y) (h3 : y < 8) : aBin .or e c (.int .i64 (x * 8)) (.int .i64 y) = some (.int .i64 (x * 8 + y)) := by
 rw [aBin_or]
 have e : ((BitVec.ofInt IntKind.i64.bits (x * 8) ||| BitVec.ofInt IntKind.i64.bits y).toNat : Int) = x * 8 + y := or7 h0 h1 h2 h3
 rw [e, wrap_i64 (by omega) (by omega)]
@[go_sem high] theorem aBin_shl3 {e : EqK} {c : Bool} {k' : IntKind} {x : Int} (h0 : 0 ≤ x) (h1 : x ≤ 1000000000000000000) : aBin .shl e c (.int .i64 x) (.int k' 3) = some (.int .i64 (x * 8)) := by
 rw [aBin_shl]
 have e : x * 2 ^ (min (3 : Int).toNat IntKind.i64.bits) = x * 8 := rfl
 rw [if_neg (by omega), e, wrap_i64 (by omega) (by omega)]
def numF : Int → List UInt8 → Int
 | acc, [] => acc
 | acc, c :: r => numF (acc * 8 + (c.toNat : Int) % 8) r
theorem pow8_pos (k : Nat) : (1 : Int) ≤ 8 ^ k := by
 induction k with
 | zero => simp
 | succ k ih => rw [Int.pow_succ]; omega
theorem h69 (s : BS) (hs : s.l.length ≤ 11) (r0 : Int) : ∀ (rest done : List UInt8) (acc n i : Int), s.l = done ++ rest → i = done.length → n = s.l.length → 0 ≤ acc → (acc + 1) * 8 ^ rest.length ≤ 8589934592 → r0 = numF acc rest →
  HD AA 0 [6, 7, 15, 16, 17] l69_0 ⟨[.junk, .junk, .junk, .junk, .junk, .junk, .int .i64 0, .int .i64 acc, .junk, .junk, .junk, .junk, .junk, .junk, .junk, s.av, .int .i64 n, .int .i64 i, .junk, .junk, .junk, .junk, .junk, .junk, .junk, .junk, .junk, .junk, .junk], [], 0⟩ [.blk 0, .code r69_0] (Fin [(6, none)] 0 (.int .i64 r0) [])
 | [], done, acc, n, i, h1, h2, h3, h4, h5, h6 => by
  rw [h1] at h3
  simp at h3
  refine hd_of (by unfold l69_0; rfl) ?_
  have gg:=trivial;repeat' first|simp (maxSteps:=2000000) (disch:=omega) only [gg,r69_0,go_sem]|(refine br ?_ ?_<;>intro gg<;>try omega)|(apply And.intro;focus omega)|omega
  simp [h6, numF]
 | x :: r, done, acc, n, i, h1, h2, h3, h4, h5, h6 => by
  have hg0 : s.l[i.toNat]? = some x := by
   rw [h1]
   simp [h2]
  have hl : i.toNat < s.l.length := by rw [h1]; simp; omega
  have hx := x.toNat_lt
  have hp := pow8_pos r.length
  simp only [List.length_cons, Int.pow_succ] at h5
  have h5' : (acc + 1) * 8 * 8 ^ r.length ≤ 8589934592 := by
   rw [Int.mul_assoc, Int.mul_comm 8]
   exact h5
  have h7 : (acc + 1) * 8 ≤ 8589934592 := by
   refine Int.le_trans ?_ h5'
   have := Int.mul_le_mul_of_nonneg_left hp (show (0 : Int) ≤ (acc + 1) * 8 by omega)
   omega
  have h8 : (acc * 8 + (x.toNat : Int) % 8 + 1) * 8 ^ r.length ≤ 8589934592 := by
   refine Int.le_trans (Int.mul_le_mul_of_nonneg_right ?_ (by omega)) h5'
   omega
  have ih := h69 s hs r0 r (done ++ [x]) (acc * 8 + (x.toNat : Int) % 8) n (i + 1) (by simp [h1]) (by first | omega | (simp; omega) | (simp; done)) h3 (by omega) h8 h6
  refine hd_of (by unfold l69_0; rfl) ?_
  clear h5 h5' h8 hp h6
  have gg:=trivial;repeat' first|simp (maxSteps:=2000000) (disch:=omega) only [gg,hg0,lp_head,go_sem]|(refine br ?_ ?_<;>intro gg<;>try omega)|(apply And.intro;focus omega)|omega
theorem s69 (b : BS) (p n : Int) (at_ k : Nat) (h1 : p = at_) (h2 : n = k) (hk : k ≤ 11) (h3 : at_ + k ≤ b.l.length) (hb : b.l.length ≤ 1000000000) : callT AA 69 [b.av, .int .i64 p, .int .i64 n] [] = some (.int .i64 (numF 0 ((b.l.drop at_).take k)), []) := by
 have hl : (b.sl p.toNat (p + n).toNat).l = (b.l.drop at_).take k := by
  rw [BS.sl_l]
  congr 1
  ·omega
  ·congr 1; omega
 have hlen : ((b.l.drop at_).take k).length = k := by simp; omega
 refine enter fn69 np69 rfl ?_
 have gg:=trivial;repeat' first|simp (maxSteps:=2000000) (disch:=omega) only [gg,b69,lp_head,go_sem]|(refine br ?_ ?_<;>intro gg<;>try omega)|(apply And.intro;focus omega)|omega
 refine h69 (b.sl p.toNat (p + n).toNat) (by rw [hl, hlen]; exact hk) _ _ [] 0 _ 0 (by rw [hl]; rfl) rfl rfl (by omega) ?_ rfl
 rw [hlen]
 have h8 : ∀ d : Nat, k + d = 11 → (8 : Int) ^ k * 8 ^ d = 8589934592 := by
  intro d hd
  rw [← Int.pow_add, hd]
  rfl
 have h9 := h8 (11 - k) (by omega)
 have h10 := pow8_pos (11 - k)
 have h11 := pow8_pos k
 rw [← h9]
 have := Int.mul_le_mul_of_nonneg_left h10 (show (0 : Int) ≤ 8 ^ k by omega)
 omega
end Go.Abs
namespace Go.Abs
open Am
set_option maxRecDepth 10000
def hd0 : Hd := ⟨[], 0, 0, 0, 0, 0, 0, []⟩
def decH (l : List UInt8) : Hd :=
 ⟨if textF l 345 155 = [] then textF l 0 100 else textF l 345 155 ++ [47] ++ textF l 0 100, numF 0 ((l.drop 100).take 7), numF 0 ((l.drop 108).take 7), numF 0 ((l.drop 116).take 7), numF 0 ((l.drop 124).take 11), numF 0 ((l.drop 136).take 11), l.getD 156 0, textF l 157 100⟩
def decOk (l : List UInt8) : Bool := encOk (decH l) && decide (encB (decH l) = l)
theorem aheadOf_le (x : UInt8) : ∀ l : List UInt8, (aheadOf x l).length ≤ l.length
 | [] => by simp [aheadOf]
 | y :: r => by
  have := aheadOf_le x r
  unfold aheadOf
  split <;> simp <;> omega
theorem textF_le (l : List UInt8) (a n : Nat) : (textF l a n).length ≤ n := by
 have := aheadOf_le 0 ((l.drop a).take n)
 unfold textF
 simp at this
 omega
theorem s62v (l : List UInt8) (c t : Bool) (b : BS) : callT AA 62 [.view 1 (l.map .byte) c t, b.av] [] = some (.bool (decide (l = b.l)), []) := s62 (.mk c t l) b
set_option maxHeartbeats 4000000 in
theorem s34 (b : BS) (h : b.l.length = 512) : callT AA 34 [b.av] [] = some (if decOk b.l = true then .tuple [(decH b.l).av, .lit .nilIface] else .tuple [hd0.av, .iface 58 (.int .i64 14)], []) := by
 have t1 := s68 b 0 100 0 100 rfl rfl (by omega) (by omega)
 have t2 := s68 b 157 100 157 100 rfl rfl (by omega) (by omega)
 have t3 := s68 b 345 155 345 155 rfl rfl (by omega) (by omega)
 have n1 := s69 b 100 7 100 7 rfl rfl (by omega) (by omega) (by omega)
 have n2 := s69 b 108 7 108 7 rfl rfl (by omega) (by omega) (by omega)
 have n3 := s69 b 116 7 116 7 rfl rfl (by omega) (by omega) (by omega)
 have n4 := s69 b 124 11 124 11 rfl rfl (by omega) (by omega) (by omega)
 have n5 := s69 b 136 11 136 11 rfl rfl (by omega) (by omega) (by omega)
 have l1 := textF_le b.l 0 100
 have l2 := textF_le b.l 157 100
 have l3 := textF_le b.l 345 155
 have hx : b.l[156]? = some (b.l.getD 156 0) := by
  rw [List.getD, List.getElem?_eq_getElem (by omega)]
  rfl
 have hH : (decH b.l).av = .agg [.str (decH b.l).path, .int .i64 (numF 0 ((b.l.drop 100).take 7)), .int .i64 (numF 0 ((b.l.drop 108).take 7)), .int .i64 (numF 0 ((b.l.drop 116).take 7)), .int .i64 (numF 0 ((b.l.drop 124).take 11)), .int .i64 (numF 0 ((b.l.drop 136).take 11)), .int .u8 (b.l.getD 156 0).toNat, .str (textF b.l 157 100)] := rfl
 have lp : (decH b.l).path.length ≤ 1000000 := by
  show (if textF b.l 345 155 = [] then textF b.l 0 100 else textF b.l 345 155 ++ [47] ++ textF b.l 0 100).length ≤ 1000000
  split
  ·omega
  ·simp; omega
 have hp : (decH b.l).path = if textF b.l 345 155 = [] then textF b.l 0 100 else textF b.l 345 155 ++ [47] ++ textF b.l 0 100 := rfl
 have ey := s70 (decH b.l) lp (by show (textF b.l 157 100).length ≤ 1000000; omega)
 have en := s70no (decH b.l) lp (by show (textF b.l 157 100).length ≤ 1000000; omega)
 have hlen := encB_length (decH b.l)
 have heq := fun c t => s62v (encB (decH b.l)) c t b
 unfold decOk
 rw [hH] at ey en ⊢
 generalize encB (decH b.l) = B at *
 generalize encOk (decH b.l) = ok at *
 generalize (decH b.l).path = P at *
 generalize textF b.l 345 155 = T3 at *
 generalize textF b.l 0 100 = T1 at *
 generalize textF b.l 157 100 = T2 at *
 generalize numF 0 ((b.l.drop 100).take 7) = N1 at *
 generalize numF 0 ((b.l.drop 108).take 7) = N2 at *
 generalize numF 0 ((b.l.drop 116).take 7) = N3 at *
 generalize numF 0 ((b.l.drop 124).take 11) = N4 at *
 generalize numF 0 ((b.l.drop 136).take 11) = N5 at *
 generalize b.l.getD 156 0 = X at *
 have hB : (B.map AVal.byte).take 512 = B.map AVal.byte := List.take_of_length_le (by simp; omega)
 refine enter fn34 np34 rfl ?_
 cases ok with
 | false =>
  have en := en rfl
  by_cases h3 : T3 = []
  ·rw [if_pos h3] at hp
   subst hp
   have gg:=trivial;repeat' first|simp (maxSteps:=2000000) (disch:=omega) only [gg,b34,t1,t2,t3,n1,n2,n3,n4,n5,hx,hB,en,decide_eq_true h3,go_sem]|(refine br ?_ ?_<;>intro gg<;>try omega)|(apply And.intro;focus omega)|omega
   rfl
  ·rw [if_neg h3] at hp
   subst hp
   have gg:=trivial;repeat' first|simp (maxSteps:=2000000) (disch:=omega) only [gg,b34,t1,t2,t3,n1,n2,n3,n4,n5,hx,hB,en,decide_eq_false h3,go_sem]|(refine br ?_ ?_<;>intro gg<;>try omega)|(apply And.intro;focus omega)|omega
   rfl
 | true =>
  have ey := ey rfl
  by_cases hq : B = b.l
  ·have heq' : ∀ c t, callT AA 62 [.view 1 (B.map .byte) c t, b.av] [] = some (.bool true, []) := by
    intro c t
    rw [heq, decide_eq_true hq]
   have hd : (true && decide (B = b.l)) = true := by rw [decide_eq_true hq]; rfl
   rw [if_pos hd]
   by_cases h3 : T3 = []
   ·rw [if_pos h3] at hp
    subst hp
    have gg:=trivial;repeat' first|simp (maxSteps:=2000000) (disch:=omega) only [gg,b34,t1,t2,t3,n1,n2,n3,n4,n5,hx,hB,ey,heq',decide_eq_true h3,go_sem]|(refine br ?_ ?_<;>intro gg<;>try omega)|(apply And.intro;focus omega)|omega
   ·rw [if_neg h3] at hp
    subst hp
    have gg:=trivial;repeat' first|simp (maxSteps:=2000000) (disch:=omega) only [gg,b34,t1,t2,t3,n1,n2,n3,n4,n5,hx,hB,ey,heq',decide_eq_false h3,go_sem]|(refine br ?_ ?_<;>intro gg<;>try omega)|(apply And.intro;focus omega)|omega
  ·have heq' : ∀ c t, callT AA 62 [.view 1 (B.map .byte) c t, b.av] [] = some (.bool false, []) := by
    intro c t
    rw [heq, decide_eq_false hq]
   have hd : ¬ (true && decide (B = b.l)) = true := by rw [decide_eq_false hq]; simp
   rw [if_neg hd]
   by_cases h3 : T3 = []
   ·rw [if_pos h3] at hp
    subst hp
    have gg:=trivial;repeat' first|simp (maxSteps:=2000000) (disch:=omega) only [gg,b34,t1,t2,t3,n1,n2,n3,n4,n5,hx,hB,ey,heq',decide_eq_true h3,go_sem]|(refine br ?_ ?_<;>intro gg<;>try omega)|(apply And.intro;focus omega)|omega
    rfl
   ·rw [if_neg h3] at hp
    subst hp
    have gg:=trivial;repeat' first|simp (maxSteps:=2000000) (disch:=omega) only [gg,b34,t1,t2,t3,n1,n2,n3,n4,n5,hx,hB,ey,heq',decide_eq_false h3,go_sem]|(refine br ?_ ?_<;>intro gg<;>try omega)|(apply And.intro;focus omega)|omega
    rfl
end Go.Abs
namespace Go.Abs
open Am
set_option maxRecDepth 10000
def hasSuf (s t : List UInt8) : Bool := decide (t.length ≤ s.length) && decide (s.drop (s.length - t.length) = t)
def cutSuf (s t : List UInt8) : List UInt8 := if hasSuf s t = true then s.take (s.length - t.length) else s
theorem s203 (s t : List UInt8) (hs : s.length ≤ 1000000000) (ht : t.length ≤ 1000000000) : callT AA 203 [.str s, .str t] [] = some (.bool (hasSuf s t), []) := by
 have e1 : t.length ≤ s.length → ((s.length : Int) - t.length).toNat = s.length - t.length := by omega
 refine enter fn203 np203 rfl ?_
 unfold hasSuf
 by_cases h : t.length ≤ s.length
 ·have e1 := e1 h
  have e2 : (s.drop (s.length - t.length)).take (s.length - (s.length - t.length)) = s.drop (s.length - t.length) := List.take_of_length_le (by simp)
  have gg:=trivial;repeat' first|simp (maxSteps:=2000000) (disch:=omega) only [gg,b203,e1,e2,decide_eq_true h,go_sem]|(refine br ?_ ?_<;>intro gg<;>try omega)|(apply And.intro;focus omega)|omega
 ·have gg:=trivial;repeat' first|simp (maxSteps:=2000000) (disch:=omega) only [gg,b203,decide_eq_false h,go_sem]|(refine br ?_ ?_<;>intro gg<;>try omega)|(apply And.intro;focus omega)|omega
theorem s156 (s t : List UInt8) (hs : s.length ≤ 1000000000) (ht : t.length ≤ 1000000000) : callT AA 156 [.str s, .str t] [] = some (.tuple [.str (cutSuf s t), .bool (hasSuf s t)], []) := by
 have h1 := s203 s t hs ht
 refine enter fn156 np156 rfl ?_
 unfold cutSuf
 cases hh : hasSuf s t with
 | true =>
  rw [hh] at h1
  have h : t.length ≤ s.length := by simp [hasSuf] at hh; exact hh.1
  have e1 : ((s.length : Int) - t.length).toNat = s.length - t.length := by omega
  have gg:=trivial;repeat' first|simp (maxSteps:=2000000) (disch:=omega) only [gg,b156,h1,e1,go_sem]|(refine br ?_ ?_<;>intro gg<;>try omega)|(apply And.intro;focus omega)|omega
 | false =>
  rw [hh] at h1
  have gg:=trivial;repeat' first|simp (maxSteps:=2000000) (disch:=omega) only [gg,b156,h1,go_sem]|(refine br ?_ ?_<;>intro gg<;>try omega)|(apply And.intro;focus omega)|omega
theorem s120 (s t : List UInt8) (hs : s.length ≤ 1000000000) (ht : t.length ≤ 1000000000) : callT AA 120 [.str s, .str t] [] = some (.tuple [.str (cutSuf s t), .bool (hasSuf s t)], []) := by
 have h1 := s156 s t hs ht
 refine enter fn120 np120 rfl ?_
 have gg:=trivial;repeat' first|simp (maxSteps:=2000000) (disch:=omega) only [gg,b120,h1,go_sem]|(refine br ?_ ?_<;>intro gg<;>try omega)|(apply And.intro;focus omega)|omega
end Go.Abs
namespace Go.Abs
open Am
set_option maxRecDepth 100000
def rcd0 : Rcd := ⟨[], []⟩
def fstD (l : List UInt8) : List UInt8 := aheadOf 32 l
def fstN (l : List UInt8) : Int := atoiV (fstD l)
def fstR (l : List UInt8) : List UInt8 := (l.drop (fstD l).length.succ).take ((fstN l).toNat - (fstD l).length.succ)
def fstOk1 (l : List UInt8) : Bool := decide (0 ≤ Lib.indexByte l 32) && atoiOk (fstD l) && decide (fstN l ≤ l.length) && decide (((fstD l).length : Int) + 1 ≤ fstN l)
def fstK (l : List UInt8) : List UInt8 := (cutB 61 (fstR l)).1
def fstV (l : List UInt8) : List UInt8 := cutSuf (cutB 61 (fstR l)).2.1 [10]
def fstOk (l : List UInt8) : Bool := fstOk1 l && (cutB 61 (fstR l)).2.2 && hasSuf (cutB 61 (fstR l)).2.1 [10] && lineOk (fstK l) (fstV l) && decide (lineB (fstK l) (fstV l) = l.take (fstN l).toNat)
def firstP (l : List UInt8) : Rcd × Int := if fstOk l = true then (⟨fstK l, fstV l⟩, fstN l) else (rcd0, 0)
theorem s71a (b : BS) (hb : b.l.length ≤ 1000000) (h : fstOk1 b.l = false) : callT AA 71 [b.av] [] = some (.tuple [rcd0.av, .int .i64 0], []) := by
 have hn : (if atoiOk (fstD b.l) = true then AVal.lit .nilIface else numErr) = if atoiOk (fstD b.l) = true then AVal.lit .nilIface else .iface 227 .junk := rfl
 have ha := aheadOf_eq 32 b.l
 have h1 := s114 b 32 32 rfl
 have h2 := s114n b 32 32 rfl
 have hlt := indexByte_lt (s := b.l) (c := 32)
 unfold fstOk1 at h
 by_cases c0 : 0 ≤ Lib.indexByte b.l 32
 ·rw [if_pos c0] at ha
  have h1 := fun c t => h1 c t (by omega) c0
  have hd : (b.sl 0 (Lib.indexByte b.l 32).toNat).l = fstD b.l := by
   rw [BS.sl_l]
   unfold fstD
   rw [ha]
   simp
  have hdl : (fstD b.l).length ≤ 1000000 := by rw [← hd, BS.sl_l]; simp; omega
  have hat := call118 (s := fstD b.l) (by omega)
  rw [hn] at hat
  rw [decide_eq_true c0, Bool.true_and] at h
  have hN : fstN b.l = atoiV (fstD b.l) := rfl
  rw [hN] at h
  generalize Lib.indexByte b.l 32 = q at *
  generalize atoiV (fstD b.l) = N at *
  generalize hD : fstD b.l = D at *
  refine enter fn71 np71 rfl ?_
  cases c1 : atoiOk D with
  | false =>
   rw [c1] at hat
   have gg:=trivial;repeat' first|simp (maxSteps:=2000000) (disch:=omega) only [gg,b71,h1,hd,hat,Bool.false_eq_true,go_sem]|(refine br ?_ ?_<;>intro gg<;>try omega)|(apply And.intro;focus omega)|omega
   rfl
  | true =>
   rw [c1] at hat
   rw [c1] at h
   simp only [Bool.true_and, Bool.and_eq_false_iff, decide_eq_false_iff_not] at h
   have hdl2 : (b.sl 0 q.toNat).l.length = D.length := by rw [hd]
   have gg:=trivial;repeat' first|simp (maxSteps:=2000000) (disch:=omega) only [gg,b71,h1,hd,hat,hdl2,if_true,go_sem]|(refine br ?_ ?_<;>intro gg<;>try omega)|(apply And.intro;focus omega)|omega
   all_goals first | rfl | (exfalso; omega)
 ·have h2 := fun c t => h2 c t c0
  have hat := call118 (s := b.l) (by omega)
  rw [show (if atoiOk b.l = true then AVal.lit .nilIface else numErr) = if atoiOk b.l = true then AVal.lit .nilIface else .iface 227 .junk from rfl] at hat
  generalize Lib.indexByte b.l 32 = q at *
  generalize atoiV b.l = N at *
  refine enter fn71 np71 rfl ?_
  cases c1 : atoiOk b.l with
  | false =>
   rw [c1] at hat
   have gg:=trivial;repeat' first|simp (maxSteps:=2000000) (disch:=omega) only [gg,b71,h2,hat,Bool.false_eq_true,go_sem]|(refine br ?_ ?_<;>intro gg<;>try omega)|(apply And.intro;focus omega)|omega
   rfl
  | true =>
   rw [c1] at hat
   have gg:=trivial;repeat' first|simp (maxSteps:=2000000) (disch:=omega) only [gg,b71,h2,hat,go_sem]|(refine br ?_ ?_<;>intro gg<;>try omega)|(apply And.intro;focus omega)|omega
   rfl
set_option maxHeartbeats 4000000 in
theorem s71 (b : BS) (hb : b.l.length ≤ 1000000) (h : fstOk1 b.l = true) : callT AA 71 [b.av] [] = some (.tuple [(firstP b.l).1.av, .int .i64 (firstP b.l).2], []) := by
 have hn : (if atoiOk (fstD b.l) = true then AVal.lit .nilIface else numErr) = if atoiOk (fstD b.l) = true then AVal.lit .nilIface else .iface 227 .junk := rfl
 have ha := aheadOf_eq 32 b.l
 have h1 := s114 b 32 32 rfl
 have hlt := indexByte_lt (s := b.l) (c := 32)
 have h' := h
 simp only [fstOk1, Bool.and_eq_true, decide_eq_true_eq] at h'
 obtain ⟨⟨⟨c0, c1⟩, c2⟩, c3⟩ := h'
 rw [if_pos c0] at ha
 have h1 := fun c t => h1 c t (by omega) c0
 have hd : (b.sl 0 (Lib.indexByte b.l 32).toNat).l = fstD b.l := by
  rw [BS.sl_l]
  unfold fstD
  rw [ha]
  simp
 have hdl : (fstD b.l).length ≤ 1000000 := by rw [← hd, BS.sl_l]; simp; omega
 have hat := call118 (s := fstD b.l) (by omega)
 rw [hn, c1, if_pos rfl] at hat
 have hN : fstN b.l = atoiV (fstD b.l) := rfl
 have hdl2 : (b.sl 0 (Lib.indexByte b.l 32).toNat).l.length = (fstD b.l).length := by rw [hd]
 have hR : (b.sl ((fstD b.l).length + 1) (fstN b.l).toNat).l = fstR b.l := by
  rw [BS.sl_l]
  rfl
 have hRl : (fstR b.l).length ≤ 1000000 := by rw [← hR, BS.sl_l]; simp; omega
 have h119 := s119 (fstR b.l) 61 hRl
 have hcl : (cutB 61 (fstR b.l)).1.length ≤ 1000000 ∧ (cutB 61 (fstR b.l)).2.1.length ≤ 1000000 := by
  unfold cutB
  split
  ·simp; omega
  ·simp; omega
 have h120 := s120 (cutB 61 (fstR b.l)).2.1 [10] (by omega) (by simp)
 have hsl : (fstV b.l).length ≤ 1000000 := by
  unfold fstV cutSuf
  split
  ·simp; omega
  ·omega
 have h121 := s121 (fstK b.l) (fstV b.l) hcl.1 hsl
 have ht : (b.sl 0 (fstN b.l).toNat).l = b.l.take (fstN b.l).toNat := by rw [BS.sl_l]; simp
 unfold firstP fstOk
 rw [h, Bool.true_and]
 rw [← hN] at hat
 have eK : fstK b.l = (cutB 61 (fstR b.l)).1 := rfl
 have eV : fstV b.l = cutSuf (cutB 61 (fstR b.l)).2.1 [10] := rfl
 rw [← eK] at h119
 rw [← eV] at h120
 generalize (cutB 61 (fstR b.l)).2.2 = g1 at *
 generalize hg2 : hasSuf (cutB 61 (fstR b.l)).2.1 [10] = g2 at *
 generalize (cutB 61 (fstR b.l)).2.1 = V0 at *
 generalize lineOk (fstK b.l) (fstV b.l) = g3 at *
 generalize lineB (fstK b.l) (fstV b.l) = L at *
 generalize Lib.indexByte b.l 32 = q at *
 generalize fstR b.l = R at *
 generalize fstK b.l = K at *
 generalize fstV b.l = V at *
 generalize fstN b.l = N at *
 generalize fstD b.l = D at *
 have hDn : ((D.length : Int) + 1).toNat = D.length + 1 := by omega
 refine enter fn71 np71 rfl ?_
 cases g1 with
 | false =>
  have gg:=trivial;repeat' first|simp (maxSteps:=2000000) (disch:=omega) only [gg,b71,h1,hd,hat,hdl2,hDn,hR,h119,h120,go_sem]|(refine br ?_ ?_<;>intro gg<;>try omega)|(apply And.intro;focus omega)|omega
  all_goals first | rfl | (exfalso; omega)
 | true =>
  cases g2 with
  | false =>
   have gg:=trivial;repeat' first|simp (maxSteps:=2000000) (disch:=omega) only [gg,b71,h1,hd,hat,hdl2,hDn,hR,h119,h120,go_sem]|(refine br ?_ ?_<;>intro gg<;>try omega)|(apply And.intro;focus omega)|omega
   all_goals first | rfl | (exfalso; omega)
  | true =>
   cases g3 with
   | false =>
    have gg:=trivial;repeat' first|simp (maxSteps:=2000000) (disch:=omega) only [gg,b71,h1,hd,hat,hdl2,hDn,hR,h119,h120,h121,go_sem]|(refine br ?_ ?_<;>intro gg<;>try omega)|(apply And.intro;focus omega)|omega
    all_goals first | rfl | (exfalso; omega)
   | true =>
    by_cases hL : L = b.l.take N.toNat
    ·have gg:=trivial;repeat' first|simp (maxSteps:=2000000) (disch:=omega) only [gg,b71,h1,hd,hat,hdl2,hDn,hR,h119,h120,h121,ht,decide_eq_true hL,decide_eq_false,go_sem]|(refine br ?_ ?_<;>intro gg<;>try omega)|(apply And.intro;focus omega)|omega
     all_goals first | rfl | (exfalso; omega)
    ·have gg:=trivial;repeat' first|simp (maxSteps:=2000000) (disch:=omega) only [gg,b71,h1,hd,hat,hdl2,hDn,hR,h119,h120,h121,ht,decide_eq_false hL,go_sem]|(refine br ?_ ?_<;>intro gg<;>try omega)|(apply And.intro;focus omega)|omega
     all_goals first | rfl | (exfalso; omega)
end Go.Abs
namespace Go.Abs
open Am
set_option maxRecDepth 10000
theorem firstP_no {l : List UInt8} (h : fstOk1 l = false) : firstP l = (rcd0, 0) := by
 unfold firstP fstOk
 rw [h]
 rfl
theorem s71f (b : BS) (hb : b.l.length ≤ 1000000) : callT AA 71 [b.av] [] = some (.tuple [(firstP b.l).1.av, .int .i64 (firstP b.l).2], []) := by
 cases h : fstOk1 b.l with
 | true => exact s71 b hb h
 | false =>
  rw [firstP_no h]
  exact s71a b hb h
theorem firstP_n (l : List UInt8) : (firstP l).2 = 0 ∨ (1 ≤ (firstP l).2 ∧ (firstP l).2 ≤ l.length) := by
 unfold firstP
 split
 ·rename_i h
  simp only [fstOk, fstOk1, Bool.and_eq_true, decide_eq_true_eq] at h
  refine .inr ⟨?_, ?_⟩
  ·show 1 ≤ fstN l; omega
  ·show fstN l ≤ l.length; omega
 ·exact .inl rfl
theorem firstP_le (l : List UInt8) : (firstP l).1.key.length ≤ l.length ∧ (firstP l).1.value.length ≤ l.length := by
 have hR : (fstR l).length ≤ l.length := by unfold fstR; simp; omega
 have hc : (cutB 61 (fstR l)).1.length ≤ l.length ∧ (cutB 61 (fstR l)).2.1.length ≤ l.length := by
  unfold cutB
  split
  ·simp; omega
  ·simp; omega
 have hv : (fstV l).length ≤ l.length := by
  unfold fstV cutSuf
  split
  ·simp; omega
  ·omega
 unfold firstP
 split
 ·exact ⟨hc.1, hv⟩
 ·simp [rcd0]
def aftB (p : Option Rcd) (r : Rcd) : Bool := match p with
 | none => true
 | some p => Op.bytesLess p.key r.key
def decP : Nat → Option Rcd → List Rcd → List UInt8 → Option (List Rcd)
 | 0, _, acc, _ => some acc
 | k + 1, p, acc, l => if l = [] then some acc else
  if (firstP l).2 = 0 ∨ aftB p (firstP l).1 = false then none else decP k (some (firstP l).1) (acc ++ [(firstP l).1]) (l.drop (firstP l).2.toNat)
def paxD (l : List UInt8) : Option (List Rcd) := if 65536 < l.length then none else decP l.length none [] l
def pdV (x : Option (List Rcd)) : AVal := match x with
 | none => .tuple [.lit (.slice none 0 0), .iface 58 (.int .i64 15)]
 | some [] => .tuple [.lit (.slice none 0 0), .lit .nilIface]
 | some (r :: rs) => .tuple [.own 0 2 0 (r :: rs).length false, .lit .nilIface]
def pdH (x : Option (List Rcd)) : Heap := match x with
 | none => []
 | some [] => []
 | some (r :: rs) => [(0, .row ((r :: rs).map Rcd.av) 2)]
theorem h35 (r0 : Option (List Rcd)) : ∀ (k : Nat) (b : BS) (p : Rcd) (acc rs : List Rcd) (q : Nat), rs = acc ++ [p] → b.l.length ≤ k → b.l.length ≤ 1000000 → q = rs.length → rs.length + k ≤ 1000001 → r0 = decP k (some p) rs b.l →
  HD AA 0 [0, 2, 3, 4] l35_0 ⟨[b.av, .junk, .lit (.slice none 0 0), .lit .nilIface, .own 0 2 0 q false, .junk, .junk, .junk, .junk, .junk, .junk, .junk, .junk, .junk, .junk, .junk, .junk, .junk, .junk, .junk, .junk, .junk, .junk, .junk, .junk, .junk, .junk, .junk, .junk, .junk, .junk, .junk, .junk, .junk, .junk, .junk, .junk, .junk, .junk, .junk, .junk, .junk, .junk, .junk, .junk, .junk, .junk], [(0, .row (rs.map Rcd.av) 2)], 1⟩ [.blk 0, .code r35_0] (Fin [(2, none), (3, none)] 0 (pdV r0) (pdH r0))
 | k, b, p, acc, rs, q, h0, h1, h2, h3, h4, h5 => by
  by_cases hl : b.l = []
  ·have hl0 : b.l.length = 0 := by rw [hl]; rfl
   have hr : r0 = some rs := by
    cases k with
    | zero => exact h5
    | succ k => rw [h5]; unfold decP; rw [if_pos hl]
   refine hd_of (by unfold l35_0; rfl) ?_
   rw [hr]
   cases rs with
   | nil => simp at h0
   | cons x y =>
    unfold pdV pdH
    have gg:=trivial;repeat' first|simp (maxSteps:=2000000) (disch:=omega) only [gg,r35_0,go_sem]|(refine br ?_ ?_<;>intro gg<;>try omega)|(apply And.intro;focus omega)|omega
    simp [h3]
  ·have hl0 : 0 < b.l.length := by
    cases hz : b.l with
    | nil => exact (hl hz).elim
    | cons x y => simp
   match k, h1, h4, h5 with
   | 0, h1, h4, h5 => omega
   | k + 1, h1, h4, h5 =>
    have hf := s71f b h2
    unfold decP at h5
    refine hd_of (by unfold l35_0; rfl) ?_
    rw [if_neg hl] at h5
    have hn := firstP_n b.l
    have hbl := fun n => BS.sl_l (b := b) (lo := n) (hi := b.l.length)
    have hq : 0 < rs.length := by rw [h0]; simp
    have hg0 : rs[q - 1]? = some p := by rw [h3, h0]; simp
    have hg1 : ((q : Int) - 1).toNat = q - 1 := by omega
    generalize firstP b.l = P at *
    obtain ⟨r, n⟩ := P
    simp only [Rcd.av] at hf
    simp only at h5 hn
    have et : (rs.map Rcd.av).take q = rs.map Rcd.av := List.take_of_length_le (by simp; omega)
    by_cases hn0 : n = 0
    ·rw [if_pos (.inl hn0)] at h5
     rw [h5]
     unfold pdV pdH
     have gg:=trivial;repeat' first|simp (maxSteps:=2000000) (disch:=omega) only [gg,hf,hg0,hg1,lp_head,go_sem]|(refine br ?_ ?_<;>intro gg<;>try omega)|(apply And.intro;focus omega)|omega
    ·cases ha : aftB (some p) r with
     | false =>
      rw [if_pos (.inr ha)] at h5
      rw [h5]
      unfold pdV pdH
      simp only [aftB] at ha
      have gg:=trivial;repeat' first|simp (maxSteps:=2000000) (disch:=omega) only [gg,hf,hg0,hg1,ha,lp_head,go_sem]|(refine br ?_ ?_<;>intro gg<;>try omega)|(apply And.intro;focus omega)|omega
     | true =>
      rw [if_neg (by simp [hn0, ha])] at h5
      have ih := h35 r0 k (b.sl n.toNat b.l.length) r rs (rs ++ [r]) (q + 1) rfl (by rw [BS.sl_l]; simp; omega) (by rw [BS.sl_l]; simp; omega) (by simp [h3]) (by simp; omega) (by rw [h5, BS.sl_l, List.take_of_length_le (by simp)])
      simp only [List.map_append, List.map_cons, List.map_nil, Rcd.av] at ih
      simp only [aftB] at ha
      have gg:=trivial;repeat' first|simp (maxSteps:=2000000) (disch:=omega) only [gg,hf,hg0,hg1,ha,et,lp_head,go_sem]|(refine br ?_ ?_<;>intro gg<;>try omega)|(apply And.intro;focus omega)|omega
theorem s35 (b : BS) (hb : b.l.length ≤ 1000000) : callT AA 35 [b.av] [] = some (pdV (paxD b.l), pdH (paxD b.l)) := by
 refine enter fn35 np35 rfl ?_
 unfold paxD
 by_cases h1 : 65536 < b.l.length
 ·rw [if_pos h1]
  unfold pdV pdH
  have gg:=trivial;repeat' first|simp (maxSteps:=2000000) (disch:=omega) only [gg,b35,go_sem]|(refine br ?_ ?_<;>intro gg<;>try omega)|(apply And.intro;focus omega)|omega
 rw [if_neg h1]
 generalize hr : decP b.l.length none [] b.l = r0
 have gg:=trivial;repeat' first|simp (maxSteps:=2000000) (disch:=omega) only [gg,b35,lp_head,go_sem]|(refine br ?_ ?_<;>intro gg<;>try omega)|(apply And.intro;focus omega)|omega
 by_cases hl : b.l = []
 ·have hl0 : b.l.length = 0 := by rw [hl]; rfl
  rw [hl0] at hr
  unfold decP at hr
  rw [← hr]
  unfold pdV pdH
  refine hd_of (by unfold l35_0; rfl) ?_
  have gg:=trivial;repeat' first|simp (maxSteps:=2000000) (disch:=omega) only [gg,r35_0,go_sem]|(refine br ?_ ?_<;>intro gg<;>try omega)|(apply And.intro;focus omega)|omega
 ·have hl0 : 0 < b.l.length := by
   cases hz : b.l with
   | nil => exact (hl hz).elim
   | cons x y => simp
  have hf := s71f b hb
  have hn := firstP_n b.l
  obtain ⟨k, hk⟩ : ∃ k, b.l.length = k + 1 := ⟨b.l.length - 1, by omega⟩
  rw [hk] at hr
  unfold decP at hr
  rw [if_neg hl] at hr
  generalize firstP b.l = P at *
  obtain ⟨r, n⟩ := P
  simp only [Rcd.av] at hf
  simp only at hr hn
  refine hd_of (by unfold l35_0; rfl) ?_
  by_cases hn0 : n = 0
  ·rw [if_pos (.inl hn0)] at hr
   rw [← hr]
   unfold pdV pdH
   have gg:=trivial;repeat' first|simp (maxSteps:=2000000) (disch:=omega) only [gg,hf,lp_head,go_sem]|(refine br ?_ ?_<;>intro gg<;>try omega)|(apply And.intro;focus omega)|omega
  ·rw [if_neg (by simp [hn0, aftB])] at hr
   have ih := h35 r0 k (b.sl n.toNat b.l.length) r [] [r] 1 rfl (by rw [BS.sl_l]; simp; omega) (by rw [BS.sl_l]; simp; omega) rfl (by simp; omega) (by rw [← hr, BS.sl_l, List.take_of_length_le (by simp)]; rfl)
   simp only [List.map_cons, List.map_nil, Rcd.av] at ih
   have gg:=trivial;repeat' first|simp (maxSteps:=2000000) (disch:=omega) only [gg,hf,lp_head,go_sem]|(refine br ?_ ?_<;>intro gg<;>try omega)|(apply And.intro;focus omega)|omega
end Go.Abs
namespace Go.Abs
open Am
set_option maxRecDepth 10000
def wholeN (n : Int) : Int := (n + 511) / 512 * 512
theorem wholeN_le {n : Int} (h : 0 ≤ n) : n ≤ wholeN n ∧ wholeN n ≤ n + 511 ∧ 0 ≤ wholeN n := by
 unfold wholeN
 omega
theorem s143 (b : BS) (n : Int) (h0 : 0 ≤ n) (h1 : n ≤ 8589934592) (hb : b.l.length ≤ 1000000000) (hw : wholeN n ≤ b.l.length) : callT AA 143 [.ptr 0 0, .int .i64 n] [(0, .var [b.av])] = some (.tuple [(b.sl 0 n.toNat).av, .bool true], [(0, .var [(b.sl (wholeN n).toNat b.l.length).av])]) := by
 have hl := wholeN_le h0
 have e1 : (n + 512 - 1).tdiv 512 * 512 = wholeN n := by
  rw [Int.tdiv_eq_ediv_of_nonneg (by omega)]
  unfold wholeN
  rw [show n + 512 - 1 = n + 511 by omega]
 have e2 : (n + 512 - 1).tdiv 512 = (n + 511) / 512 := by
  rw [Int.tdiv_eq_ediv_of_nonneg (by omega)]
  rw [show n + 512 - 1 = n + 511 by omega]
 have e3 : (n + 511) / 512 * 512 = wholeN n := rfl
 refine enter fn143 np143 rfl ?_
 generalize hq : wholeN n = q at *
 have gg:=trivial;repeat' first|simp (maxSteps:=2000000) (disch:=omega) only [gg,b143,e2,e3,go_sem]|(refine br ?_ ?_<;>intro gg<;>try omega)|(apply And.intro;focus omega)|omega
theorem s143n (b : BS) (n : Int) (h0 : 0 ≤ n) (h1 : n ≤ 8589934592) (hb : b.l.length ≤ 1000000000) (hw : ¬ wholeN n ≤ b.l.length) : callT AA 143 [.ptr 0 0, .int .i64 n] [(0, .var [b.av])] = some (.tuple [.lit (.slice none 0 0), .bool false], [(0, .var [b.av])]) := by
 have hl := wholeN_le h0
 have e2 : (n + 512 - 1).tdiv 512 = (n + 511) / 512 := by
  rw [Int.tdiv_eq_ediv_of_nonneg (by omega)]
  rw [show n + 512 - 1 = n + 511 by omega]
 have e3 : (n + 511) / 512 * 512 = wholeN n := rfl
 refine enter fn143 np143 rfl ?_
 generalize hq : wholeN n = q at *
 have gg:=trivial;repeat' first|simp (maxSteps:=2000000) (disch:=omega) only [gg,b143,e2,e3,go_sem]|(refine br ?_ ?_<;>intro gg<;>try omega)|(apply And.intro;focus omega)|omega
theorem numF_le : ∀ (r : List UInt8) (acc : Int), 0 ≤ acc → 0 ≤ numF acc r ∧ numF acc r + 1 ≤ (acc + 1) * 8 ^ r.length
 | [], acc, h => by simp [numF, h]
 | c :: r, acc, h => by
  have ih := numF_le r (acc * 8 + (c.toNat : Int) % 8) (by omega)
  have hp := pow8_pos r.length
  unfold numF
  refine ⟨ih.1, Int.le_trans ih.2 ?_⟩
  rw [List.length_cons, Int.pow_succ, show (acc + 1) * (8 ^ r.length * 8) = ((acc + 1) * 8) * 8 ^ r.length by rw [Int.mul_assoc, Int.mul_comm 8]]
  exact Int.mul_le_mul_of_nonneg_right (by omega) (by omega)
theorem size_le (l : List UInt8) : 0 ≤ (decH l).size ∧ (decH l).size ≤ 8589934592 := by
 have h := numF_le ((l.drop 124).take 11) 0 (by omega)
 have hl : ((l.drop 124).take 11).length ≤ 11 := by simp; omega
 refine ⟨h.1, ?_⟩
 show numF 0 ((l.drop 124).take 11) ≤ 8589934592
 have h9 : ∀ k : Nat, k ≤ 11 → (8 : Int) ^ k ≤ 8589934592 := by
  intro k hk
  have hd : (8 : Int) ^ k * 8 ^ (11 - k) = 8589934592 := by
   rw [← Int.pow_add, show k + (11 - k) = 11 by omega]
   rfl
  have h10 := pow8_pos (11 - k)
  have h11 := pow8_pos k
  have := Int.mul_le_mul_of_nonneg_left h10 (show (0 : Int) ≤ 8 ^ k by omega)
  omega
 have := h9 _ hl
 omega
def hdrV (b : BS) : AVal :=
 if b.l.length < 512 ∨ decOk (b.sl 0 512).l = false then .tuple [hd0.av, .lit (.slice none 0 0), .bool false] else
 if wholeN (decH (b.sl 0 512).l).size ≤ (b.sl 512 b.l.length).l.length then .tuple [(decH (b.sl 0 512).l).av, ((b.sl 512 b.l.length).sl 0 (decH (b.sl 0 512).l).size.toNat).av, .bool true]
 else .tuple [(decH (b.sl 0 512).l).av, .lit (.slice none 0 0), .bool false]
def hdrR (b : BS) : BS :=
 if b.l.length < 512 then b else if decOk (b.sl 0 512).l = false then b.sl 512 b.l.length else
 if wholeN (decH (b.sl 0 512).l).size ≤ (b.sl 512 b.l.length).l.length then (b.sl 512 b.l.length).sl (wholeN (decH (b.sl 0 512).l).size).toNat (b.sl 512 b.l.length).l.length
 else b.sl 512 b.l.length
theorem s100 (b : BS) (hb : b.l.length ≤ 1000000000) : callT AA 100 [.ptr 0 0] [(0, .var [b.av])] = some (hdrV b, [(0, .var [(hdrR b).av])]) := by
 have hw : wholeN 512 = 512 := rfl
 refine enter fn100 np100 rfl ?_
 unfold hdrV hdrR
 by_cases c1 : b.l.length < 512
 ·have h1 := s143n b 512 (by omega) (by omega) hb (by rw [hw]; omega)
  rw [if_pos (.inl c1), if_pos c1]
  have gg:=trivial;repeat' first|simp (maxSteps:=2000000) (disch:=omega) only [gg,b100,h1,go_sem]|(refine br ?_ ?_<;>intro gg<;>try omega)|(apply And.intro;focus omega)|omega
  rfl
 ·have h1 := s143 b 512 (by omega) (by omega) hb (by rw [hw]; omega)
  rw [hw] at h1
  have e512 : (512 : Int).toNat = 512 := rfl
  rw [e512] at h1
  have hbl : (b.sl 0 512).l.length = 512 := by rw [BS.sl_l]; simp; omega
  have h2 := s34 (b.sl 0 512) hbl
  rw [if_neg c1]
  cases c2 : decOk (b.sl 0 512).l with
  | false =>
   rw [c2] at h2
   rw [if_pos (.inr rfl), if_pos rfl]
   have gg:=trivial;repeat' first|simp (maxSteps:=2000000) (disch:=omega) only [gg,b100,h1,h2,Bool.false_eq_true,go_sem]|(refine br ?_ ?_<;>intro gg<;>try omega)|(apply And.intro;focus omega)|omega
   rfl
  | true =>
   rw [c2, if_pos rfl] at h2
   rw [if_neg (show ¬ (b.l.length < 512 ∨ true = false) by simp [c1]), if_neg (show ¬ (true = false) by simp)]
   have hs := size_le (b.sl 0 512).l
   have hrl : (b.sl 512 b.l.length).l.length ≤ 1000000000 := by rw [BS.sl_l]; simp; omega
   generalize decH (b.sl 0 512).l = h at *
   simp only [Hd.av] at h2
   by_cases c3 : wholeN h.size ≤ (b.sl 512 b.l.length).l.length
   ·have h3 := s143 (b.sl 512 b.l.length) h.size hs.1 hs.2 hrl c3
    rw [if_pos c3, if_pos c3]
    have gg:=trivial;repeat' first|simp (maxSteps:=2000000) (disch:=omega) only [gg,b100,h1,h2,h3,go_sem]|(refine br ?_ ?_<;>intro gg<;>try omega)|(apply And.intro;focus omega)|omega
   ·have h3 := s143n (b.sl 512 b.l.length) h.size hs.1 hs.2 hrl c3
    rw [if_neg c3, if_neg c3]
    have gg:=trivial;repeat' first|simp (maxSteps:=2000000) (disch:=omega) only [gg,b100,h1,h2,h3,go_sem]|(refine br ?_ ?_<;>intro gg<;>try omega)|(apply And.intro;focus omega)|omega
end Go.Abs
namespace Go.Abs
open Am
set_option maxRecDepth 10000
abbrev zs (n : Nat) : List UInt8 := List.replicate n 0
def octD : Nat → Int → List UInt8
 | 0, _ => []
 | k + 1, n => octD k (n / 8) ++ [UInt8.ofNat (48 + n % 8).toNat]
theorem octD_length : ∀ (k : Nat) (n : Int), (octD k n).length = k
 | 0, _ => rfl
 | k + 1, n => by simp [octD, octD_length k]
theorem set_split {α : Type} {a r : List α} {x y : α} {n : Nat} (h : n = a.length) : (a ++ x :: r).set n y = a ++ y :: r := by subst h; simp
theorem zs_add (m n : Nat) : zs (m + n) = zs m ++ zs n := (List.replicate_append_replicate ..).symm
theorem zs_split {m n : Nat} (h : m ≤ n) : zs n = zs m ++ zs (n - m) := by
 rw [← zs_add]
 congr 1
 omega
theorem octW_mid : ∀ (k : Nat) (a x c : List UInt8) (pos : Nat) (n : Int), pos = a.length → x.length = k → octW (a ++ x ++ c) pos k n = a ++ octD k n ++ c
 | 0, a, x, c, pos, n, h1, h2 => by
  have : x = [] := List.eq_nil_of_length_eq_zero h2
  subst this
  rfl
 | k + 1, a, x, c, pos, n, h1, h2 => by
  obtain ⟨y, z, rfl⟩ : ∃ y z, x = y ++ [z] := by
   refine ⟨x.take k, x.getD k 0, ?_⟩
   have hlt : k < x.length := by omega
   have e : x.getD k 0 = x[k] := by rw [List.getD, List.getElem?_eq_getElem hlt]; rfl
   rw [e, List.take_append_getElem hlt, List.take_of_length_le (by omega)]
  have hy : y.length = k := by simpa using h2
  have hs : (a ++ (y ++ [z]) ++ c).set (pos + k) (UInt8.ofNat (48 + n % 8).toNat) = a ++ y ++ (UInt8.ofNat (48 + n % 8).toNat :: c) := by
   have : a ++ (y ++ [z]) ++ c = (a ++ y) ++ z :: c := by simp
   rw [this, set_split (by simp [h1, hy])]
  unfold octW
  rw [hs, octW_mid k a y _ pos _ h1 hy]
  simp [octD]
theorem octW_tail {A : List UInt8} {n pos k : Nat} {v : Int} (j : Nat) (h1 : pos = A.length + j) (h2 : j + k ≤ n) : octW (A ++ zs n) pos k v = (A ++ zs j ++ octD k v) ++ zs (n - j - k) := by
 have e : A ++ zs n = (A ++ zs j) ++ zs k ++ zs (n - j - k) := by
  rw [zs_split (m := j) (n := n) (by omega), zs_split (m := k) (n := n - j) (by omega)]
  simp only [List.append_assoc]
 rw [e, octW_mid k _ _ _ pos v (by simp [h1]) (by simp)]
theorem putA_tail {A xs : List UInt8} {n pos k : Nat} (j : Nat) (h1 : pos = A.length + j) (h2 : j + k ≤ n) (h3 : xs.length ≤ k) : putA (A ++ zs n) pos k xs = (A ++ zs j ++ xs) ++ zs (n - j - xs.length) := by
 have e : A ++ zs n = (A ++ zs j) ++ (zs xs.length ++ zs (n - j - xs.length)) := by
  rw [zs_split (m := j) (n := n) (by omega), zs_split (m := xs.length) (n := n - j) (by omega)]
  simp only [List.append_assoc]
 have hm : min xs.length k = xs.length := by omega
 unfold putA
 rw [hm, List.take_of_length_le (Nat.le_refl _), e]
 have h4 : ((A ++ zs j) ++ (zs xs.length ++ zs (n - j - xs.length))).take pos = A ++ zs j := by
  rw [List.take_left' (by simp [h1])]
 have h5 : ((A ++ zs j) ++ (zs xs.length ++ zs (n - j - xs.length))).drop (pos + xs.length) = zs (n - j - xs.length) := by
  rw [← List.append_assoc, List.drop_left' (by simp [h1]; omega)]
 rw [h4, h5]
theorem set_tail {A : List UInt8} {n pos : Nat} {v : UInt8} (j : Nat) (h1 : pos = A.length + j) (h2 : j + 1 ≤ n) : (A ++ zs n).set pos v = (A ++ zs j ++ [v]) ++ zs (n - j - 1) := by
 have e : A ++ zs n = (A ++ zs j) ++ 0 :: zs (n - j - 1) := by
  rw [zs_split (m := j) (n := n) (by omega), zs_split (m := 1) (n := n - j) (by omega)]
  simp only [List.append_assoc]
  rfl
 rw [e, set_split (by simp [h1])]
 simp
def fillT (s : List UInt8) (n : Nat) : List UInt8 := s ++ zs (n - s.length)
theorem fillT_length {s : List UInt8} {n : Nat} (h : s.length ≤ n) : (fillT s n).length = n := by
 simp [fillT]
 omega
def blkA (h : Hd) (name : List UInt8) : List UInt8 := fillT name 100 ++ octD 7 h.mode ++ [0] ++ octD 7 h.uid ++ [0] ++ octD 7 h.gid ++ [0] ++ octD 11 h.size ++ [0] ++ octD 11 h.time ++ [0]
def blkZ (h : Hd) (pre : List UInt8) : List UInt8 := [h.type] ++ fillT h.link 100 ++ magicB ++ zs 64 ++ octD 7 0 ++ [0] ++ octD 7 0 ++ [0] ++ fillT pre 155 ++ zs 12
theorem blkA_length {h : Hd} {name : List UInt8} (h1 : name.length ≤ 100) : (blkA h name).length = 148 := by
 simp [blkA, fillT_length h1, octD_length]
theorem zs_one : ([0] : List UInt8) = zs 1 := rfl
theorem encH_eq {h : Hd} {pre name : List UInt8} (h1 : name.length ≤ 100) (h2 : pre.length ≤ 155) (h3 : h.link.length ≤ 100) : encH h pre name = blkA h name ++ zs 8 ++ blkZ h pre := by
 have e0 : zeros512 = [] ++ zs 512 := rfl
 have hm : magicB.length = 8 := rfl
 unfold encH
 simp only []
 rw [e0, putA_tail 0 (by simp) (by omega) (by omega)]
 rw [octW_tail (100 - name.length) (by simp; omega) (by omega)]
 rw [octW_tail 1 (by simp [octD_length]; omega) (by omega)]
 rw [octW_tail 1 (by simp [octD_length]; omega) (by omega)]
 rw [octW_tail 1 (by simp [octD_length]; omega) (by omega)]
 rw [octW_tail 1 (by simp [octD_length]; omega) (by omega)]
 rw [set_tail 9 (by simp [octD_length]; omega) (by omega)]
 rw [putA_tail 0 (by simp [octD_length]; omega) (by omega) (by omega)]
 rw [putA_tail (100 - h.link.length) (by simp [octD_length]; omega) (by omega) (by rw [hm]; omega)]
 rw [octW_tail 64 (by simp [octD_length, hm]; omega) (by rw [hm]; omega)]
 rw [octW_tail 1 (by simp [octD_length, hm]; omega) (by rw [hm]; omega)]
 rw [putA_tail 1 (by simp [octD_length, hm]; omega) (by rw [hm]; omega) (by omega)]
 have e9 : zs 9 = [0] ++ zs 8 := rfl
 have en : 512 - 0 - name.length - (100 - name.length) - 7 - 1 - 7 - 1 - 7 - 1 - 11 - 1 - 11 - 9 - 1 - 0 - h.link.length - (100 - h.link.length) - magicB.length - 64 - 7 - 1 - 7 - 1 - pre.length = (155 - pre.length) + 12 := by rw [hm]; omega
 rw [en]
 have e0' : zs 0 = [] := rfl
 unfold blkA blkZ fillT
 rw [e9, zs_add (155 - pre.length) 12, ← zs_one, e0']
 simp only [List.append_assoc, List.nil_append, List.append_nil]
def sumV (h : Hd) (pre name : List UInt8) : Int := 256 + sumL 0 (blkA h name ++ zs 8 ++ blkZ h pre)
def sumD (n : Int) : List UInt8 := octD 6 n ++ [0, 32]
def blk (h : Hd) (pre name : List UInt8) : List UInt8 := blkA h name ++ sumD (sumV h pre name) ++ blkZ h pre
theorem encB_blk {h : Hd} (h1 : (splitN h.path).2.1.length ≤ 100) (h2 : (splitN h.path).1.length ≤ 155) (h3 : h.link.length ≤ 100) : encB h = blk h (splitN h.path).1 (splitN h.path).2.1 := by
 unfold encB
 simp only []
 rw [encH_eq h1 h2 h3]
 generalize (splitN h.path).1 = pre at *
 generalize (splitN h.path).2.1 = name at *
 have e : blkA h name ++ zs 8 ++ blkZ h pre = blkA h name ++ zs 6 ++ ([0, 0] ++ blkZ h pre) := by
  have : zs 8 = zs 6 ++ [0, 0] := rfl
  rw [this]
  simp
 show (octW _ 148 6 (sumV h pre name)).set 155 32 = _
 rw [e, octW_mid 6 _ _ _ 148 _ (blkA_length h1).symm (by simp)]
 have e2 : blkA h name ++ octD 6 (sumV h pre name) ++ ([0, 0] ++ blkZ h pre) = (blkA h name ++ octD 6 (sumV h pre name) ++ [0]) ++ 0 :: blkZ h pre := by simp
 rw [e2, set_split (by simp [blkA_length h1, octD_length])]
 simp [blk, sumD]
theorem aheadOf_app (x : UInt8) : ∀ (s r : List UInt8), (∀ c ∈ s, c ≠ x) → aheadOf x (s ++ r) = s ++ aheadOf x r
 | [], r, _ => rfl
 | c :: s, r, h => by
  have hc : c ≠ x := h c (by simp)
  show (if c = x then [] else c :: aheadOf x (s ++ r)) = _
  rw [if_neg hc, aheadOf_app x s r fun y hy => h y (by simp [hy])]
  rfl
theorem aheadOf_zs (n : Nat) : aheadOf 0 (zs n) = [] := by
 cases n <;> simp [zs, aheadOf, List.replicate_succ]
theorem aheadOf_fill {s : List UInt8} {n : Nat} (h : ∀ c ∈ s, c ≠ 0) : aheadOf 0 (fillT s n) = s := by
 unfold fillT
 rw [aheadOf_app 0 s _ h, aheadOf_zs, List.append_nil]
theorem numF_app : ∀ (a b : List UInt8) (acc : Int), numF acc (a ++ b) = numF (numF acc a) b
 | [], b, acc => rfl
 | c :: a, b, acc => by
  show numF (acc * 8 + (c.toNat : Int) % 8) (a ++ b) = _
  rw [numF_app a b]
  rfl
theorem oct_digit (n : Int) : ((UInt8.ofNat (48 + n % 8).toNat).toNat : Int) % 8 = n % 8 := by
 have h : (UInt8.ofNat (48 + n % 8).toNat).toNat = (48 + n % 8).toNat := UInt8.toNat_ofNat_of_lt' (by simp [UInt8.size]; omega)
 rw [h]
 omega
theorem numF_oct : ∀ (k : Nat) (n : Int), 0 ≤ n → n < 8 ^ k → numF 0 (octD k n) = n
 | 0, n, h0, h1 => by
  simp at h1
  have : n = 0 := by omega
  rw [this]
  rfl
 | k + 1, n, h0, h1 => by
  have hd : n / 8 < 8 ^ k := by
   rw [Int.pow_succ] at h1
   omega
  unfold octD
  rw [numF_app, numF_oct k (n / 8) (by omega) hd]
  show n / 8 * 8 + ((UInt8.ofNat (48 + n % 8).toNat).toNat : Int) % 8 = n
  rw [oct_digit]
  omega
theorem dt_mid {α : Type} {a x c : List α} {i n : Nat} (h1 : i = a.length) (h2 : n = x.length) : ((a ++ (x ++ c)).drop i).take n = x := by
 rw [List.drop_left' h1.symm, List.take_left' h2.symm]
theorem ascii_ne {s : List UInt8} (h : asciiB s = true) : ∀ c ∈ s, c ≠ 0 := by
 intro c hc
 unfold asciiB at h
 have := List.all_eq_true.1 h c hc
 unfold okByte at this
 rintro rfl
 simp at this
theorem spAt_ok {p : List UInt8} : ∀ (k i : Nat), (spAt p k i).2.2 = true → ∃ j, spOk p j = true ∧ spAt p k i = (p.take j, p.drop (j + 1), true)
 | 0, _, h => by cases h
 | k + 1, i, h => by
  unfold spAt at h ⊢
  by_cases c : spOk p i = true
  ·rw [if_pos c]
   exact ⟨i, c, rfl⟩
  ·rw [if_neg c] at h ⊢
   exact spAt_ok k (i + 1) h
theorem splitN_ok {p : List UInt8} (h : (splitN p).2.2 = true) : asciiB p = true ∧ (splitN p).1.length ≤ 155 ∧ (splitN p).2.1.length ≤ 100 ∧ (splitN p).2.1 ≠ [] ∧
  ((splitN p).1 = [] ∧ (splitN p).2.1 = p ∨ (splitN p).1 ≠ [] ∧ p = (splitN p).1 ++ [47] ++ (splitN p).2.1) := by
 unfold splitN at h ⊢
 by_cases c1 : p = [] ∨ asciiB p = false
 ·rw [if_pos c1] at h; cases h
 rw [if_neg c1] at h ⊢
 have ha : asciiB p = true := by
  cases ha : asciiB p with
  | true => rfl
  | false => exact (c1 (.inr ha)).elim
 have hn : p ≠ [] := fun hp => c1 (.inl hp)
 by_cases c2 : p.length ≤ 100
 ·rw [if_pos c2]
  exact ⟨ha, by simp, c2, hn, .inl ⟨rfl, rfl⟩⟩
 rw [if_neg c2] at h ⊢
 obtain ⟨j, hj, he⟩ := spAt_ok _ _ h
 rw [he]
 unfold spOk at hj
 simp only [Bool.and_eq_true, decide_eq_true_eq] at hj
 obtain ⟨⟨⟨⟨j1, j2⟩, j3⟩, j4⟩, j5⟩ := hj
 refine ⟨ha, by simp; omega, by simp; omega, ?_, .inr ⟨?_, ?_⟩⟩
 ·intro hd
  have := congrArg List.length hd
  rw [List.length_drop, List.length_nil] at this
  omega
 ·intro hd
  have := congrArg List.length hd
  rw [List.length_take, List.length_nil] at this
  omega
 ·have hlt : j < p.length := by omega
  have hg : p[j] = 47 := by
   have := List.getElem?_eq_getElem hlt
   rw [this] at j1
   exact Option.some.inj j1
  have : p = p.take j ++ p.drop j := (List.take_append_drop j p).symm
  rw [List.drop_eq_getElem_cons hlt, hg] at this
  simpa using this
structure FitsH (h : Hd) : Prop where
 mode : 0 ≤ h.mode ∧ h.mode < 2097152
 uid : 0 ≤ h.uid ∧ h.uid < 2097152
 gid : 0 ≤ h.gid ∧ h.gid < 2097152
 size : 0 ≤ h.size ∧ h.size < 8589934592
 time : 0 ≤ h.time ∧ h.time < 8589934592
 link : h.link.length ≤ 100 ∧ asciiB h.link = true
theorem linkB_iff {l : List UInt8} (h : linkB l = true) : l ≠ [] ∧ l.length ≤ 100 ∧ asciiB l = true := by
 unfold linkB at h
 simp only [Bool.and_eq_true, decide_eq_true_eq] at h
 exact ⟨h.1.1, by omega, h.2⟩
theorem fitsH_of {h : Hd} (hf : fitsB h = true) : FitsH h := by
 unfold fitsB at hf
 simp only [Bool.and_eq_true] at hf
 obtain ⟨⟨⟨⟨⟨f1, f2⟩, f3⟩, f4⟩, f5⟩, f6⟩ := hf
 refine ⟨idB_iff.1 f1, idB_iff.1 f2, idB_iff.1 f3, timeB_iff.1 f4, timeB_iff.1 f5, ?_⟩
 have hn : h.link = [] → h.link.length ≤ 100 ∧ asciiB h.link = true := by
  intro hl
  rw [hl]
  exact ⟨by simp, rfl⟩
 split at f6
 ·simp only [Bool.and_eq_true] at f6
  exact (linkB_iff f6.1).2
 ·split at f6
  ·simp only [Bool.and_eq_true, decide_eq_true_eq] at f6
   exact hn f6.1
  ·split at f6
   ·exact hn (by simpa using f6)
   ·cases f6
theorem decH_blk {h : Hd} {pre name : List UInt8} (s : List UInt8) (hs : s.length = 8) (hf : FitsH h) (h1 : name.length ≤ 100) (h2 : pre.length ≤ 155) (h3 : ∀ c ∈ name, c ≠ 0) (h4 : ∀ c ∈ pre, c ≠ 0) : decH (blkA h name ++ s ++ blkZ h pre) = ⟨if pre = [] then name else pre ++ [47] ++ name, h.mode, h.uid, h.gid, h.size, h.time, h.type, h.link⟩ := by
 have l1 := fillT_length h1
 have l2 := fillT_length h2
 have l3 := fillT_length hf.link.1
 have o7 := octD_length 7
 have o11 := octD_length 11
 have hm : magicB.length = 8 := rfl
 have p7 : (8 : Int) ^ 7 = 2097152 := rfl
 have p11 : (8 : Int) ^ 11 = 8589934592 := rfl
 have c1 : textF (blkA h name ++ s ++ blkZ h pre) 0 100 = name := by
  unfold textF blkA
  have e : ((fillT name 100 ++ octD 7 h.mode ++ [0] ++ octD 7 h.uid ++ [0] ++ octD 7 h.gid ++ [0] ++ octD 11 h.size ++ [0] ++ octD 11 h.time ++ [0] ++ s ++ blkZ h pre).drop 0).take 100 = fillT name 100 := by
   simp only [List.append_assoc]
   exact dt_mid (a := []) (by simp) l1.symm
  rw [e, aheadOf_fill h3]
 have c2 : numF 0 (((blkA h name ++ s ++ blkZ h pre).drop 100).take 7) = h.mode := by
  have e : ((blkA h name ++ s ++ blkZ h pre).drop 100).take 7 = octD 7 h.mode := by
   unfold blkA
   simp only [List.append_assoc]
   exact dt_mid (a := fillT name 100) (by simp [l1]) (o7 _).symm
  rw [e, numF_oct 7 _ hf.mode.1 (by rw [p7]; exact hf.mode.2)]
 have c3 : numF 0 (((blkA h name ++ s ++ blkZ h pre).drop 108).take 7) = h.uid := by
  have e : ((blkA h name ++ s ++ blkZ h pre).drop 108).take 7 = octD 7 h.uid := by
   unfold blkA
   have := dt_mid (a := fillT name 100 ++ octD 7 h.mode ++ [0]) (x := octD 7 h.uid) (c := [0] ++ octD 7 h.gid ++ [0] ++ octD 11 h.size ++ [0] ++ octD 11 h.time ++ [0] ++ s ++ blkZ h pre) (i := 108) (n := 7) (by simp [l1, o7]) (o7 _).symm
   simpa only [List.append_assoc] using this
  rw [e, numF_oct 7 _ hf.uid.1 (by rw [p7]; exact hf.uid.2)]
 have c4 : numF 0 (((blkA h name ++ s ++ blkZ h pre).drop 116).take 7) = h.gid := by
  have e : ((blkA h name ++ s ++ blkZ h pre).drop 116).take 7 = octD 7 h.gid := by
   unfold blkA
   have := dt_mid (a := fillT name 100 ++ octD 7 h.mode ++ [0] ++ octD 7 h.uid ++ [0]) (x := octD 7 h.gid) (c := [0] ++ octD 11 h.size ++ [0] ++ octD 11 h.time ++ [0] ++ s ++ blkZ h pre) (i := 116) (n := 7) (by simp [l1, o7]) (o7 _).symm
   simpa only [List.append_assoc] using this
  rw [e, numF_oct 7 _ hf.gid.1 (by rw [p7]; exact hf.gid.2)]
 have c5 : numF 0 (((blkA h name ++ s ++ blkZ h pre).drop 124).take 11) = h.size := by
  have e : ((blkA h name ++ s ++ blkZ h pre).drop 124).take 11 = octD 11 h.size := by
   unfold blkA
   have := dt_mid (a := fillT name 100 ++ octD 7 h.mode ++ [0] ++ octD 7 h.uid ++ [0] ++ octD 7 h.gid ++ [0]) (x := octD 11 h.size) (c := [0] ++ octD 11 h.time ++ [0] ++ s ++ blkZ h pre) (i := 124) (n := 11) (by simp [l1, o7]) (o11 _).symm
   simpa only [List.append_assoc] using this
  rw [e, numF_oct 11 _ hf.size.1 (by rw [p11]; exact hf.size.2)]
 have c6 : numF 0 (((blkA h name ++ s ++ blkZ h pre).drop 136).take 11) = h.time := by
  have e : ((blkA h name ++ s ++ blkZ h pre).drop 136).take 11 = octD 11 h.time := by
   unfold blkA
   have := dt_mid (a := fillT name 100 ++ octD 7 h.mode ++ [0] ++ octD 7 h.uid ++ [0] ++ octD 7 h.gid ++ [0] ++ octD 11 h.size ++ [0]) (x := octD 11 h.time) (c := [0] ++ s ++ blkZ h pre) (i := 136) (n := 11) (by simp [l1, o7, o11]) (o11 _).symm
   simpa only [List.append_assoc] using this
  rw [e, numF_oct 11 _ hf.time.1 (by rw [p11]; exact hf.time.2)]
 have hA : (blkA h name ++ s).length = 156 := by simp [blkA_length h1, hs]
 have c7 : (blkA h name ++ s ++ blkZ h pre).getD 156 0 = h.type := by
  rw [List.getD, List.getElem?_append_right (by omega), hA]
  rfl
 have c8 : textF (blkA h name ++ s ++ blkZ h pre) 157 100 = h.link := by
  have e : ((blkA h name ++ s ++ blkZ h pre).drop 157).take 100 = fillT h.link 100 := by
   have := dt_mid (a := blkA h name ++ s ++ [h.type]) (x := fillT h.link 100) (c := magicB ++ zs 64 ++ octD 7 0 ++ [0] ++ octD 7 0 ++ [0] ++ fillT pre 155 ++ zs 12) (i := 157) (n := 100) (by rw [List.length_append, hA]; rfl) l3.symm
   unfold blkZ
   simpa only [List.append_assoc] using this
  unfold textF
  rw [e, aheadOf_fill (ascii_ne hf.link.2)]
 have c9 : textF (blkA h name ++ s ++ blkZ h pre) 345 155 = pre := by
  have e : ((blkA h name ++ s ++ blkZ h pre).drop 345).take 155 = fillT pre 155 := by
   have := dt_mid (a := blkA h name ++ s ++ ([h.type] ++ fillT h.link 100 ++ magicB ++ zs 64 ++ octD 7 0 ++ [0] ++ octD 7 0 ++ [0])) (x := fillT pre 155) (c := zs 12) (i := 345) (n := 155) (by rw [List.length_append, hA]; simp [l3, hm, o7]) l2.symm
   unfold blkZ
   simpa only [List.append_assoc] using this
  unfold textF
  rw [e, aheadOf_fill h4]
 unfold decH
 rw [c1, c2, c3, c4, c5, c6, c7, c8, c9]
theorem encOk_parts {h : Hd} (hok : encOk h = true) : (splitN h.path).2.2 = true ∧ FitsH h := by
 unfold encOk at hok
 simp only [Bool.and_eq_true] at hok
 exact ⟨hok.1, fitsH_of hok.2⟩
theorem decH_encB {h : Hd} (hok : encOk h = true) : decH (encB h) = h := by
 obtain ⟨k1, hf⟩ := encOk_parts hok
 obtain ⟨ha, s1, s2, s3, s4⟩ := splitN_ok k1
 rw [encB_blk s2 s1 hf.link.1]
 have ne := ascii_ne ha
 have n1 : ∀ c ∈ (splitN h.path).2.1, c ≠ 0 := by
  intro c hc
  rcases s4 with ⟨_, e⟩ | ⟨_, e⟩
  ·exact ne c (by rw [← e]; exact hc)
  ·exact ne c (by rw [e]; simp [hc])
 have n2 : ∀ c ∈ (splitN h.path).1, c ≠ 0 := by
  intro c hc
  rcases s4 with ⟨e, _⟩ | ⟨_, e⟩
  ·rw [e] at hc; cases hc
  ·exact ne c (by rw [e]; simp [hc])
 unfold blk
 rw [decH_blk _ (by simp [sumD, octD_length]) hf s2 s1 n1 n2]
 rcases s4 with ⟨e1, e2⟩ | ⟨e1, e2⟩
 ·rw [if_pos e1, e2]
 ·rw [if_neg e1, ← e2]
theorem decOk_encB {h : Hd} (hok : encOk h = true) : decOk (encB h) = true := by
 unfold decOk
 rw [decH_encB hok, hok]
 simp
end Go.Abs
namespace Go.Abs
open Am
set_option maxRecDepth 10000
def entCs (e : Ent) (d : AVal) : List AVal := [.str e.path, .int .i64 e.kind, .int .i64 e.mode, .int .i64 e.uid, .int .i64 e.gid, .int .i64 e.time, .str e.link, d]
attribute [go_sem] entCs
theorem numErr_eq : numErr = .iface 227 .junk := rfl
theorem s144_3o (e : Ent) (s : List UInt8) (n : Nat) (ds : List AVal) (hs : s.length ≤ 1000000) : callT AA 144 [.ptr 0 3, .str s] [(0, .var (entCs e (.own 1 1 0 n false))), (1, .row ds 1)] = some (.bool (atoiOk s), [(0, .var (entCs { e with uid := atoiV s } (.own 1 1 0 n false))), (1, .row ds 1)]) := by
 have h := call118 (s := s) (by omega)
 rw [numErr_eq] at h
 generalize atoiV s = N at *
 refine enter fn144 np144 rfl ?_
 cases c : atoiOk s with
 | true =>
  rw [c] at h
  have gg:=trivial;repeat' first|simp (maxSteps:=2000000) (disch:=omega) only [gg,b144,h,go_sem]|(refine br ?_ ?_<;>intro gg<;>try omega)|(apply And.intro;focus omega)|omega
 | false =>
  rw [c] at h
  have gg:=trivial;repeat' first|simp (maxSteps:=2000000) (disch:=omega) only [gg,b144,h,Bool.false_eq_true,go_sem]|(refine br ?_ ?_<;>intro gg<;>try omega)|(apply And.intro;focus omega)|omega
theorem s144_4o (e : Ent) (s : List UInt8) (n : Nat) (ds : List AVal) (hs : s.length ≤ 1000000) : callT AA 144 [.ptr 0 4, .str s] [(0, .var (entCs e (.own 1 1 0 n false))), (1, .row ds 1)] = some (.bool (atoiOk s), [(0, .var (entCs { e with gid := atoiV s } (.own 1 1 0 n false))), (1, .row ds 1)]) := by
 have h := call118 (s := s) (by omega)
 rw [numErr_eq] at h
 generalize atoiV s = N at *
 refine enter fn144 np144 rfl ?_
 cases c : atoiOk s with
 | true =>
  rw [c] at h
  have gg:=trivial;repeat' first|simp (maxSteps:=2000000) (disch:=omega) only [gg,b144,h,go_sem]|(refine br ?_ ?_<;>intro gg<;>try omega)|(apply And.intro;focus omega)|omega
 | false =>
  rw [c] at h
  have gg:=trivial;repeat' first|simp (maxSteps:=2000000) (disch:=omega) only [gg,b144,h,Bool.false_eq_true,go_sem]|(refine br ?_ ?_<;>intro gg<;>try omega)|(apply And.intro;focus omega)|omega
theorem s144_5o (e : Ent) (s : List UInt8) (n : Nat) (ds : List AVal) (hs : s.length ≤ 1000000) : callT AA 144 [.ptr 0 5, .str s] [(0, .var (entCs e (.own 1 1 0 n false))), (1, .row ds 1)] = some (.bool (atoiOk s), [(0, .var (entCs { e with time := atoiV s } (.own 1 1 0 n false))), (1, .row ds 1)]) := by
 have h := call118 (s := s) (by omega)
 rw [numErr_eq] at h
 generalize atoiV s = N at *
 refine enter fn144 np144 rfl ?_
 cases c : atoiOk s with
 | true =>
  rw [c] at h
  have gg:=trivial;repeat' first|simp (maxSteps:=2000000) (disch:=omega) only [gg,b144,h,go_sem]|(refine br ?_ ?_<;>intro gg<;>try omega)|(apply And.intro;focus omega)|omega
 | false =>
  rw [c] at h
  have gg:=trivial;repeat' first|simp (maxSteps:=2000000) (disch:=omega) only [gg,b144,h,Bool.false_eq_true,go_sem]|(refine br ?_ ?_<;>intro gg<;>try omega)|(apply And.intro;focus omega)|omega
end Go.Abs
namespace Go.Abs
open Am
set_option maxRecDepth 10000
def tellE (e : Ent) (r : Rcd) : Ent × Bool :=
 if r.key = [103, 105, 100] then ({ e with gid := atoiV r.value }, atoiOk r.value) else
 if r.key = [108, 105, 110, 107, 112, 97, 116, 104] then ({ e with link := r.value }, true) else
 if r.key = [109, 116, 105, 109, 101] then ({ e with time := atoiV r.value }, atoiOk r.value) else
 if r.key = [112, 97, 116, 104] then ({ e with path := r.value }, true) else
 if r.key = [117, 105, 100] then ({ e with uid := atoiV r.value }, atoiOk r.value) else (e, false)
def toldE (e : Ent) : List Rcd → Ent × Bool
 | [] => (e, true)
 | r :: rs => if (tellE e r).2 = true then toldE (tellE e r).1 rs else ((tellE e r).1, false)
set_option maxHeartbeats 4000000 in
theorem h103o (c t : Bool) (rs : List Rcd) (hs : rs.length ≤ 1000000) (hb : ∀ r ∈ rs, RcdOk r) (q : Nat) (ds : List AVal) (r0 : Ent × Bool) : ∀ (rest done : List Rcd) (e : Ent) (n i : Int), rs = done ++ rest → i = done.length → n = rs.length → r0 = toldE e rest →
  HD AA 2 [0, 4, 5, 9, 10, 11] l103_0 ⟨[.ptr 0 0, .junk, .junk, .junk, .bool false, .func (.func 144) [], .junk, .junk, .junk, .view 2 (rs.map Rcd.av) c t, .int .i64 n, .int .i64 i, .junk, .junk, .junk, .junk, .junk, .junk, .junk, .junk, .junk, .junk, .junk, .junk, .junk, .junk, .junk, .junk, .junk, .junk, .junk, .junk, .junk, .junk, .junk, .junk, .junk, .junk, .junk, .junk, .junk, .junk, .junk, .junk, .junk, .junk, .junk, .junk, .junk, .junk, .junk, .junk, .junk, .junk, .junk, .junk, .junk, .junk, .junk, .junk, .junk], [(0, .var (entCs e (.own 1 1 0 q false))), (1, .row ds 1)], 4⟩ [.blk 0, .code r103_0] (Fin [(4, none)] 2 (.bool r0.2) [(0, .var (entCs r0.1 (.own 1 1 0 q false))), (1, .row ds 1)])
 | [], done, e, n, i, h1, h2, h3, h4 => by
  subst h1
  simp at h3
  refine hd_of (by unfold l103_0; rfl) ?_
  simp only [toldE] at h4
  rw [h4]
  have gg:=trivial;repeat' first|simp (maxSteps:=2000000) (disch:=omega) only [gg,r103_0,go_sem]|(refine br ?_ ?_<;>intro gg<;>try omega)|(apply And.intro;focus omega)|omega
 | r :: rest, done, e, n, i, h1, h2, h3, h4 => by
  have hg0 : rs[i.toNat]? = some r := by
   rw [h1]
   simp [h2]
  have hl : i.toNat < rs.length := by rw [h1]; simp; omega
  obtain ⟨hk, hv⟩ := hb r (by simp [h1])
  have c3 := s144_3o e r.value q ds hv
  have c4 := s144_4o e r.value q ds hv
  have c5 := s144_5o e r.value q ds hv
  simp only [entCs] at c3 c4 c5
  unfold toldE at h4
  have ih := h103o c t rs hs hb q ds r0 rest (done ++ [r]) (tellE e r).1 n (i + 1) (by simp [h1]) (by first | omega | (simp; omega) | (simp; done)) h3
  refine hd_of (by unfold l103_0; rfl) ?_
  unfold tellE at h4 ih
  by_cases k0 : r.key = [103, 105, 100]
  ·simp only [if_pos k0] at h4 ih
   cases hok : atoiOk r.value with
   | true =>
    rw [hok, if_pos rfl] at h4
    rw [hok] at c4
    have ih := ih h4
    simp only [entCs] at ih
    have gg:=trivial;repeat' first|simp (maxSteps:=2000000) (disch:=omega) only [gg,hg0,decide_eq_true k0,c4,lp_head,go_sem]|(refine br ?_ ?_<;>intro gg<;>try omega)|(apply And.intro;focus omega)|omega
    all_goals first | exact ih | skip
   | false =>
    rw [hok, if_neg (by simp)] at h4
    rw [hok] at c4
    rw [h4]
    have gg:=trivial;repeat' first|simp (maxSteps:=2000000) (disch:=omega) only [gg,hg0,decide_eq_true k0,c4,lp_head,go_sem]|(refine br ?_ ?_<;>intro gg<;>try omega)|(apply And.intro;focus omega)|omega
    all_goals first | rfl | skip
  by_cases k1 : r.key = [108, 105, 110, 107, 112, 97, 116, 104]
  ·simp only [if_neg k0, if_pos k1, if_true] at h4 ih
   have ih := ih h4
   simp only [entCs] at ih
   have gg:=trivial;repeat' first|simp (maxSteps:=2000000) (disch:=omega) only [gg,hg0,decide_eq_false k0,decide_eq_true k1,lp_head,go_sem]|(refine br ?_ ?_<;>intro gg<;>try omega)|(apply And.intro;focus omega)|omega
   all_goals first | exact ih | skip
  by_cases k2 : r.key = [109, 116, 105, 109, 101]
  ·simp only [if_neg k0, if_neg k1, if_pos k2] at h4 ih
   cases hok : atoiOk r.value with
   | true =>
    rw [hok, if_pos rfl] at h4
    rw [hok] at c5
    have ih := ih h4
    simp only [entCs] at ih
    have gg:=trivial;repeat' first|simp (maxSteps:=2000000) (disch:=omega) only [gg,hg0,decide_eq_false k0,decide_eq_false k1,decide_eq_true k2,c5,lp_head,go_sem]|(refine br ?_ ?_<;>intro gg<;>try omega)|(apply And.intro;focus omega)|omega
    all_goals first | exact ih | skip
   | false =>
    rw [hok, if_neg (by simp)] at h4
    rw [hok] at c5
    rw [h4]
    have gg:=trivial;repeat' first|simp (maxSteps:=2000000) (disch:=omega) only [gg,hg0,decide_eq_false k0,decide_eq_false k1,decide_eq_true k2,c5,lp_head,go_sem]|(refine br ?_ ?_<;>intro gg<;>try omega)|(apply And.intro;focus omega)|omega
    all_goals first | rfl | skip
  by_cases k3 : r.key = [112, 97, 116, 104]
  ·simp only [if_neg k0, if_neg k1, if_neg k2, if_pos k3, if_true] at h4 ih
   have ih := ih h4
   simp only [entCs] at ih
   have gg:=trivial;repeat' first|simp (maxSteps:=2000000) (disch:=omega) only [gg,hg0,decide_eq_false k0,decide_eq_false k1,decide_eq_false k2,decide_eq_true k3,lp_head,go_sem]|(refine br ?_ ?_<;>intro gg<;>try omega)|(apply And.intro;focus omega)|omega
   all_goals first | exact ih | skip
  by_cases k4 : r.key = [117, 105, 100]
  ·simp only [if_neg k0, if_neg k1, if_neg k2, if_neg k3, if_pos k4] at h4 ih
   cases hok : atoiOk r.value with
   | true =>
    rw [hok, if_pos rfl] at h4
    rw [hok] at c3
    have ih := ih h4
    simp only [entCs] at ih
    have gg:=trivial;repeat' first|simp (maxSteps:=2000000) (disch:=omega) only [gg,hg0,decide_eq_false k0,decide_eq_false k1,decide_eq_false k2,decide_eq_false k3,decide_eq_true k4,c3,lp_head,go_sem]|(refine br ?_ ?_<;>intro gg<;>try omega)|(apply And.intro;focus omega)|omega
    all_goals first | exact ih | skip
   | false =>
    rw [hok, if_neg (by simp)] at h4
    rw [hok] at c3
    rw [h4]
    have gg:=trivial;repeat' first|simp (maxSteps:=2000000) (disch:=omega) only [gg,hg0,decide_eq_false k0,decide_eq_false k1,decide_eq_false k2,decide_eq_false k3,decide_eq_true k4,c3,lp_head,go_sem]|(refine br ?_ ?_<;>intro gg<;>try omega)|(apply And.intro;focus omega)|omega
    all_goals first | rfl | skip
  simp only [if_neg k0, if_neg k1, if_neg k2, if_neg k3, if_neg k4, Bool.false_eq_true, if_false] at h4
  rw [h4]
  have gg:=trivial;repeat' first|simp (maxSteps:=2000000) (disch:=omega) only [gg,hg0,decide_eq_false k0,decide_eq_false k1,decide_eq_false k2,decide_eq_false k3,decide_eq_false k4,lp_head,go_sem]|(refine br ?_ ?_<;>intro gg<;>try omega)|(apply And.intro;focus omega)|omega
  all_goals first | rfl | skip
end Go.Abs
namespace Go.Abs
open Am
set_option maxRecDepth 10000
theorem s103o (c t : Bool) (rs : List Rcd) (hs : rs.length ≤ 1000000) (hb : ∀ r ∈ rs, RcdOk r) (q : Nat) (ds : List AVal) (e : Ent) : callT AA 103 [.ptr 0 0, .view 2 (rs.map Rcd.av) c t] [(0, .var (entCs e (.own 1 1 0 q false))), (1, .row ds 1)] = some (.bool (toldE e rs).2, [(0, .var (entCs (toldE e rs).1 (.own 1 1 0 q false))), (1, .row ds 1)]) := by
 have hh := h103o c t rs hs hb q ds (toldE e rs) rs [] e rs.length 0 rfl rfl rfl rfl
 simp only [entCs] at hh
 refine enter fn103 np103 rfl ?_
 have gg:=trivial;repeat' first|simp (maxSteps:=2000000) (disch:=omega) only [gg,b103,lp_head,go_sem]|(refine br ?_ ?_<;>intro gg<;>try omega)|(apply And.intro;focus omega)|omega
 all_goals first | exact hh | skip
theorem s103on (q : Nat) (ds : List AVal) (e : Ent) : callT AA 103 [.ptr 0 0, .lit (.slice none 0 0)] [(0, .var (entCs e (.own 1 1 0 q false))), (1, .row ds 1)] = some (.bool true, [(0, .var (entCs e (.own 1 1 0 q false))), (1, .row ds 1)]) := by
 refine enter fn103 np103 rfl ?_
 have gg:=trivial;repeat' first|simp (maxSteps:=2000000) (disch:=omega) only [gg,b103,lp_head,go_sem]|(refine br ?_ ?_<;>intro gg<;>try omega)|(apply And.intro;focus omega)|omega
 refine hd_of (by unfold l103_0; rfl) ?_
 have gg:=trivial;repeat' first|simp (maxSteps:=2000000) (disch:=omega) only [gg,r103_0,go_sem]|(refine br ?_ ?_<;>intro gg<;>try omega)|(apply And.intro;focus omega)|omega
end Go.Abs
namespace Go.Abs
open Am
set_option maxRecDepth 10000
def rdH (b : BS) : Hd × BS × Bool :=
 if b.l.length < 512 ∨ decOk (b.sl 0 512).l = false then (hd0, .nil, false) else
 if wholeN (decH (b.sl 0 512).l).size ≤ (b.sl 512 b.l.length).l.length then (decH (b.sl 0 512).l, (b.sl 512 b.l.length).sl 0 (decH (b.sl 0 512).l).size.toNat, true)
 else (decH (b.sl 0 512).l, .nil, false)
theorem hdrV_eq (b : BS) : hdrV b = .tuple [(rdH b).1.av, (rdH b).2.1.av, .bool (rdH b).2.2] := by
 unfold hdrV rdH
 split
 ·rfl
 ·split <;> rfl
theorem s100r (b : BS) (hb : b.l.length ≤ 1000000000) : callT AA 100 [.ptr 0 0] [(0, .var [b.av])] = some (.tuple [(rdH b).1.av, (rdH b).2.1.av, .bool (rdH b).2.2], [(0, .var [(hdrR b).av])]) := by
 rw [← hdrV_eq]
 exact s100 b hb
theorem hdrR_le (b : BS) : (hdrR b).l.length ≤ b.l.length := by
 have h : ∀ (a : BS) (i j : Nat), (a.sl i j).l.length ≤ a.l.length := by
  intro a i j
  rw [BS.sl_l, List.length_take, List.length_drop]
  omega
 unfold hdrR
 repeat' split
 ·exact Nat.le_refl _
 ·exact h _ _ _
 ·exact Nat.le_trans (h _ _ _) (h _ _ _)
 ·exact h _ _ _
theorem rdH_le (b : BS) : (rdH b).2.1.l.length ≤ b.l.length := by
 have h : ∀ (a : BS) (i j : Nat), (a.sl i j).l.length ≤ a.l.length := by
  intro a i j
  rw [BS.sl_l, List.length_take, List.length_drop]
  omega
 unfold rdH
 repeat' split
 ·exact Nat.zero_le _
 ·exact Nat.le_trans (h _ _ _) (h _ _ _)
 ·exact Nat.zero_le _
def kindB (t : UInt8) : Int := if t = 49 then 4 else if t = 50 then 3 else if t = 48 then 2 else if t = 53 then 1 else 0
theorem s101b (b : BS) (hl : b.l.length ≤ 1000000000) : callT AA 101 [b.av] [] = some (match b with | .nil => (.lit (.slice none 0 0), []) | .mk _ _ l => (.own 0 1 0 l.length false, [(0, .row (l.map .byte) 1)])) := by
 cases b with
 | nil => exact s101n
 | mk c t l => exact s101 c t l (by simp only [BS.l] at hl; omega)
theorem fits_type {h : Hd} (hf : fitsB h = true) : h.type = 48 ∨ h.type = 49 ∨ h.type = 50 ∨ h.type = 53 ∨ h.type = 120 := by
 unfold fitsB at hf
 simp only [Bool.and_eq_true] at hf
 have h := hf.2
 split at h
 ·rename_i hc
  rcases hc with hc | hc
  ·exact .inr (.inl hc)
  ·exact .inr (.inr (.inl hc))
 ·split at h
  ·rename_i hc
   exact .inr (.inr (.inr (.inl hc)))
  ·split at h
   ·rename_i hc
    rcases hc with hc | hc
    ·exact .inl hc
    ·exact .inr (.inr (.inr (.inr hc)))
   ·cases h
theorem rdH_type {b : BS} (h : (rdH b).2.2 = true) : (rdH b).1.type = 48 ∨ (rdH b).1.type = 49 ∨ (rdH b).1.type = 50 ∨ (rdH b).1.type = 53 ∨ (rdH b).1.type = 120 := by
 unfold rdH at h ⊢
 by_cases c1 : b.l.length < 512 ∨ decOk (b.sl 0 512).l = false
 ·rw [if_pos c1] at h
  cases h
 ·rw [if_neg c1] at h ⊢
  have hd : decOk (b.sl 0 512).l = true := by
   cases hd : decOk (b.sl 0 512).l with
   | true => rfl
   | false => exact (c1 (.inr hd)).elim
  have hf : fitsB (decH (b.sl 0 512).l) = true := by
   unfold decOk encOk at hd
   simp only [Bool.and_eq_true] at hd
   exact hd.1.2
  by_cases c2 : wholeN (decH (b.sl 0 512).l).size ≤ (b.sl 512 b.l.length).l.length
  ·rw [if_pos c2]
   exact fits_type hf
  ·rw [if_neg c2] at h
   cases h
theorem type_kind {b : BS} (h : (rdH b).2.2 = true) : (((rdH b).1.type.toNat : Int) = 48 ∧ kindB (rdH b).1.type = 2) ∨ (((rdH b).1.type.toNat : Int) = 49 ∧ kindB (rdH b).1.type = 4) ∨ (((rdH b).1.type.toNat : Int) = 50 ∧ kindB (rdH b).1.type = 3) ∨ (((rdH b).1.type.toNat : Int) = 53 ∧ kindB (rdH b).1.type = 1) ∨ (((rdH b).1.type.toNat : Int) = 120 ∧ kindB (rdH b).1.type = 0) := by
 rcases rdH_type h with h | h | h | h | h <;> rw [h]
 ·exact .inl ⟨rfl, rfl⟩
 ·exact .inr (.inl ⟨rfl, rfl⟩)
 ·exact .inr (.inr (.inl ⟨rfl, rfl⟩))
 ·exact .inr (.inr (.inr (.inl ⟨rfl, rfl⟩)))
 ·exact .inr (.inr (.inr (.inr ⟨rfl, rfl⟩)))
def mkE (h : Hd) : Ent := ⟨h.path, kindB h.type, h.mode, h.uid, h.gid, h.time, h.link, .nil⟩
end Go.Abs
namespace Go.Abs
open Am
set_option maxRecDepth 10000
theorem s61no (b : BS) (hb : b.l.length ≤ 1000000000) (h : (rdH b).2.2 = false) : callT AA 61 [.ptr 0 0] [(0, .var [b.av])] = some (.tuple [.agg (entCs ⟨[], 0, 0, 0, 0, 0, [], .nil⟩ (.lit (.slice none 0 0))), .bool false], [(0, .var [(hdrR b).av])]) := by
 have h1 := s100r b hb
 rw [h] at h1
 simp only [Hd.av] at h1
 refine enter fn61 np61 rfl ?_
 have gg:=trivial;repeat' first|simp (maxSteps:=2000000) (disch:=omega) only [gg,b61,h1,go_sem]|(refine br ?_ ?_<;>intro gg<;>try omega)|(apply And.intro;focus omega)|omega
set_option maxHeartbeats 40000000 in
theorem s61p (b : BS) (hb : b.l.length ≤ 1000000000) (h : (rdH b).2.2 = true) (c t : Bool) (l : List UInt8) (hbd : (rdH b).2.1 = .mk c t l) (hl : l.length ≤ 1000000000) (hx : (rdH b).1.type ≠ 120) :
  callT AA 61 [.ptr 0 0] [(0, .var [b.av])] = some (.tuple [.agg (entCs (mkE (rdH b).1) (.own 1 1 0 l.length false)), .bool true], [(0, .var [(hdrR b).av]), (1, .row (l.map .byte) 1)]) := by
 have h1 := s100r b hb
 have k1 := s102 1
 have k2 := s102 2
 have k3 := s102 3
 have k4 := s102 4
 have hc := s101 c t l (by omega)
 have e1 : ((typeB 1).toNat : Int) = 53 := rfl
 have e2 : ((typeB 2).toNat : Int) = 48 := rfl
 have e3 : ((typeB 3).toNat : Int) = 50 := rfl
 have e4 : ((typeB 4).toNat : Int) = 49 := rfl
 rw [e1] at k1
 rw [e2] at k2
 rw [e3] at k3
 rw [e4] at k4
 have hty := type_kind h
 have hx' : ¬ ((rdH b).1.type.toNat : Int) = 120 := by
  intro hh
  rcases rdH_type h with h0 | h0 | h0 | h0 | h0
  all_goals rw [h0] at hh hx
  all_goals first | exact hx rfl | (simp at hh)
 rw [h, hbd] at h1
 simp only [Hd.av, mk_av] at h1 hc
 unfold mkE
 generalize (rdH b).1 = H at *
 have ht := fun k => s103on l.length (l.map .byte) ⟨H.path, k, H.mode, H.uid, H.gid, H.time, H.link, .nil⟩
 simp only [entCs] at ht
 rcases hty with ⟨hT, hK⟩ | ⟨hT, hK⟩ | ⟨hT, hK⟩ | ⟨hT, hK⟩ | ⟨hT, hK⟩
 any_goals (exfalso; omega)
 all_goals rw [hT] at h1
 all_goals rw [hK]
 all_goals clear hT hK hx'
 all_goals refine enter fn61 np61 rfl ?_
 all_goals (have gg:=trivial;repeat' first|simp (maxSteps:=2000000) (disch:=omega) only [gg,b61,h1,hc,lp_head,go_sem]|(refine br ?_ ?_<;>intro gg<;>try omega)|(apply And.intro;focus omega)|omega)
 all_goals refine hd_of (by unfold l61_0; rfl) ?_
 all_goals (have gg:=trivial;repeat' first|simp (maxSteps:=2000000) (disch:=omega) only [gg,k1,lp_head,Int.reduceAdd,go_sem]|(refine br ?_ ?_<;>intro gg<;>try omega)|(apply And.intro;focus omega)|omega)
 all_goals refine hd_of (by unfold l61_0; rfl) ?_
 all_goals (have gg:=trivial;repeat' first|simp (maxSteps:=2000000) (disch:=omega) only [gg,k2,lp_head,Int.reduceAdd,go_sem]|(refine br ?_ ?_<;>intro gg<;>try omega)|(apply And.intro;focus omega)|omega)
 all_goals refine hd_of (by unfold l61_0; rfl) ?_
 all_goals (have gg:=trivial;repeat' first|simp (maxSteps:=2000000) (disch:=omega) only [gg,k3,lp_head,Int.reduceAdd,go_sem]|(refine br ?_ ?_<;>intro gg<;>try omega)|(apply And.intro;focus omega)|omega)
 all_goals refine hd_of (by unfold l61_0; rfl) ?_
 all_goals (have gg:=trivial;repeat' first|simp (maxSteps:=2000000) (disch:=omega) only [gg,k4,lp_head,Int.reduceAdd,go_sem]|(refine br ?_ ?_<;>intro gg<;>try omega)|(apply And.intro;focus omega)|omega)
 all_goals refine hd_of (by unfold l61_0; rfl) ?_
 all_goals (have gg:=trivial;repeat' first|simp (maxSteps:=2000000) (disch:=omega) only [gg,r61_0,ht,entCs,go_sem]|(refine br ?_ ?_<;>intro gg<;>try omega)|(apply And.intro;focus omega)|omega)
end Go.Abs
namespace Go.Abs
open Am
set_option maxRecDepth 10000
theorem s61x (b : BS) (hb : b.l.length ≤ 1000000) (h : (rdH b).2.2 = true) (hty : (rdH b).1.type = 120) (hd : paxD (rdH b).2.1.l = none) : callT AA 61 [.ptr 0 0] [(0, .var [b.av])] = some (.tuple [.agg (entCs ⟨[], 0, 0, 0, 0, 0, [], .nil⟩ (.lit (.slice none 0 0))), .bool false], [(0, .var [(hdrR b).av])]) := by
 have h1 := s100r b (by omega)
 have h2 := s35 (rdH b).2.1 (Nat.le_trans (rdH_le b) hb)
 have hT : ((rdH b).1.type.toNat : Int) = 120 := by rw [hty]; rfl
 rw [hd] at h2
 simp only [pdV, pdH] at h2
 rw [h] at h1
 simp only [Hd.av] at h1
 rw [hT] at h1
 refine enter fn61 np61 rfl ?_
 have gg:=trivial;repeat' first|simp (maxSteps:=2000000) (disch:=omega) only [gg,b61,h1,h2,go_sem]|(refine br ?_ ?_<;>intro gg<;>try omega)|(apply And.intro;focus omega)|omega
theorem s61xf (b : BS) (hb : b.l.length ≤ 1000000) (h : (rdH b).2.2 = true) (hty : (rdH b).1.type = 120) (rs : List Rcd) (hd : paxD (rdH b).2.1.l = some rs) (h' : (rdH (hdrR b)).2.2 = false) : callT AA 61 [.ptr 0 0] [(0, .var [b.av])] = some (.tuple [.agg (entCs ⟨[], 0, 0, 0, 0, 0, [], .nil⟩ (.lit (.slice none 0 0))), .bool false], [(0, .var [(hdrR (hdrR b)).av])]) := by
 have h1 := s100r b (by omega)
 have h3 := s100r (hdrR b) (by have := hdrR_le b; omega)
 have h2 := s35 (rdH b).2.1 (Nat.le_trans (rdH_le b) hb)
 have hT : ((rdH b).1.type.toNat : Int) = 120 := by rw [hty]; rfl
 rw [hd] at h2
 rw [h] at h1
 rw [h'] at h3
 simp only [Hd.av] at h1 h3
 rw [hT] at h1
 refine enter fn61 np61 rfl ?_
 cases rs with
 | nil =>
  simp only [pdV, pdH] at h2
  have gg:=trivial;repeat' first|simp (maxSteps:=2000000) (disch:=omega) only [gg,b61,h1,h2,h3,go_sem]|(refine br ?_ ?_<;>intro gg<;>try omega)|(apply And.intro;focus omega)|omega
 | cons r rs =>
  simp only [pdV, pdH] at h2
  have gg:=trivial;repeat' first|simp (maxSteps:=2000000) (disch:=omega) only [gg,b61,h1,h2,h3,go_sem]|(refine br ?_ ?_<;>intro gg<;>try omega)|(apply And.intro;focus omega)|omega
end Go.Abs
namespace Go.Abs
open Am
set_option maxRecDepth 10000
set_option maxHeartbeats 40000000 in
theorem s61x1 (b : BS) (hb : b.l.length ≤ 1000000) (h : (rdH b).2.2 = true) (hx : (rdH b).1.type = 120) (r : Rcd) (rs : List Rcd) (hd : paxD (rdH b).2.1.l = some (r :: rs)) (h' : (rdH (hdrR b)).2.2 = true) (c t : Bool) (l : List UInt8) (hbd : (rdH (hdrR b)).2.1 = .mk c t l) (hl : l.length ≤ 1000000000) (hrs : ∀ x ∈ r :: rs, RcdOk x) (hrl : (r :: rs).length ≤ 1000000) :
  callT AA 61 [.ptr 0 0] [(0, .var [b.av])] = some (.tuple [.agg (entCs (toldE (mkE (rdH (hdrR b)).1) (r :: rs)).1 (.own 1 1 0 l.length false)), .bool (toldE (mkE (rdH (hdrR b)).1) (r :: rs)).2], [(0, .var [(hdrR (hdrR b)).av]), (1, .row (l.map .byte) 1)]) := by
 have h1 := s100r b (by omega)
 have h3 := s100r (hdrR b) (by have := hdrR_le b; omega)
 have h2 := s35 (rdH b).2.1 (Nat.le_trans (rdH_le b) hb)
 have k1 := s102 1
 have k2 := s102 2
 have k3 := s102 3
 have k4 := s102 4
 have hc := s101 c t l (by omega)
 have e1 : ((typeB 1).toNat : Int) = 53 := rfl
 have e2 : ((typeB 2).toNat : Int) = 48 := rfl
 have e3 : ((typeB 3).toNat : Int) = 50 := rfl
 have e4 : ((typeB 4).toNat : Int) = 49 := rfl
 rw [e1] at k1
 rw [e2] at k2
 rw [e3] at k3
 rw [e4] at k4
 rw [hd] at h2
 simp only [pdV, pdH] at h2
 rw [h] at h1
 have hty := type_kind h'
 rw [h', hbd] at h3
 simp only [Hd.av, mk_av] at h1 h3 hc
 have hTx : ((rdH b).1.type.toNat : Int) = 120 := by rw [hx]; rfl
 unfold mkE
 generalize (rdH (hdrR b)).1 = H at *
 rw [hTx] at h1
 clear hTx hx
 rcases hty with ⟨hT, hK⟩ | ⟨hT, hK⟩ | ⟨hT, hK⟩ | ⟨hT, hK⟩ | ⟨hT, hK⟩
 all_goals rw [hT] at h3
 all_goals rw [hK]
 all_goals clear hT hK
 all_goals have ht := fun cc tt k => s103o cc tt (r :: rs) hrl hrs l.length (l.map .byte) ⟨H.path, k, H.mode, H.uid, H.gid, H.time, H.link, .nil⟩
 all_goals generalize toldE = TE at *
 all_goals generalize r :: rs = L at *
 all_goals simp only [entCs] at ht
 all_goals refine enter fn61 np61 rfl ?_
 all_goals (have gg:=trivial;repeat' first|simp (maxSteps:=2000000) (disch:=omega) only [gg,b61,h1,h2,h3,hc,lp_head,go_sem]|(refine br ?_ ?_<;>intro gg<;>try omega)|(apply And.intro;focus omega)|omega)
 all_goals refine hd_of (by unfold l61_0; rfl) ?_
 all_goals (have gg:=trivial;repeat' first|simp (maxSteps:=2000000) (disch:=omega) only [gg,k1,lp_head,Int.reduceAdd,go_sem]|(refine br ?_ ?_<;>intro gg<;>try omega)|(apply And.intro;focus omega)|omega)
 all_goals refine hd_of (by unfold l61_0; rfl) ?_
 all_goals (have gg:=trivial;repeat' first|simp (maxSteps:=2000000) (disch:=omega) only [gg,k2,lp_head,Int.reduceAdd,go_sem]|(refine br ?_ ?_<;>intro gg<;>try omega)|(apply And.intro;focus omega)|omega)
 all_goals refine hd_of (by unfold l61_0; rfl) ?_
 all_goals (have gg:=trivial;repeat' first|simp (maxSteps:=2000000) (disch:=omega) only [gg,k3,lp_head,Int.reduceAdd,go_sem]|(refine br ?_ ?_<;>intro gg<;>try omega)|(apply And.intro;focus omega)|omega)
 all_goals refine hd_of (by unfold l61_0; rfl) ?_
 all_goals (have gg:=trivial;repeat' first|simp (maxSteps:=2000000) (disch:=omega) only [gg,k4,lp_head,Int.reduceAdd,go_sem]|(refine br ?_ ?_<;>intro gg<;>try omega)|(apply And.intro;focus omega)|omega)
 all_goals refine hd_of (by unfold l61_0; rfl) ?_
 all_goals (have gg:=trivial;repeat' first|simp (maxSteps:=2000000) (disch:=omega) only [gg,r61_0,ht,entCs,go_sem]|(refine br ?_ ?_<;>intro gg<;>try omega)|(apply And.intro;focus omega)|omega)
end Go.Abs
namespace Go.Abs
open Am
set_option maxRecDepth 10000
set_option maxHeartbeats 40000000 in
theorem s61y1 (b : BS) (hb : b.l.length ≤ 1000000) (h : (rdH b).2.2 = true) (hx : (rdH b).1.type = 120) (hd : paxD (rdH b).2.1.l = some []) (h' : (rdH (hdrR b)).2.2 = true) (c t : Bool) (l : List UInt8) (hbd : (rdH (hdrR b)).2.1 = .mk c t l) (hl : l.length ≤ 1000000000) :
  callT AA 61 [.ptr 0 0] [(0, .var [b.av])] = some (.tuple [.agg (entCs (mkE (rdH (hdrR b)).1) (.own 1 1 0 l.length false)), .bool true], [(0, .var [(hdrR (hdrR b)).av]), (1, .row (l.map .byte) 1)]) := by
 have h1 := s100r b (by omega)
 have h3 := s100r (hdrR b) (by have := hdrR_le b; omega)
 have h2 := s35 (rdH b).2.1 (Nat.le_trans (rdH_le b) hb)
 have k1 := s102 1
 have k2 := s102 2
 have k3 := s102 3
 have k4 := s102 4
 have hc := s101 c t l (by omega)
 have e1 : ((typeB 1).toNat : Int) = 53 := rfl
 have e2 : ((typeB 2).toNat : Int) = 48 := rfl
 have e3 : ((typeB 3).toNat : Int) = 50 := rfl
 have e4 : ((typeB 4).toNat : Int) = 49 := rfl
 rw [e1] at k1
 rw [e2] at k2
 rw [e3] at k3
 rw [e4] at k4
 rw [hd] at h2
 simp only [pdV, pdH] at h2
 rw [h] at h1
 have hty := type_kind h'
 rw [h', hbd] at h3
 simp only [Hd.av, mk_av] at h1 h3 hc
 have hTx : ((rdH b).1.type.toNat : Int) = 120 := by rw [hx]; rfl
 unfold mkE
 generalize (rdH (hdrR b)).1 = H at *
 rw [hTx] at h1
 clear hTx hx
 rcases hty with ⟨hT, hK⟩ | ⟨hT, hK⟩ | ⟨hT, hK⟩ | ⟨hT, hK⟩ | ⟨hT, hK⟩
 all_goals rw [hT] at h3
 all_goals rw [hK]
 all_goals clear hT hK
 all_goals have ht := fun k => s103on l.length (l.map .byte) ⟨H.path, k, H.mode, H.uid, H.gid, H.time, H.link, .nil⟩
 all_goals simp only [entCs] at ht
 all_goals refine enter fn61 np61 rfl ?_
 all_goals (have gg:=trivial;repeat' first|simp (maxSteps:=2000000) (disch:=omega) only [gg,b61,h1,h2,h3,hc,lp_head,go_sem]|(refine br ?_ ?_<;>intro gg<;>try omega)|(apply And.intro;focus omega)|omega)
 all_goals refine hd_of (by unfold l61_0; rfl) ?_
 all_goals (have gg:=trivial;repeat' first|simp (maxSteps:=2000000) (disch:=omega) only [gg,k1,lp_head,Int.reduceAdd,go_sem]|(refine br ?_ ?_<;>intro gg<;>try omega)|(apply And.intro;focus omega)|omega)
 all_goals refine hd_of (by unfold l61_0; rfl) ?_
 all_goals (have gg:=trivial;repeat' first|simp (maxSteps:=2000000) (disch:=omega) only [gg,k2,lp_head,Int.reduceAdd,go_sem]|(refine br ?_ ?_<;>intro gg<;>try omega)|(apply And.intro;focus omega)|omega)
 all_goals refine hd_of (by unfold l61_0; rfl) ?_
 all_goals (have gg:=trivial;repeat' first|simp (maxSteps:=2000000) (disch:=omega) only [gg,k3,lp_head,Int.reduceAdd,go_sem]|(refine br ?_ ?_<;>intro gg<;>try omega)|(apply And.intro;focus omega)|omega)
 all_goals refine hd_of (by unfold l61_0; rfl) ?_
 all_goals (have gg:=trivial;repeat' first|simp (maxSteps:=2000000) (disch:=omega) only [gg,k4,lp_head,Int.reduceAdd,go_sem]|(refine br ?_ ?_<;>intro gg<;>try omega)|(apply And.intro;focus omega)|omega)
 all_goals refine hd_of (by unfold l61_0; rfl) ?_
 all_goals (have gg:=trivial;repeat' first|simp (maxSteps:=2000000) (disch:=omega) only [gg,r61_0,ht,entCs,go_sem]|(refine br ?_ ?_<;>intro gg<;>try omega)|(apply And.intro;focus omega)|omega)
end Go.Abs
namespace Go.Abs
open Am
set_option maxRecDepth 10000
def entP (b : BS) : Option (Ent × BS) :=
 if (rdH b).2.2 = false then none else
 if (rdH b).1.type = 120 then
  match paxD (rdH b).2.1.l with
  | none => none
  | some rs => if (rdH (hdrR b)).2.2 = false then none else
   if (toldE (mkE (rdH (hdrR b)).1) rs).2 = true then some ({ (toldE (mkE (rdH (hdrR b)).1) rs).1 with data := .mk false false (rdH (hdrR b)).2.1.l }, hdrR (hdrR b)) else none
 else some ({ mkE (rdH b).1 with data := .mk false false (rdH b).2.1.l }, hdrR b)
theorem decP_ok : ∀ (k : Nat) (p : Option Rcd) (acc : List Rcd) (l : List UInt8) (rs : List Rcd), decP k p acc l = some rs → (∀ r ∈ acc, r.key.length ≤ 65536 ∧ r.value.length ≤ 65536) → l.length ≤ 65536 → (∀ r ∈ rs, r.key.length ≤ 65536 ∧ r.value.length ≤ 65536) ∧ rs.length ≤ acc.length + k
 | 0, p, acc, l, rs, h, ha, hl => by
  unfold decP at h
  cases h
  exact ⟨ha, by omega⟩
 | k + 1, p, acc, l, rs, h, ha, hl => by
  unfold decP at h
  by_cases c0 : l = []
  ·rw [if_pos c0] at h
   cases h
   exact ⟨ha, by omega⟩
  rw [if_neg c0] at h
  by_cases c1 : (firstP l).2 = 0 ∨ aftB p (firstP l).1 = false
  ·rw [if_pos c1] at h
   cases h
  rw [if_neg c1] at h
  have hf := firstP_le l
  obtain ⟨h1, h2⟩ := decP_ok k _ _ _ _ h (by
   intro r hr
   rcases List.mem_append.1 hr with hr | hr
   ·exact ha r hr
   ·rw [List.mem_singleton.1 hr]
    omega) (by rw [List.length_drop]; omega)
  rw [List.length_append, List.length_singleton] at h2
  exact ⟨h1, by omega⟩
theorem paxD_ok {l : List UInt8} {rs : List Rcd} (h : paxD l = some rs) : (∀ r ∈ rs, RcdOk r) ∧ rs.length ≤ 1000000 := by
 unfold paxD at h
 by_cases c : 65536 < l.length
 ·rw [if_pos c] at h
  cases h
 rw [if_neg c] at h
 obtain ⟨h1, h2⟩ := decP_ok _ _ _ _ _ h (by simp) (by omega)
 refine ⟨fun r hr => ?_, ?_⟩
 ·have := h1 r hr
  exact ⟨by omega, by omega⟩
 ·simp at h2
  omega
theorem rdH_mk {b : BS} (h : (rdH b).2.2 = true) : ∃ c t l, (rdH b).2.1 = .mk c t l := by
 unfold rdH at h ⊢
 by_cases c1 : b.l.length < 512 ∨ decOk (b.sl 0 512).l = false
 ·rw [if_pos c1] at h
  cases h
 ·rw [if_neg c1] at h ⊢
  by_cases c2 : wholeN (decH (b.sl 0 512).l).size ≤ (b.sl 512 b.l.length).l.length
  ·rw [if_pos c2]
   cases b with
   | nil => exact (c1 (.inl (by simp [BS.l]))).elim
   | mk c t l => exact ⟨_, _, _, rfl⟩
  ·rw [if_neg c2] at h
   cases h
def EntR (b : BS) : Prop := match entP b with
 | some (e, r) => callT AA 61 [.ptr 0 0] [(0, .var [b.av])] = some (.tuple [.agg (entCs e (.own 1 1 0 e.data.l.length false)), .bool true], [(0, .var [r.av]), (1, .row (e.data.l.map .byte) 1)])
 | none => (∃ e r, callT AA 61 [.ptr 0 0] [(0, .var [b.av])] = some (.tuple [.agg (entCs e (.lit (.slice none 0 0))), .bool false], [(0, .var [BS.av r])])) ∨
  (∃ e r l, callT AA 61 [.ptr 0 0] [(0, .var [b.av])] = some (.tuple [.agg (entCs e (.own 1 1 0 (List.length l) false)), .bool false], [(0, .var [BS.av r]), (1, .row (l.map .byte) 1)]))
theorem s61f (b : BS) (hb : b.l.length ≤ 1000000) : EntR b := by
 unfold EntR entP
 by_cases c0 : (rdH b).2.2 = false
 ·rw [if_pos c0]
  exact .inl ⟨_, _, s61no b (by omega) c0⟩
 rw [if_neg c0]
 have c0 : (rdH b).2.2 = true := by simpa using c0
 obtain ⟨c, t, l, hbd⟩ := rdH_mk c0
 have hl : l.length ≤ 1000000 := by
  have := rdH_le b
  rw [hbd, mk_l] at this
  omega
 by_cases c1 : (rdH b).1.type = 120
 ·rw [if_pos c1]
  cases c2 : paxD (rdH b).2.1.l with
  | none => exact .inl ⟨_, _, s61x b hb c0 c1 c2⟩
  | some rs =>
   simp only
   by_cases c3 : (rdH (hdrR b)).2.2 = false
   ·rw [if_pos c3]
    exact .inl ⟨_, _, s61xf b hb c0 c1 rs c2 c3⟩
   rw [if_neg c3]
   have c3 : (rdH (hdrR b)).2.2 = true := by simpa using c3
   obtain ⟨c', t', l', hbd'⟩ := rdH_mk c3
   have hl' : l'.length ≤ 1000000000 := by
    have h1 := rdH_le (hdrR b)
    have h2 := hdrR_le b
    rw [hbd', mk_l] at h1
    omega
   have hrs := paxD_ok c2
   have key : callT AA 61 [.ptr 0 0] [(0, .var [b.av])] = some (.tuple [.agg (entCs (toldE (mkE (rdH (hdrR b)).1) rs).1 (.own 1 1 0 l'.length false)), .bool (toldE (mkE (rdH (hdrR b)).1) rs).2], [(0, .var [(hdrR (hdrR b)).av]), (1, .row (l'.map .byte) 1)]) := by
    cases rs with
    | nil => exact s61y1 b hb c0 c1 c2 c3 c' t' l' hbd' hl'
    | cons r rs => exact s61x1 b hb c0 c1 r rs c2 c3 c' t' l' hbd' hl' hrs.1 hrs.2
   have hb1 : (rdH (hdrR b)).2.1.l = l' := by rw [hbd']; rfl
   rw [hb1]
   by_cases c4 : (toldE (mkE (rdH (hdrR b)).1) rs).2 = true
   ·rw [if_pos c4]
    rw [c4] at key
    exact key
   ·rw [if_neg c4]
    have c4 : (toldE (mkE (rdH (hdrR b)).1) rs).2 = false := by simpa using c4
    rw [c4] at key
    exact .inr ⟨_, _, _, key⟩
 ·rw [if_neg c1]
  have hb1 : (rdH b).2.1.l = l := by rw [hbd]; rfl
  rw [hb1]
  show callT AA 61 [.ptr 0 0] [(0, .var [b.av])] = some (.tuple [.agg (entCs (mkE (rdH b).1) (.own 1 1 0 l.length false)), .bool true], [(0, .var [(hdrR b).av]), (1, .row (l.map .byte) 1)])
  exact s61p b (by omega) c0 c t l hbd (by omega) c1
end Go.Abs
