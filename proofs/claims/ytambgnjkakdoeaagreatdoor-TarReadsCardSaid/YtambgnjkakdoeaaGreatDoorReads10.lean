import Derived.Test.YtambgnjkakdoeaaGreatDoorReads9
/- PART OF A PROOF (texts joined by a program): F14 F15 B2 F16 F17 F18 F19 F20 F21 F22. -/
set_option linter.unusedVariables false
set_option linter.unusedSimpArgs false
set_option linter.unusedSectionVars false
namespace Go.Abs
open Am
set_option maxRecDepth 10000
def typeB (k : Int) : UInt8 := if k = 1 then 53 else if k = 3 then 50 else if k = 4 then 49 else 48
theorem s102 (k : Int) : callT AA 102 [.int .i64 k] [] = some (.int .u8 (typeB k).toNat, []) := by
 refine enter fn102 np102 rfl ?_
 unfold typeB
 by_cases h1 : k = 1
 ·have gg:=trivial;repeat' first|simp (maxSteps:=2000000) (disch:=omega) only [gg,b102,h1,go_sem]|(refine br ?_ ?_<;>intro gg<;>try omega)|(apply And.intro;focus omega)|omega
  rfl
 by_cases h3 : k = 3
 ·have gg:=trivial;repeat' first|simp (maxSteps:=2000000) (disch:=omega) only [gg,b102,h3,go_sem]|(refine br ?_ ?_<;>intro gg<;>try omega)|(apply And.intro;focus omega)|omega
  rfl
 by_cases h4 : k = 4
 ·have gg:=trivial;repeat' first|simp (maxSteps:=2000000) (disch:=omega) only [gg,b102,h4,go_sem]|(refine br ?_ ?_<;>intro gg<;>try omega)|(apply And.intro;focus omega)|omega
  rfl
 have gg:=trivial;repeat' first|simp (maxSteps:=2000000) (disch:=omega) only [gg,b102,h1,h3,h4,go_sem]|(refine br ?_ ?_<;>intro gg<;>try omega)|(apply And.intro;focus omega)|omega
 rfl
def paxB : List UInt8 := [112, 97, 120]
theorem paxB_eq : AVal.str [112, 97, 120] = .str paxB := rfl
def setR (h : Hd) (r : Rcd) : Hd :=
 if r.key = gidB then { h with gid := 0 } else if r.key = linkpathB then { h with link := paxB } else if r.key = mtimeB then { h with time := 0 } else if r.key = pathB then { h with path := paxB } else if r.key = uidB then { h with uid := 0 } else h
def hdE (e : Ent) : Hd := ⟨e.path, e.mode, e.uid, e.gid, e.data.l.length, e.time, typeB e.kind, e.link⟩
def hdrE (e : Ent) (rs : List Rcd) : Hd := rs.foldl setR (hdE e)
theorem h111 (c t : Bool) (rs : List Rcd) (hs : rs.length ≤ 1000000) (r0 : Hd) : ∀ (rest done : List Rcd) (h : Hd) (n i : Int), rs = done ++ rest → i = done.length → n = rs.length → r0 = rest.foldl setR h →
  HD AA 0 [4, 5, 27, 28, 29] l111_0 ⟨[.junk, .junk, .junk, .junk, .ptr 0 0, .ptr 1 0, .junk, .junk, .junk, .junk, .junk, .junk, .junk, .junk, .junk, .junk, .junk, .junk, .junk, .junk, .junk, .junk, .junk, .junk, .junk, .junk, .junk, .view 2 (rs.map Rcd.av) c t, .int .i64 n, .int .i64 i, .junk, .junk, .junk, .junk, .junk, .junk, .junk, .junk, .junk, .junk, .junk, .junk, .junk, .junk, .junk, .junk, .junk, .junk, .junk, .junk, .junk, .junk], [(0, .var [.str [], .int .i64 0, .int .i64 0, .int .i64 0, .int .i64 0, .int .i64 0, .int .u8 0, .str []]), (1, .var h.av.cells)], 2⟩ [.blk 0, .code r111_0] (Fin [(4, some (8, true))] 0 r0.av [])
 | [], done, h, n, i, h1, h2, h3, h4 => by
  subst h1
  simp at h3
  refine hd_of (by unfold l111_0; rfl) ?_
  simp only [List.foldl] at h4
  rw [h4]
  have gg:=trivial;repeat' first|simp (maxSteps:=2000000) (disch:=omega) only [gg,r111_0,go_sem]|(refine br ?_ ?_<;>intro gg<;>try omega)|(apply And.intro;focus omega)|omega
 | r :: rest, done, h, n, i, h1, h2, h3, h4 => by
  have hg0 : rs[i.toNat]? = some r := by
   rw [h1]
   simp [h2]
  have hl : i.toNat < rs.length := by rw [h1]; simp; omega
  rw [List.foldl_cons] at h4
  have ih := h111 c t rs hs r0 rest (done ++ [r]) (setR h r) n (i + 1) (by simp [h1]) (by first | omega | (simp; omega) | (simp; done)) h3 h4
  refine hd_of (by unfold l111_0; rfl) ?_
  by_cases k0 : r.key = [103, 105, 100]
  ·have e : setR h r = { h with gid := 0 } := by
    unfold setR gidB linkpathB mtimeB pathB uidB
    rw [if_pos k0]
   rw [e] at ih
   have gg:=trivial;repeat' first|simp (maxSteps:=2000000) (disch:=omega) only [gg,hg0,decide_eq_true k0,lp_head,paxB_eq,go_sem]|(refine br ?_ ?_<;>intro gg<;>try omega)|(apply And.intro;focus omega)|omega
   exact ih
  by_cases k1 : r.key = [108, 105, 110, 107, 112, 97, 116, 104]
  ·have e : setR h r = { h with link := paxB } := by
    unfold setR gidB linkpathB mtimeB pathB uidB
    rw [if_neg k0, if_pos k1]
   rw [e] at ih
   have gg:=trivial;repeat' first|simp (maxSteps:=2000000) (disch:=omega) only [gg,hg0,decide_eq_false k0,decide_eq_true k1,lp_head,paxB_eq,go_sem]|(refine br ?_ ?_<;>intro gg<;>try omega)|(apply And.intro;focus omega)|omega
   exact ih
  by_cases k2 : r.key = [109, 116, 105, 109, 101]
  ·have e : setR h r = { h with time := 0 } := by
    unfold setR gidB linkpathB mtimeB pathB uidB
    rw [if_neg k0, if_neg k1, if_pos k2]
   rw [e] at ih
   have gg:=trivial;repeat' first|simp (maxSteps:=2000000) (disch:=omega) only [gg,hg0,decide_eq_false k0,decide_eq_false k1,decide_eq_true k2,lp_head,paxB_eq,go_sem]|(refine br ?_ ?_<;>intro gg<;>try omega)|(apply And.intro;focus omega)|omega
   exact ih
  by_cases k3 : r.key = [112, 97, 116, 104]
  ·have e : setR h r = { h with path := paxB } := by
    unfold setR gidB linkpathB mtimeB pathB uidB
    rw [if_neg k0, if_neg k1, if_neg k2, if_pos k3]
   rw [e] at ih
   have gg:=trivial;repeat' first|simp (maxSteps:=2000000) (disch:=omega) only [gg,hg0,decide_eq_false k0,decide_eq_false k1,decide_eq_false k2,decide_eq_true k3,lp_head,paxB_eq,go_sem]|(refine br ?_ ?_<;>intro gg<;>try omega)|(apply And.intro;focus omega)|omega
   exact ih
  by_cases k4 : r.key = [117, 105, 100]
  ·have e : setR h r = { h with uid := 0 } := by
    unfold setR gidB linkpathB mtimeB pathB uidB
    rw [if_neg k0, if_neg k1, if_neg k2, if_neg k3, if_pos k4]
   rw [e] at ih
   have gg:=trivial;repeat' first|simp (maxSteps:=2000000) (disch:=omega) only [gg,hg0,decide_eq_false k0,decide_eq_false k1,decide_eq_false k2,decide_eq_false k3,decide_eq_true k4,lp_head,paxB_eq,go_sem]|(refine br ?_ ?_<;>intro gg<;>try omega)|(apply And.intro;focus omega)|omega
   exact ih
  have e : setR h r = h := by
   unfold setR gidB linkpathB mtimeB pathB uidB
   rw [if_neg k0, if_neg k1, if_neg k2, if_neg k3, if_neg k4]
  rw [e] at ih
  have gg:=trivial;repeat' first|simp (maxSteps:=2000000) (disch:=omega) only [gg,hg0,decide_eq_false k0,decide_eq_false k1,decide_eq_false k2,decide_eq_false k3,decide_eq_false k4,lp_head,go_sem]|(refine br ?_ ?_<;>intro gg<;>try omega)|(apply And.intro;focus omega)|omega
  exact ih
theorem s111 (e : Ent) (c t : Bool) (rs : List Rcd) (hs : rs.length ≤ 1000000) : callT AA 111 [e.av, .view 2 (rs.map Rcd.av) c t] [] = some ((hdrE e rs).av, []) := by
 have h1 := s102 e.kind
 have ih := h111 c t rs hs (hdrE e rs) rs [] (hdE e) rs.length 0 rfl rfl rfl rfl
 refine enter fn111 np111 rfl ?_
 have gg:=trivial;repeat' first|simp (maxSteps:=2000000) (disch:=omega) only [gg,b111,h1,lp_head,go_sem]|(refine br ?_ ?_<;>intro gg<;>try omega)|(apply And.intro;focus omega)|omega
 exact ih
theorem s111n (e : Ent) : callT AA 111 [e.av, .lit (.slice none 0 0)] [] = some ((hdE e).av, []) := by
 have h1 := s102 e.kind
 refine enter fn111 np111 rfl ?_
 have gg:=trivial;repeat' first|simp (maxSteps:=2000000) (disch:=omega) only [gg,b111,h1,lp_head,go_sem]|(refine br ?_ ?_<;>intro gg<;>try omega)|(apply And.intro;focus omega)|omega
 refine hd_of (by unfold l111_0; rfl) ?_
 have gg:=trivial;repeat' first|simp (maxSteps:=2000000) (disch:=omega) only [gg,r111_0,go_sem]|(refine br ?_ ?_<;>intro gg<;>try omega)|(apply And.intro;focus omega)|omega
 rfl
end Go.Abs
namespace Go.Abs
open Am
set_option maxRecDepth 10000
theorem putA_512 {bs xs : List UInt8} {off n : Nat} (h : bs.length = 512) (h' : off + n ≤ 512) : (putA bs off n xs).length = 512 := by
 rw [putA_length (by omega)]
 exact h
theorem octW_512 {bs : List UInt8} {pos k : Nat} {n : Int} (h : bs.length = 512) : (octW bs pos k n).length = 512 := by
 rw [octW_length]
 exact h
theorem set_512 {bs : List UInt8} {i : Nat} {x : UInt8} (h : bs.length = 512) : (bs.set i x).length = 512 := by
 rw [List.length_set]
 exact h
theorem encB_length (h : Hd) : (encB h).length = 512 := by
 unfold encB encH
 refine set_512 (octW_512 (putA_512 (octW_512 (octW_512 (putA_512 (putA_512 (set_512 (octW_512 (octW_512 (octW_512 (octW_512 (octW_512 (putA_512 zeros512_length ?_)))))))  ?_) ?_))) ?_))
 all_goals omega
theorem paxE_le : ∀ (rs : List Rcd) (p : Option Rcd) (out o : List UInt8), out.length ≤ 65536 → paxE p out rs = some o → o.length ≤ 65536
 | [], p, out, o, h, he => by
  simp only [paxE, Option.some.injEq] at he
  rw [← he]
  exact h
 | r :: rs, p, out, o, h, he => by
  unfold paxE at he
  split at he
  ·rename_i hs
   refine paxE_le rs _ _ o ?_ he
   simp only [paxStep, Bool.and_eq_true, decide_eq_true_eq] at hs
   simpa using hs.2
  ·cases he
theorem setR_le {h : Hd} {r : Rcd} (h1 : h.path.length ≤ 1000000) (h2 : h.link.length ≤ 1000000) : (setR h r).path.length ≤ 1000000 ∧ (setR h r).link.length ≤ 1000000 := by
 unfold setR
 repeat' split
 all_goals simp [h1, h2, paxB]
theorem fold_le : ∀ (rs : List Rcd) (h : Hd), h.path.length ≤ 1000000 → h.link.length ≤ 1000000 → (rs.foldl setR h).path.length ≤ 1000000 ∧ (rs.foldl setR h).link.length ≤ 1000000
 | [], h, h1, h2 => ⟨h1, h2⟩
 | r :: rs, h, h1, h2 => fold_le rs (setR h r) (setR_le h1 h2).1 (setR_le h1 h2).2
theorem padL_length (l : List UInt8) : (padL l).length = l.length + padN l.length := by simp [padL]
theorem padN_lt (n : Nat) : padN n < 512 := by
 unfold padN
 omega
/-- the header of records -/
def hdX (n : Int) (body : List UInt8) : Hd := ⟨[112, 97, 120, 47] ++ Lib.itoa n, 0, 0, 0, body.length, 0, 120, []⟩
def bodyE (e : Ent) : List UInt8 := (paxE none [] (recsE e)).getD []
def preE (n : Int) (e : Ent) : List UInt8 := if recsE e = [] then [] else encB (hdX n (bodyE e)) ++ padL (bodyE e)
/-- an entry's bytes -/
def pieceL (n : Int) (e : Ent) : List UInt8 := preE n e ++ encB (hdrE e (recsE e)) ++ padL e.data.l
/-- what an entry of a tree meets -/
def pieceOk (n : Int) (e : Ent) : Prop := encOk (hdrE e (recsE e)) = true ∧ (recsE e ≠ [] → (paxE none [] (recsE e)).isSome = true ∧ encOk (hdX n (bodyE e)) = true)
theorem rcd_recIf {f : Bool} {k v : List UInt8} (hk : k.length ≤ 1000000) (hv : v.length ≤ 1000000) : ∀ r ∈ recIf f k v, RcdOk r := by
 unfold recIf
 split
 ·simp
 ·simp [RcdOk, hk, hv]
theorem itoa_le {n : Int} (h1 : -9223372036854775808 ≤ n) (h2 : n ≤ 9223372036854775807) : (Lib.itoa n).length ≤ 20 := by
 have hb : ∀ u : Nat, u < 10000000000000000000 → Lib.nDigits u ≤ 19 := by
  intro u hu
  have h1 := nDigits_mono (u := u) (v := 9999999999999999999) (by omega)
  have h2 : Lib.nDigits 9999999999999999999 = 19 := Lib.nDigits_unique 18 9999999999999999999 (by decide) (by decide)
  omega
 unfold Lib.itoa
 split
 ·rw [List.length_cons, Lib.decDigits_length]
  have := hb n.natAbs (by omega)
  omega
 ·rw [Lib.decDigits_length]
  have := hb n.toNat (by omega)
  omega
theorem rcd_recsE {e : Ent} (hb : EntB e) : ∀ r ∈ recsE e, RcdOk r := by
 obtain ⟨b1, b2, b3, b4, b5, b6, b7, b8⟩ := hb
 have i1 := itoa_le b1 b2
 have i2 := itoa_le b3 b4
 have i3 := itoa_le b5 b6
 unfold recsE rst3 rst4 rst5 rst6 rst7
 simp only [List.mem_append]
 rintro r (h | h | h | h | h)
 ·exact rcd_recIf (by simp [gidB]) (by omega) r h
 ·exact rcd_recIf (by simp [linkpathB]) b7 r h
 ·exact rcd_recIf (by simp [mtimeB]) (by omega) r h
 ·exact rcd_recIf (by simp [pathB]) b8 r h
 ·exact rcd_recIf (by simp [uidB]) (by omega) r h
theorem recsE_length (e : Ent) : (recsE e).length ≤ 5 := by
 have h : ∀ (f : Bool) (k v : List UInt8), (recIf f k v).length ≤ 1 := by
  intro f k v
  unfold recIf
  split <;> simp
 unfold recsE rst3 rst4 rst5 rst6 rst7
 simp only [List.length_append]
 have := h (idB e.gid) gidB (Lib.itoa e.gid)
 have := h (linkE e.link) linkpathB e.link
 have := h (timeB e.time) mtimeB (Lib.itoa e.time)
 have := h (splitN e.path).2.2 pathB e.path
 have := h (idB e.uid) uidB (Lib.itoa e.uid)
 omega
set_option maxHeartbeats 8000000 in
theorem s66 (n : Int) (hn : 0 ≤ n) (hn' : n ≤ 1000000) (e : Ent) (hb : EntB e) (hd : e.data.l.length ≤ 1000000000) (hok : pieceOk n e) :
  callT AA 66 [.int .i64 n, e.av] [] = some (.tuple [.own 0 1 0 (pieceL n e).length false, .lit .nilIface], [(0, .row ((pieceL n e).map .byte) 1)]) := by
 have h21 := s21 e hb
 have hpl := fold_le (recsE e) (hdE e) hb.2.2.2.2.2.2.2 hb.2.2.2.2.2.2.1
 have h70 := s70 (hdrE e (recsE e)) hpl.1 hpl.2 hok.1
 have hl0 := encB_length (hdrE e (recsE e))
 have h110 := s110 e.data hd
 have hpl := padL_length e.data.l
 have hpn := padN_lt e.data.l.length
 by_cases h0 : recsE e = []
 ·have e1 : pieceL n e = encB (hdrE e (recsE e)) ++ padL e.data.l := by
   unfold pieceL preE
   rw [if_pos h0, List.nil_append]
  rw [e1, List.length_append, hl0, List.map_append]
  have h111 := s111n e
  have e2 : hdE e = hdrE e (recsE e) := by rw [h0]; rfl
  rw [e2] at h111
  rw [h0] at h21
  have e3 : recV [] = .lit (.slice none 0 0) := rfl
  have e4 : recH [] = [] := rfl
  rw [e3, e4] at h21
  refine enter fn66 np66 rfl ?_
  generalize hH : hdrE e (recsE e) = H at *
  generalize hB : encB H = B at *
  have hx2 : (B.map AVal.byte).take 512 = B.map AVal.byte := List.take_of_length_le (by simp; omega)
  have hx : (B.map AVal.byte).isEmpty = false := by
   cases B with
   | nil => simp at hl0
   | cons x y => rfl
  cases hdt : e.data with
  | nil =>
   simp only [hdt, BS.l, av_nil] at h110 hpl hpn
   have e5 : padN 0 = 0 := rfl
   simp only [padV, padH, BS.l, List.length_nil, e5, if_true, BS.clipped, av_nil] at h110
   have e6 : padL ([] : List UInt8) = [] := rfl
   simp only [BS.l, e6, List.length_nil, List.map_nil]
   simp only [Ent.av, hdt, av_nil] at h21 h111
   simp only [Hd.av] at h111 h70
   have gg:=trivial;repeat' first|simp (maxSteps:=2000000) (disch:=omega) only [gg,b66,h21,h111,h70,h110,hdt,hx,hx2,hl0,Nat.min_self,mk_av,go_sem]|(refine br ?_ ?_<;>intro gg<;>try omega)|(apply And.intro;focus omega)|omega
  | mk c t l =>
   simp only [hdt, BS.l, mk_av] at h110 hpl hpn hd
   simp only [Ent.av, hdt, mk_av] at h21 h111
   simp only [Hd.av] at h111 h70
   simp only [padV, padH, BS.l, BS.clipped, mk_av] at h110
   simp only [BS.l]
   by_cases hp : padN l.length = 0
   ·simp only [hp, if_true] at h110
    have e7 : padL l = l := by simp [padL, hp]
    rw [e7]
    have gg:=trivial;repeat' first|simp (maxSteps:=2000000) (disch:=omega) only [gg,b66,h21,h111,h70,h110,hdt,hx,hx2,hl0,Nat.min_self,mk_av,go_sem]|(refine br ?_ ?_<;>intro gg<;>try omega)|(apply And.intro;focus omega)|omega
   ·simp only [hp, if_false] at h110
    have gg:=trivial;repeat' first|simp (maxSteps:=2000000) (disch:=omega) only [gg,b66,h21,h111,h70,h110,hdt,hx,hx2,hl0,Nat.min_self,mk_av,go_sem]|(refine br ?_ ?_<;>intro gg<;>try omega)|(apply And.intro;focus omega)|omega
 ·obtain ⟨hsm, hkx⟩ := hok.2 h0
  obtain ⟨body, hbd⟩ := Option.isSome_iff_exists.1 hsm
  have hbe : bodyE e = body := by unfold bodyE; rw [hbd]; rfl
  have hbl := paxE_le _ _ _ _ (by simp) hbd
  have hitl := itoa_le (n := n) (by omega) (by omega)
  have h70x := s70 (hdX n (bodyE e)) (by simp [hdX]; omega) (by simp [hdX]) hkx
  have h56 := s56 n (by omega) (by omega)
  have hl1 := encB_length (hdX n (bodyE e))
  have hrl := recsE_length e
  have h109 : ∀ c t, callT AA 109 [.view 2 ((recsE e).map Rcd.av) c t] [] = some (.tuple [.own 0 1 0 body.length false, .lit .nilIface], [(0, .row (body.map .byte) 1)]) := by
   intro c t
   have hrb := rcd_recsE hb
   cases hr : recsE e with
   | nil => exact (h0 hr).elim
   | cons r rs =>
    rw [hr] at hrb hrl hbd
    have := s109 c t r rs (by omega) hrb
    rw [hbd] at this
    exact this
  have hpb := s110o body body.length rfl (by omega)
  have hpbl := padL_length body
  have hpbn := padN_lt body.length
  have e1 : pieceL n e = encB (hdX n (bodyE e)) ++ padL body ++ encB (hdrE e (recsE e)) ++ padL e.data.l := by
   unfold pieceL preE
   rw [if_neg h0, hbe]
  rw [e1]
  simp only [List.length_append, hl0, hl1, List.map_append]
  have h111 := s111 e false true (recsE e) (by omega)
  rw [show recV (recsE e) = .own 0 2 0 (recsE e).length false by simp [recV, h0], show recH (recsE e) = [(0, .row ((recsE e).map Rcd.av) 2)] by simp [recH, h0]] at h21
  refine enter fn66 np66 rfl ?_
  generalize hH : hdrE e (recsE e) = H at *
  generalize hB : encB H = B at *
  rw [hbe] at h70x hl1 ⊢
  generalize hC : encB (hdX n body) = C at *
  replace h70x : callT AA 70 [.agg [.str (112 :: 97 :: 120 :: 47 :: Lib.itoa n), .int .i64 0, .int .i64 0, .int .i64 0, .int .i64 body.length, .int .i64 0, .int .u8 120, .str []]] [] = some (.tuple [.own 0 1 0 512 false, .lit .nilIface], [(0, .row (C.map .byte) 1)]) := h70x
  have hx2 : (B.map AVal.byte).take 512 = B.map AVal.byte := List.take_of_length_le (by simp; omega)
  have hx3 : (C.map AVal.byte).take 512 = C.map AVal.byte := List.take_of_length_le (by simp; omega)
  have hx4 : (C.map AVal.byte).isEmpty = false := by
   cases C with
   | nil => simp at hl1
   | cons x y => rfl
  have hrp : 0 < (recsE e).length := by
   cases hq : recsE e with
   | nil => exact (h0 hq).elim
   | cons a b => simp
  simp only [Hd.av] at h111 h70
  by_cases hpb0 : padN body.length = 0
  ·have e8 : padL body = body := by simp [padL, hpb0]
   have ht1 : List.take (512 + body.length) (C.map AVal.byte ++ body.map AVal.byte) = C.map AVal.byte ++ body.map AVal.byte := List.take_of_length_le (by simp [hl1])
   have ht2 : List.take (512 + body.length + 512) (C.map AVal.byte ++ body.map AVal.byte ++ B.map AVal.byte) = C.map AVal.byte ++ body.map AVal.byte ++ B.map AVal.byte := List.take_of_length_le (by simp [hl0, hl1]; omega)
   simp only [padOV, padOH, hpb0, if_true] at hpb
   cases hdt : e.data with
   | nil =>
    simp only [hdt, BS.l, av_nil] at h110
    have e5 : padN 0 = 0 := rfl
    simp only [padV, padH, BS.l, List.length_nil, e5, if_true, BS.clipped, av_nil] at h110
    have e6 : padL ([] : List UInt8) = [] := rfl
    simp only [BS.l, e6, List.length_nil, List.map_nil]
    simp only [Ent.av, hdt, av_nil] at h21 h111
    have gg:=trivial;repeat' first|simp (maxSteps:=2000000) (disch:=omega) only [gg,b66,h21,h111,h70,h110,h109,h70x,h56,hpb,hdt,hx2,hx3,hx4,hl0,hl1,Nat.min_self,mk_av,ht1,ht2,e8,go_sem]|(refine br ?_ ?_<;>intro gg<;>try omega)|(apply And.intro;focus omega)|omega
   | mk c t l =>
    simp only [hdt, BS.l, mk_av] at h110 hpl hpn hd
    simp only [Ent.av, hdt, mk_av] at h21 h111
    simp only [padV, padH, BS.l, BS.clipped, mk_av] at h110
    simp only [BS.l]
    by_cases hp : padN l.length = 0
    ·simp only [hp, if_true] at h110
     have e7 : padL l = l := by simp [padL, hp]
     rw [e7]
     have gg:=trivial;repeat' first|simp (maxSteps:=2000000) (disch:=omega) only [gg,b66,h21,h111,h70,h110,h109,h70x,h56,hpb,hdt,hx2,hx3,hx4,hl0,hl1,Nat.min_self,mk_av,ht1,ht2,e8,go_sem]|(refine br ?_ ?_<;>intro gg<;>try omega)|(apply And.intro;focus omega)|omega
    ·simp only [hp, if_false] at h110
     have gg:=trivial;repeat' first|simp (maxSteps:=2000000) (disch:=omega) only [gg,b66,h21,h111,h70,h110,h109,h70x,h56,hpb,hdt,hx2,hx3,hx4,hl0,hl1,Nat.min_self,mk_av,ht1,ht2,e8,go_sem]|(refine br ?_ ?_<;>intro gg<;>try omega)|(apply And.intro;focus omega)|omega
  ·have ht1 : List.take (512 + (padL body).length) (C.map AVal.byte ++ (padL body).map AVal.byte) = C.map AVal.byte ++ (padL body).map AVal.byte := List.take_of_length_le (by simp [hl1])
   have ht2 : List.take (512 + (padL body).length + 512) (C.map AVal.byte ++ (padL body).map AVal.byte ++ B.map AVal.byte) = C.map AVal.byte ++ (padL body).map AVal.byte ++ B.map AVal.byte := List.take_of_length_le (by simp [hl0, hl1]; omega)
   simp only [padOV, padOH, hpb0, if_false] at hpb
   cases hdt : e.data with
   | nil =>
    simp only [hdt, BS.l, av_nil] at h110
    have e5 : padN 0 = 0 := rfl
    simp only [padV, padH, BS.l, List.length_nil, e5, if_true, BS.clipped, av_nil] at h110
    have e6 : padL ([] : List UInt8) = [] := rfl
    simp only [BS.l, e6, List.length_nil, List.map_nil]
    simp only [Ent.av, hdt, av_nil] at h21 h111
    have gg:=trivial;repeat' first|simp (maxSteps:=2000000) (disch:=omega) only [gg,b66,h21,h111,h70,h110,h109,h70x,h56,hpb,hdt,hx2,hx3,hx4,hl0,hl1,Nat.min_self,mk_av,ht1,ht2,go_sem]|(refine br ?_ ?_<;>intro gg<;>try omega)|(apply And.intro;focus omega)|omega
   | mk c t l =>
    simp only [hdt, BS.l, mk_av] at h110 hpl hpn hd
    simp only [Ent.av, hdt, mk_av] at h21 h111
    simp only [padV, padH, BS.l, BS.clipped, mk_av] at h110
    simp only [BS.l]
    by_cases hp : padN l.length = 0
    ·simp only [hp, if_true] at h110
     have e7 : padL l = l := by simp [padL, hp]
     rw [e7]
     have gg:=trivial;repeat' first|simp (maxSteps:=2000000) (disch:=omega) only [gg,b66,h21,h111,h70,h110,h109,h70x,h56,hpb,hdt,hx2,hx3,hx4,hl0,hl1,Nat.min_self,mk_av,ht1,ht2,go_sem]|(refine br ?_ ?_<;>intro gg<;>try omega)|(apply And.intro;focus omega)|omega
    ·simp only [hp, if_false] at h110
     have gg:=trivial;repeat' first|simp (maxSteps:=2000000) (disch:=omega) only [gg,b66,h21,h111,h70,h110,h109,h70x,h56,hpb,hdt,hx2,hx3,hx4,hl0,hl1,Nat.min_self,mk_av,ht1,ht2,go_sem]|(refine br ?_ ?_<;>intro gg<;>try omega)|(apply And.intro;focus omega)|omega
end Go.Abs
namespace Go.Abs
def l29_0 : ACode := (.seq (rg [oo 36 (.bin .lss .other false (.t 35) (.t 34))]) (.seq (.cond (.t 36) .skip (.exit 0)) (.seq (.block 1 (.seq (rg [mv 37 35, oo 38 (.ixa 8 (.t 33) (.t 35)), oo 39 (.ld 8 true (.t 38)), oo 11 (.alloc [(.str []), (.int .i64 0), (.int .i64 0), (.int .i64 0), (.int .i64 0), (.int .i64 0), (.str []), (.lit (.slice none 0 0))]), mv 10 37, ⟨none, (.st 8 (.t 11) (.t 39)), none⟩]) (.seq (.reg true [(3, 5), (0, 7), (1, 7), (2, 7), (3, 7), (4, 7), (5, 7), (6, 7)] [mv 41 0, oo 42 (.nilck (.t 41)), oo 43 (.fa 0 (.t 42)), oo 44 (.ld 1 false (.t 43)), oo 45 (.len 1 (.t 44)), mv 46 10, oo 47 (.bin .add .other false (.t 45) (.t 46)), oo 48 (.ld 8 true (.t 11)), cl 49 66 [(.t 47), (.t 48)], mv 40 49, oo 50 (.ext (.t 40) 0), oo 51 (.ext (.t 40) 1), mv 12 50, mv 13 51]) (.seq (.seq (rg [mv 52 13, oo 53 (.bin .neq (.iface [58]) true (.t 52) (.c (.lit .nilIface)))]) (.cond (.t 53) (.seq (rg [mv 54 13, oo 4 (.mov (.c (.lit (.slice none 0 0)))), mv 5 54]) .ret) .skip)) (rg [mv 55 9, mv 56 12, oo 57 (.app 1 1 (.t 55) (.t 56)), mv 9 57]))))) (rg [oo 58 (.bin .add .other true (.t 35) (ci 1)), mv 35 58]))))
def r29_0 : ACode := (.seq (rg [mv 59 0, mv 60 6, oo 61 (.nilck (.t 59)), oo 62 (.fa 0 (.t 61)), ⟨none, (.st 1 (.t 62) (.t 60)), none⟩]) (.seq (rg [mv 63 9, mv 4 63, oo 5 (.mov (.c (.lit .nilIface)))]) .ret))
def b29 : AFn := ⟨2, 64, [(4, none), (5, none)], (.seq (rg [oo 4 (.mov (.c (.lit (.slice none 0 0)))), oo 5 (.mov (.c (.lit .nilIface)))]) (.seq (.seq (rg [mv 14 0, oo 15 (.bin .eql .ptr true (.t 14) (.c (.lit (.pointer none))))]) (.cond (.t 15) (.seq (rg [oo 16 (.mkif 58 (ci 16)), oo 4 (.mov (.c (.lit (.slice none 0 0)))), mv 5 16]) .ret) .skip)) (.seq (rg [mv 17 0, oo 18 (.nilck (.t 17)), oo 19 (.fa 0 (.t 18)), oo 20 (.ld 1 false (.t 19)), cl 21 64 [(.t 20)], mv 22 1, cl 23 65 [(.t 22)], oo 24 (.app 96 8 (.t 21) (.t 23)), mv 6 24]) (.seq (.seq (rg [mv 26 6, cl 27 31 [(.t 26)], mv 25 27, oo 28 (.ext (.t 25) 0), oo 29 (.ext (.t 25) 1), mv 7 28, mv 8 29]) (.seq (rg [mv 30 8, oo 31 (.bin .neq (.iface [58]) true (.t 30) (.c (.lit .nilIface)))]) (.cond (.t 31) (.seq (rg [mv 32 8, oo 4 (.mov (.c (.lit (.slice none 0 0)))), mv 5 32]) .ret) .skip))) (.seq (rg [oo 9 (.mov (.c (.lit (.slice none 0 0))))]) (.seq (.seq (rg [mv 33 1, oo 34 (.len 1 (.t 33)), oo 35 (.mov (ci 0))]) (.block 0 (.loop [0, 4, 5, 6, 9, 33, 34, 35] l29_0))) r29_0))))))⟩
theorem fn29 : AA.fn 29 = some b29 := by kernel_rfl
theorem np29 : AA.prim 29 = none := rfl
def b32 : AFn := ⟨1, 9, [(2, none)], (.seq (rg [oo 2 (.mov (.c (.lit (.slice none 0 0))))]) (.seq (.seq (rg [mv 3 0, oo 4 (.bin .eql .ptr true (.t 3) (.c (.lit (.pointer none))))]) (.cond (.t 4) (.seq (rg [oo 2 (.mov (.c (.lit (.slice none 0 0))))]) .ret) .skip)) (.seq (rg [mv 5 0, oo 6 (.nilck (.t 5)), oo 7 (.fa 0 (.t 6)), ⟨none, (.st 1 (.t 7) (.c (.lit (.slice none 0 0)))), none⟩]) (.seq (rg [oo 8 (.mksl 1 1 [(.int .u8 0)] (ci 1024) (ci 1024)), mv 2 8]) .ret))))⟩
theorem fn32 : AA.fn 32 = some b32 := by kernel_rfl
theorem np32 : AA.prim 32 = none := rfl
def b17 : AFn := ⟨1, 21, [(2, none), (3, none)], (.seq (rg [oo 2 (.mov (.c (.lit (.slice none 0 0)))), oo 3 (.mov (.c (.lit .nilIface)))]) (.seq (rg [cl 7 28 [], mv 4 7]) (.seq (rg [mv 9 4, mv 10 0, cl 11 29 [(.t 9), (.t 10)], mv 8 11, oo 12 (.ext (.t 8) 0), oo 13 (.ext (.t 8) 1), mv 5 12, mv 6 13]) (.seq (.seq (rg [mv 14 6, oo 15 (.bin .neq (.iface [58]) true (.t 14) (.c (.lit .nilIface)))]) (.cond (.t 15) (.seq (rg [mv 16 6, oo 2 (.mov (.c (.lit (.slice none 0 0)))), mv 3 16]) .ret) .skip)) (.seq (rg [mv 17 5, mv 18 4, cl 19 32 [(.t 18)], oo 20 (.app 1 1 (.t 17) (.t 19)), mv 2 20, oo 3 (.mov (.c (.lit .nilIface)))]) .ret)))))⟩
theorem fn17 : AA.fn 17 = some b17 := by kernel_rfl
theorem np17 : AA.prim 17 = none := rfl
def b62 : AFn := ⟨2, 10, [(4, none)], (.seq (rg [oo 4 (.mov (.c (.bool false)))]) (.seq (rg [mv 5 0, oo 6 (.cvbs (.t 5)), mv 7 1, oo 8 (.cvbs (.t 7)), oo 9 (.bin .eql .other false (.t 6) (.t 8)), mv 4 9]) .ret))⟩
theorem fn62 : AA.fn 62 = some b62 := by kernel_rfl
theorem np62 : AA.prim 62 = none := rfl
def b193 : AFn := ⟨2, 8, [(4, none)], (.seq (rg [oo 4 (.mov (ci 0))]) (.seq (rg [mv 5 0, mv 6 1, cl 7 228 [(.t 5), (.t 6)], mv 4 7]) .ret))⟩
theorem fn193 : AA.fn 193 = some b193 := by kernel_rfl
theorem np193 : AA.prim 193 = none := rfl
def l152_0 : ACode := (.seq (.seq (rg [mv 136 15, mv 137 17, oo 138 (.bin .lss .other false (.t 136) (.t 137))]) (.cond (.t 138) .skip (.exit 3))) (.block 4 (.seq (.seq (rg [mv 139 0, mv 140 15, oo 141 (.ixa 1 (.t 139) (.t 140)), oo 142 (.ld 1 false (.t 141)), mv 143 13, oo 144 (.bin .neq .other false (.t 142) (.t 143))]) (.cond (.t 144) (.seq (rg [mv 145 0, mv 146 15, oo 147 (.bin .add .other true (.t 146) (ci 1)), mv 148 17, oo 149 (.slc 1 (.t 145) (some (.t 147)) (some (.t 148)) none), mv 150 13, cl 151 193 [(.t 149), (.t 150)], mv 18 151]) (.seq (.seq (rg [mv 152 18, oo 153 (.bin .lss .other true (.t 152) (ci 0))]) (.cond (.t 153) (.exit 3) .skip)) (rg [mv 154 15, mv 155 18, oo 156 (.bin .add .other true (.t 155) (ci 1)), oo 157 (.bin .add .other false (.t 154) (.t 156)), mv 15 157]))) .skip)) (.seq (.seq (rg [mv 158 0, mv 159 15, oo 160 (.bin .add .other true (.t 159) (ci 1)), oo 161 (.ixa 1 (.t 158) (.t 160)), oo 162 (.ld 1 false (.t 161)), mv 163 14, oo 164 (.bin .eql .other false (.t 162) (.t 163)), mv 165 164, og 166 (.mov (.t 0)) 165 true, og 167 (.mov (.t 15)) 165 true, og 168 (.mov (.t 15)) 165 true, og 169 (.mov (.t 5)) 165 true, og 170 (.bin .add .other false (.t 168) (.t 169)) 165 true, og 171 (.slc 1 (.t 166) (some (.t 167)) (some (.t 170)) none) 165 true, og 172 (.mov (.t 1)) 165 true, og 173 (.call (.c (.func (.func 62) [])) [(.t 171), (.t 172)]) 165 true, oo 174 (.pick (.t 165) (.t 173) (.c (.bool false)))]) (.cond (.t 174) (.seq (rg [mv 175 15, mv 4 175]) .ret) .skip)) (.seq (rg [mv 176 15, oo 177 (.bin .add .other true (.t 176) (ci 1)), mv 15 177]) (.seq (rg [mv 178 16, oo 179 (.bin .add .other true (.t 178) (ci 1)), mv 16 179]) (.seq (rg [mv 180 16, mv 181 15, oo 182 (.bin .shr .other true (.t 181) (.c (.int .u64 4))), oo 183 (.bin .add .other true (ci 4) (.t 182)), oo 184 (.bin .geq .other false (.t 180) (.t 183)), mv 185 184, og 186 (.mov (.t 15)) 185 true, og 187 (.mov (.t 17)) 185 true, og 188 (.bin .lss .other false (.t 186) (.t 187)) 185 true, oo 189 (.pick (.t 185) (.t 188) (.c (.bool false)))]) (.cond (.t 189) (.seq (rg [mv 190 0, mv 191 15, oo 192 (.slc 1 (.t 190) (some (.t 191)) none none), mv 193 1, cl 194 196 [(.t 192), (.t 193)], mv 19 194]) (.seq (.seq (rg [mv 195 19, oo 196 (.bin .lss .other true (.t 195) (ci 0))]) (.cond (.t 196) (.seq (rg [oo 4 (.mov (.c (.int .i64 (-1))))]) .ret) .skip)) (.seq (rg [mv 197 15, mv 198 19, oo 199 (.bin .add .other false (.t 197) (.t 198)), mv 4 199]) .ret))) .skip))))))))
def l152_1 : ACode := (.seq (.seq (rg [mv 67 8, mv 68 9, oo 69 (.bin .lss .other false (.t 67) (.t 68))]) (.cond (.t 69) .skip (.exit 1))) (.block 2 (.seq (.seq (rg [mv 70 0, mv 71 8, oo 72 (.ixa 1 (.t 70) (.t 71)), oo 73 (.ld 1 false (.t 72)), mv 74 6, oo 75 (.bin .neq .other false (.t 73) (.t 74))]) (.cond (.t 75) (.seq (rg [mv 76 0, mv 77 8, oo 78 (.bin .add .other true (.t 77) (ci 1)), mv 79 9, oo 80 (.slc 1 (.t 76) (some (.t 78)) (some (.t 79)) none), mv 81 6, cl 82 193 [(.t 80), (.t 81)], mv 11 82]) (.seq (.seq (rg [mv 83 11, oo 84 (.bin .lss .other true (.t 83) (ci 0))]) (.cond (.t 84) (.seq (rg [oo 4 (.mov (.c (.int .i64 (-1))))]) .ret) .skip)) (rg [mv 85 8, mv 86 11, oo 87 (.bin .add .other true (.t 86) (ci 1)), oo 88 (.bin .add .other false (.t 85) (.t 87)), mv 8 88]))) .skip)) (.seq (.seq (rg [mv 89 0, mv 90 8, oo 91 (.bin .add .other true (.t 90) (ci 1)), oo 92 (.ixa 1 (.t 89) (.t 91)), oo 93 (.ld 1 false (.t 92)), mv 94 7, oo 95 (.bin .eql .other false (.t 93) (.t 94)), mv 96 95, og 97 (.mov (.t 0)) 96 true, og 98 (.mov (.t 8)) 96 true, og 99 (.mov (.t 8)) 96 true, og 100 (.mov (.t 5)) 96 true, og 101 (.bin .add .other false (.t 99) (.t 100)) 96 true, og 102 (.slc 1 (.t 97) (some (.t 98)) (some (.t 101)) none) 96 true, og 103 (.mov (.t 1)) 96 true, og 104 (.call (.c (.func (.func 62) [])) [(.t 102), (.t 103)]) 96 true, oo 105 (.pick (.t 96) (.t 104) (.c (.bool false)))]) (.cond (.t 105) (.seq (rg [mv 106 8, mv 4 106]) .ret) .skip)) (.seq (rg [mv 107 10, oo 108 (.bin .add .other true (.t 107) (ci 1)), mv 10 108]) (.seq (rg [mv 109 8, oo 110 (.bin .add .other true (.t 109) (ci 1)), mv 8 110]) (.seq (rg [mv 111 10, mv 112 8, cl 113 195 [(.t 112)], oo 114 (.bin .gtr .other false (.t 111) (.t 113))]) (.cond (.t 114) (.seq (rg [mv 115 0, mv 116 8, oo 117 (.slc 1 (.t 115) (some (.t 116)) none none), mv 118 1, cl 119 194 [(.t 117), (.t 118)], mv 12 119]) (.seq (.seq (rg [mv 120 12, oo 121 (.bin .geq .other true (.t 120) (ci 0))]) (.cond (.t 121) (.seq (rg [mv 122 12, mv 123 8, oo 124 (.bin .add .other false (.t 122) (.t 123)), mv 4 124]) .ret) .skip)) (.seq (rg [oo 4 (.mov (.c (.int .i64 (-1))))]) .ret))) .skip))))))))
def r152_0 : ACode := (.seq (rg [oo 4 (.mov (.c (.int .i64 (-1))))]) .ret)
def r152_1 : ACode := (.seq (rg [oo 4 (.mov (.c (.int .i64 (-1))))]) .ret)
def r152_2 : ACode := (.seq (rg [mv 125 1, oo 126 (.ixa 1 (.t 125) (ci 0)), oo 127 (.ld 1 false (.t 126)), mv 13 127]) (.seq (rg [mv 128 1, oo 129 (.ixa 1 (.t 128) (ci 1)), oo 130 (.ld 1 false (.t 129)), mv 14 130]) (.seq (rg [oo 15 (.mov (ci 0))]) (.seq (rg [oo 16 (.mov (ci 0))]) (.seq (rg [mv 131 0, oo 132 (.len 1 (.t 131)), mv 133 5, oo 134 (.bin .sub .other false (.t 132) (.t 133)), oo 135 (.bin .add .other true (.t 134) (ci 1)), mv 17 135]) (.seq (.block 3 (.loop [0, 1, 4, 5, 13, 14, 15, 16, 17] l152_0)) r152_0))))))
def b152 : AFn := ⟨2, 200, [(4, none)], (.seq (rg [oo 4 (.mov (ci 0))]) (.seq (rg [mv 20 1, oo 21 (.len 1 (.t 20)), mv 5 21]) (.seq (.block 0 (.seq (rg [mv 23 5, oo 24 (.bin .eql .other true (.t 23) (ci 0)), mv 22 24]) (.cond (.t 22) (.seq (rg [oo 4 (.mov (ci 0))]) .ret) (.seq (rg [mv 26 5, oo 27 (.bin .eql .other true (.t 26) (ci 1)), mv 25 27]) (.cond (.t 25) (.seq (rg [mv 28 0, mv 29 1, oo 30 (.ixa 1 (.t 29) (ci 0)), oo 31 (.ld 1 false (.t 30)), cl 32 193 [(.t 28), (.t 31)], mv 4 32]) .ret) (.seq (rg [mv 34 5, mv 35 0, oo 36 (.len 1 (.t 35)), oo 37 (.bin .eql .other false (.t 34) (.t 36)), mv 33 37]) (.cond (.t 33) (.seq (.seq (rg [mv 38 1, mv 39 0, cl 40 62 [(.t 38), (.t 39)]]) (.cond (.t 40) (.seq (rg [oo 4 (.mov (ci 0))]) .ret) .skip)) (.seq (rg [oo 4 (.mov (.c (.int .i64 (-1))))]) .ret)) (.seq (rg [mv 42 5, mv 43 0, oo 44 (.len 1 (.t 43)), oo 45 (.bin .gtr .other false (.t 42) (.t 44)), mv 41 45]) (.cond (.t 41) (.seq (rg [oo 4 (.mov (.c (.int .i64 (-1))))]) .ret) (.seq (rg [mv 47 5, ⟨(some 48), .bad, none⟩, oo 49 (.bin .leq .other false (.t 47) (.t 48)), mv 46 49]) (.cond (.t 46) (.seq (.seq (rg [mv 50 0, oo 51 (.len 1 (.t 50)), oo 52 (.bin .leq .other true (.t 51) (ci 64))]) (.cond (.t 52) (.seq (rg [mv 53 0, mv 54 1, cl 55 194 [(.t 53), (.t 54)], mv 4 55]) .ret) .skip)) (.seq (rg [mv 56 1, oo 57 (.ixa 1 (.t 56) (ci 0)), oo 58 (.ld 1 false (.t 57)), mv 6 58]) (.seq (rg [mv 59 1, oo 60 (.ixa 1 (.t 59) (ci 1)), oo 61 (.ld 1 false (.t 60)), mv 7 61]) (.seq (rg [oo 8 (.mov (ci 0))]) (.seq (rg [mv 62 0, oo 63 (.len 1 (.t 62)), mv 64 5, oo 65 (.bin .sub .other false (.t 63) (.t 64)), oo 66 (.bin .add .other true (.t 65) (ci 1)), mv 9 66]) (.seq (rg [oo 10 (.mov (ci 0))]) (.seq (.block 1 (.loop [0, 1, 4, 5, 6, 7, 8, 9, 10] l152_1)) r152_1))))))) .skip))))))))))) r152_2)))⟩
theorem fn152 : AA.fn 152 = some b152 := by kernel_rfl
theorem np152 : AA.prim 152 = none := rfl
def b114 : AFn := ⟨2, 23, [(4, none), (5, none), (6, none)], (.seq (rg [oo 4 (.mov (.c (.lit (.slice none 0 0)))), oo 5 (.mov (.c (.lit (.slice none 0 0)))), oo 6 (.mov (.c (.bool false)))]) (.seq (.seq (rg [mv 8 0, mv 9 1, cl 10 152 [(.t 8), (.t 9)], mv 7 10]) (.seq (rg [mv 11 7, oo 12 (.bin .geq .other true (.t 11) (ci 0))]) (.cond (.t 12) (.seq (.reg true [] [mv 13 0, mv 14 7, oo 15 (.slc 1 (.t 13) none (some (.t 14)) none), mv 16 0, mv 17 7, mv 18 1, oo 19 (.len 1 (.t 18)), oo 20 (.bin .add .other false (.t 17) (.t 19)), oo 21 (.slc 1 (.t 16) (some (.t 20)) none none), mv 4 15, mv 5 21, oo 6 (.mov (.c (.bool true)))]) .ret) .skip))) (.seq (rg [mv 22 0, mv 4 22, oo 5 (.mov (.c (.lit (.slice none 0 0)))), oo 6 (.mov (.c (.bool false)))]) .ret)))⟩
theorem fn114 : AA.fn 114 = some b114 := by kernel_rfl
theorem np114 : AA.prim 114 = none := rfl
def b203 : AFn := ⟨2, 21, [(4, none)], (.seq (rg [oo 4 (.mov (.c (.bool false)))]) (.seq (rg [mv 5 0, oo 6 (.len 0 (.t 5)), mv 7 1, oo 8 (.len 0 (.t 7)), oo 9 (.bin .geq .other false (.t 6) (.t 8)), mv 10 9, og 11 (.mov (.t 0)) 10 true, og 12 (.mov (.t 0)) 10 true, og 13 (.len 0 (.t 12)) 10 true, og 14 (.mov (.t 1)) 10 true, og 15 (.len 0 (.t 14)) 10 true, og 16 (.bin .sub .other false (.t 13) (.t 15)) 10 true, og 17 (.slct (.t 11) (some (.t 16)) none) 10 true, og 18 (.mov (.t 1)) 10 true, og 19 (.bin .eql .other false (.t 17) (.t 18)) 10 true, oo 20 (.pick (.t 10) (.t 19) (.c (.bool false))), mv 4 20]) .ret))⟩
theorem fn203 : AA.fn 203 = some b203 := by kernel_rfl
theorem np203 : AA.prim 203 = none := rfl
def b156 : AFn := ⟨2, 18, [(4, none), (5, none)], (.seq (rg [oo 4 (.mov (.c (.str []))), oo 5 (.mov (.c (.bool false)))]) (.seq (.seq (rg [mv 6 0, mv 7 1, cl 8 203 [(.t 6), (.t 7)], oo 9 (.un .not (.t 8))]) (.cond (.t 9) (.seq (rg [mv 10 0, mv 4 10, oo 5 (.mov (.c (.bool false)))]) .ret) .skip)) (.seq (rg [mv 11 0, mv 12 0, oo 13 (.len 0 (.t 12)), mv 14 1, oo 15 (.len 0 (.t 14)), oo 16 (.bin .sub .other false (.t 13) (.t 15)), oo 17 (.slct (.t 11) none (some (.t 16))), mv 4 17, oo 5 (.mov (.c (.bool true)))]) .ret)))⟩
theorem fn156 : AA.fn 156 = some b156 := by kernel_rfl
theorem np156 : AA.prim 156 = none := rfl
def b120 : AFn := ⟨2, 11, [(4, none), (5, none)], (.seq (rg [oo 4 (.mov (.c (.str []))), oo 5 (.mov (.c (.bool false)))]) (.seq (rg [mv 6 0, mv 7 1, cl 8 156 [(.t 6), (.t 7)], oo 9 (.ext (.t 8) 0), oo 10 (.ext (.t 8) 1), mv 4 9, mv 5 10]) .ret))⟩
theorem fn120 : AA.fn 120 = some b120 := by kernel_rfl
theorem np120 : AA.prim 120 = none := rfl
def b71 : AFn := ⟨1, 94, [(2, (some (2, true))), (3, none)], (.seq (rg [oo 2 (.alloc [(.str []), (.str [])]), oo 3 (.mov (ci 0))]) (.seq (rg [mv 15 0, oo 16 (.bslice 1 1 [(.int .u8 0)] [(.c (.int .u8 32))]), oo 17 (.cvb (.t 16)), cl 18 114 [(.t 15), (.t 17)], mv 14 18, oo 19 (.ext (.t 14) 0), oo 20 (.ext (.t 14) 1), oo 21 (.ext (.t 14) 2), mv 4 19, mv 5 20, mv 6 21]) (.seq (rg [mv 23 4, oo 24 (.cvbs (.t 23)), cl 25 118 [(.t 24)], mv 22 25, oo 26 (.ext (.t 22) 0), oo 27 (.ext (.t 22) 1), mv 7 26, mv 8 27]) (.seq (.seq (rg [mv 28 6, oo 29 (.un .not (.t 28)), mv 30 29, og 31 (.mov (.t 8)) 30 false, og 32 (.bin .neq (.iface [58]) true (.t 31) (.c (.lit .nilIface))) 30 false, oo 33 (.pick (.t 30) (.c (.bool true)) (.t 32)), mv 34 33, og 35 (.mov (.t 7)) 34 false, og 36 (.mov (.t 0)) 34 false, og 37 (.len 1 (.t 36)) 34 false, og 38 (.bin .gtr .other false (.t 35) (.t 37)) 34 false, oo 39 (.pick (.t 34) (.c (.bool true)) (.t 38)), mv 40 39, og 41 (.mov (.t 7)) 40 false, og 42 (.mov (.t 4)) 40 false, og 43 (.len 1 (.t 42)) 40 false, og 44 (.bin .add .other true (.t 43) (ci 1)) 40 false, og 45 (.bin .lss .other false (.t 41) (.t 44)) 40 false, oo 46 (.pick (.t 40) (.c (.bool true)) (.t 45))]) (.cond (.t 46) (.seq (rg [oo 47 (.build [(.str []), (.str [])] []), ⟨none, (.st 2 (.t 2) (.t 47)), none⟩, oo 3 (.mov (ci 0))]) .ret) .skip)) (.seq (rg [mv 49 0, mv 50 4, oo 51 (.len 1 (.t 50)), oo 52 (.bin .add .other true (.t 51) (ci 1)), mv 53 7, oo 54 (.slc 1 (.t 49) (some (.t 52)) (some (.t 53)) none), oo 55 (.cvbs (.t 54)), oo 56 (.call (.c (.func (.func 119) [])) [(.t 55), (.c (.str [61]))]), mv 48 56, oo 57 (.ext (.t 48) 0), oo 58 (.ext (.t 48) 1), oo 59 (.ext (.t 48) 2), mv 9 57, mv 10 58, mv 6 59]) (.seq (rg [mv 61 10, oo 62 (.call (.c (.func (.func 120) [])) [(.t 61), (.c (.str [10]))]), mv 60 62, oo 63 (.ext (.t 60) 0), oo 64 (.ext (.t 60) 1), mv 10 63, mv 11 64]) (.seq (.seq (rg [mv 65 6, oo 66 (.un .not (.t 65)), mv 67 66, og 68 (.mov (.t 11)) 67 false, og 69 (.un .not (.t 68)) 67 false, oo 70 (.pick (.t 67) (.c (.bool true)) (.t 69))]) (.cond (.t 70) (.seq (rg [oo 71 (.build [(.str []), (.str [])] []), ⟨none, (.st 2 (.t 2) (.t 71)), none⟩, oo 3 (.mov (ci 0))]) .ret) .skip)) (.seq (rg [mv 72 9, mv 73 10, oo 74 (.build [(.str []), (.str [])] [(0, (1, (.t 72))), (1, (1, (.t 73)))]), oo 12 (.alloc [(.str []), (.str [])]), ⟨none, (.st 2 (.t 12) (.t 74)), none⟩]) (.seq (rg [mv 76 9, mv 77 10, cl 78 121 [(.t 76), (.t 77)], mv 75 78, oo 79 (.ext (.t 75) 0), oo 80 (.ext (.t 75) 1), mv 13 79, mv 8 80]) (.seq (.seq (rg [mv 81 8, oo 82 (.bin .neq (.iface [58]) true (.t 81) (.c (.lit .nilIface))), mv 83 82, og 84 (.mov (.t 13)) 83 false, og 85 (.mov (.t 0)) 83 false, og 86 (.mov (.t 7)) 83 false, og 87 (.slc 1 (.t 85) none (some (.t 86)) none) 83 false, og 88 (.cvbs (.t 87)) 83 false, og 89 (.bin .neq .other false (.t 84) (.t 88)) 83 false, oo 90 (.pick (.t 83) (.c (.bool true)) (.t 89))]) (.cond (.t 90) (.seq (rg [oo 91 (.build [(.str []), (.str [])] []), ⟨none, (.st 2 (.t 2) (.t 91)), none⟩, oo 3 (.mov (ci 0))]) .ret) .skip)) (.seq (rg [oo 92 (.ld 2 true (.t 12)), mv 93 7, ⟨none, (.st 2 (.t 2) (.t 92)), none⟩, mv 3 93]) .ret)))))))))))⟩
theorem fn71 : AA.fn 71 = some b71 := by kernel_rfl
theorem np71 : AA.prim 71 = none := rfl
def l35_0 : ACode := (.seq (.seq (rg [mv 11 0, oo 12 (.len 1 (.t 11)), oo 13 (.bin .gtr .other true (.t 12) (ci 0))]) (.cond (.t 13) .skip (.exit 0))) (.block 1 (.seq (rg [mv 15 0, cl 16 71 [(.t 15)], mv 14 16, oo 17 (.ext (.t 14) 0), oo 18 (.ext (.t 14) 1), oo 5 (.alloc [(.str []), (.str [])]), ⟨none, (.st 2 (.t 5) (.t 17)), none⟩, mv 6 18]) (.seq (.seq (.reg true [(13, 14), (7, 15), (8, 15), (9, 15), (10, 15), (11, 15), (12, 15), (13, 15)] [mv 19 6, oo 20 (.bin .eql .other true (.t 19) (ci 0)), mv 21 20, og 22 (.mov (.t 4)) 21 false, og 23 (.len 1 (.t 22)) 21 false, og 24 (.bin .gtr .other true (.t 23) (ci 0)) 21 false, og 25 (.mov (.t 24)) 21 false, og 26 (.mov (.t 4)) 25 true, og 27 (.mov (.t 4)) 25 true, og 28 (.len 1 (.t 27)) 25 true, og 29 (.bin .sub .other true (.t 28) (ci 1)) 25 true, og 30 (.ixa 2 (.t 26) (.t 29)) 25 true, og 31 (.fa 0 (.t 30)) 25 true, og 32 (.ld 1 false (.t 31)) 25 true, og 33 (.fa 0 (.t 5)) 25 true, og 34 (.ld 1 false (.t 33)) 25 true, og 35 (.bin .geq .other false (.t 32) (.t 34)) 25 true, og 36 (.pick (.t 25) (.t 35) (.c (.bool false))) 21 false, oo 37 (.pick (.t 21) (.c (.bool true)) (.t 36))]) (.cond (.t 37) (.seq (rg [oo 38 (.mkif 58 (ci 15)), oo 2 (.mov (.c (.lit (.slice none 0 0)))), mv 3 38]) .ret) .skip)) (.seq (rg [mv 39 4, oo 40 (.ld 2 true (.t 5)), oo 41 (.bslice 2 1 [(.str []), (.str [])] [(.t 40)]), oo 42 (.app 32 2 (.t 39) (.t 41)), mv 4 42]) (rg [mv 43 0, mv 44 6, oo 45 (.slc 1 (.t 43) (some (.t 44)) none none), mv 0 45]))))))
def r35_0 : ACode := (.seq (rg [mv 46 4, mv 2 46, oo 3 (.mov (.c (.lit .nilIface)))]) .ret)
def b35 : AFn := ⟨1, 47, [(2, none), (3, none)], (.seq (rg [oo 2 (.mov (.c (.lit (.slice none 0 0)))), oo 3 (.mov (.c (.lit .nilIface)))]) (.seq (.seq (rg [mv 7 0, oo 8 (.len 1 (.t 7)), oo 9 (.bin .gtr .other true (.t 8) (ci 65536))]) (.cond (.t 9) (.seq (rg [oo 10 (.mkif 58 (ci 15)), oo 2 (.mov (.c (.lit (.slice none 0 0)))), mv 3 10]) .ret) .skip)) (.seq (rg [oo 4 (.mov (.c (.lit (.slice none 0 0))))]) (.seq (.block 0 (.loop [0, 2, 3, 4] l35_0)) r35_0))))⟩
theorem fn35 : AA.fn 35 = some b35 := by kernel_rfl
theorem np35 : AA.prim 35 = none := rfl
def b68 : AFn := ⟨3, 24, [(6, none)], (.seq (rg [oo 6 (.mov (.c (.str [])))]) (.seq (rg [mv 11 0, mv 12 1, mv 13 1, mv 14 2, oo 15 (.bin .add .other false (.t 13) (.t 14)), oo 16 (.slc 1 (.t 11) (some (.t 12)) (some (.t 15)) none), oo 17 (.bslice 1 1 [(.int .u8 0)] [(.c (.int .u8 0))]), cl 18 114 [(.t 16), (.t 17)], mv 10 18, oo 19 (.ext (.t 10) 0), oo 20 (.ext (.t 10) 1), oo 21 (.ext (.t 10) 2), mv 7 19, mv 8 20, mv 9 21]) (.seq (rg [mv 22 7, oo 23 (.cvbs (.t 22)), mv 6 23]) .ret)))⟩
theorem fn68 : AA.fn 68 = some b68 := by kernel_rfl
theorem np68 : AA.prim 68 = none := rfl
def l69_0 : ACode := (.seq (rg [oo 18 (.bin .lss .other false (.t 17) (.t 16))]) (.seq (.cond (.t 18) .skip (.exit 0)) (.seq (.block 1 (.seq (rg [oo 19 (.ixa 1 (.t 15) (.t 17)), oo 20 (.ld 1 false (.t 19)), mv 9 20]) (rg [mv 21 7, oo 22 (.bin .shl .other true (.t 21) (.c (.int .u64 3))), mv 23 9, oo 24 (.bin .and .other true (.t 23) (.c (.int .u8 7))), oo 25 (.cvi .i64 (.t 24)), oo 26 (.bin .or .other false (.t 22) (.t 25)), mv 7 26]))) (rg [oo 27 (.bin .add .other true (.t 17) (ci 1)), mv 17 27]))))
def r69_0 : ACode := (.seq (rg [mv 28 7, mv 6 28]) .ret)
def b69 : AFn := ⟨3, 29, [(6, none)], (.seq (rg [oo 6 (.mov (ci 0))]) (.seq (rg [oo 7 (.mov (ci 0))]) (.seq (.seq (rg [mv 10 0, mv 11 1, mv 12 1, mv 13 2, oo 14 (.bin .add .other false (.t 12) (.t 13)), oo 15 (.slc 1 (.t 10) (some (.t 11)) (some (.t 14)) none), oo 16 (.len 1 (.t 15)), oo 17 (.mov (ci 0))]) (.block 0 (.loop [6, 7, 15, 16, 17] l69_0))) r69_0)))⟩
theorem fn69 : AA.fn 69 = some b69 := by kernel_rfl
theorem np69 : AA.prim 69 = none := rfl
def b34 : AFn := ⟨1, 59, [(2, (some (8, true))), (3, none)], (.seq (rg [oo 2 (.alloc [(.str []), (.int .i64 0), (.int .i64 0), (.int .i64 0), (.int .i64 0), (.int .i64 0), (.int .u8 0), (.str [])]), oo 3 (.mov (.c (.lit .nilIface)))]) (.seq (.seq (rg [mv 9 0, oo 10 (.len 1 (.t 9)), oo 11 (.bin .neq .other true (.t 10) (ci 512))]) (.cond (.t 11) (.seq (rg [oo 12 (.build [(.str []), (.int .i64 0), (.int .i64 0), (.int .i64 0), (.int .i64 0), (.int .i64 0), (.int .u8 0), (.str [])] []), oo 13 (.mkif 58 (ci 14)), ⟨none, (.st 8 (.t 2) (.t 12)), none⟩, mv 3 13]) .ret) .skip)) (.seq (rg [mv 14 0, mv 4 14]) (.seq (.reg true [(1, 2), (1, 4), (3, 4), (1, 6), (3, 6), (5, 6), (1, 8), (3, 8), (5, 8), (7, 8), (1, 10), (3, 10), (5, 10), (7, 10), (9, 10), (1, 12), (3, 12), (5, 12), (7, 12), (9, 12), (11, 12), (1, 13), (3, 13), (5, 13), (7, 13), (9, 13), (11, 13), (0, 14), (1, 14), (2, 14), (3, 14), (4, 14), (5, 14), (6, 14), (7, 14), (8, 14), (9, 14), (10, 14), (11, 14), (1, 15), (3, 15), (5, 15), (7, 15), (9, 15), (11, 15), (14, 15), (12, 16), (13, 16), (14, 16), (0, 18), (1, 18), (2, 18), (3, 18), (4, 18), (5, 18), (6, 18), (7, 18), (8, 18), (9, 18), (10, 18), (11, 18), (12, 18), (13, 18), (14, 18), (15, 18), (16, 18), (17, 18)] [mv 15 4, cl 16 68 [(.t 15), (ci 0), (ci 100)], mv 17 4, cl 18 69 [(.t 17), (ci 100), (ci 7)], mv 19 4, cl 20 69 [(.t 19), (ci 108), (ci 7)], mv 21 4, cl 22 69 [(.t 21), (ci 116), (ci 7)], mv 23 4, cl 24 69 [(.t 23), (ci 124), (ci 11)], mv 25 4, cl 26 69 [(.t 25), (ci 136), (ci 11)], mv 27 4, oo 28 (.ixa 1 (.t 27) (ci 156)), oo 29 (.ld 1 false (.t 28)), mv 30 4, cl 31 68 [(.t 30), (ci 157), (ci 100)], oo 32 (.build [(.str []), (.int .i64 0), (.int .i64 0), (.int .i64 0), (.int .i64 0), (.int .i64 0), (.int .u8 0), (.str [])] [(0, (1, (.t 16))), (1, (1, (.t 18))), (2, (1, (.t 20))), (3, (1, (.t 22))), (4, (1, (.t 24))), (5, (1, (.t 26))), (6, (1, (.t 29))), (7, (1, (.t 31)))]), oo 5 (.alloc [(.str []), (.int .i64 0), (.int .i64 0), (.int .i64 0), (.int .i64 0), (.int .i64 0), (.int .u8 0), (.str [])]), ⟨none, (.st 8 (.t 5) (.t 32)), none⟩]) (.seq (.seq (rg [mv 33 4, cl 34 68 [(.t 33), (ci 345), (ci 155)], mv 6 34]) (.seq (rg [mv 35 6, oo 36 (.bin .neq .other true (.t 35) (.c (.str [])))]) (.cond (.t 36) (rg [mv 37 6, oo 38 (.bin .add .other true (.t 37) (.c (.str [47]))), oo 39 (.fa 0 (.t 5)), oo 40 (.ld 1 false (.t 39)), oo 41 (.bin .add .other false (.t 38) (.t 40)), oo 42 (.fa 0 (.t 5)), ⟨none, (.st 1 (.t 42) (.t 41)), none⟩]) .skip))) (.seq (rg [oo 44 (.ld 8 true (.t 5)), cl 45 70 [(.t 44)], mv 43 45, oo 46 (.ext (.t 43) 0), oo 47 (.ext (.t 43) 1), mv 7 46, mv 8 47]) (.seq (.seq (rg [mv 48 8, oo 49 (.bin .neq (.iface [58]) true (.t 48) (.c (.lit .nilIface))), mv 50 49, og 51 (.mov (.t 7)) 50 false, og 52 (.mov (.t 0)) 50 false, og 53 (.call (.c (.func (.func 62) [])) [(.t 51), (.t 52)]) 50 false, og 54 (.un .not (.t 53)) 50 false, oo 55 (.pick (.t 50) (.c (.bool true)) (.t 54))]) (.cond (.t 55) (.seq (rg [oo 56 (.build [(.str []), (.int .i64 0), (.int .i64 0), (.int .i64 0), (.int .i64 0), (.int .i64 0), (.int .u8 0), (.str [])] []), oo 57 (.mkif 58 (ci 14)), ⟨none, (.st 8 (.t 2) (.t 56)), none⟩, mv 3 57]) .ret) .skip)) (.seq (rg [oo 58 (.ld 8 true (.t 5)), ⟨none, (.st 8 (.t 2) (.t 58)), none⟩, oo 3 (.mov (.c (.lit .nilIface)))]) .ret))))))))⟩
theorem fn34 : AA.fn 34 = some b34 := by kernel_rfl
theorem np34 : AA.prim 34 = none := rfl
def b143 : AFn := ⟨2, 40, [(4, none), (5, none)], (.seq (rg [oo 4 (.mov (.c (.lit (.slice none 0 0)))), oo 5 (.mov (.c (.bool false)))]) (.seq (rg [mv 8 1, oo 9 (.bin .add .other true (.t 8) (ci 512)), oo 10 (.bin .sub .other true (.t 9) (ci 1)), oo 11 (.bin .quo .other true (.t 10) (ci 512)), oo 12 (.bin .mul .other true (.t 11) (ci 512)), mv 6 12]) (.seq (.seq (rg [mv 13 1, oo 14 (.bin .lss .other true (.t 13) (ci 0)), mv 15 14, og 16 (.mov (.t 6)) 15 false, og 17 (.mov (.t 0)) 15 false, og 18 (.nilck (.t 17)) 15 false, og 19 (.fa 0 (.t 18)) 15 false, og 20 (.ld 1 false (.t 19)) 15 false, og 21 (.len 1 (.t 20)) 15 false, og 22 (.bin .gtr .other false (.t 16) (.t 21)) 15 false, oo 23 (.pick (.t 15) (.c (.bool true)) (.t 22))]) (.cond (.t 23) (.seq (rg [oo 4 (.mov (.c (.lit (.slice none 0 0)))), oo 5 (.mov (.c (.bool false)))]) .ret) .skip)) (.seq (rg [mv 24 0, oo 25 (.nilck (.t 24)), oo 26 (.fa 0 (.t 25)), oo 27 (.ld 1 false (.t 26)), mv 28 1, oo 29 (.slc 1 (.t 27) none (some (.t 28)) none), mv 7 29]) (.seq (rg [mv 30 0, mv 31 0, oo 32 (.nilck (.t 31)), oo 33 (.fa 0 (.t 32)), oo 34 (.ld 1 false (.t 33)), mv 35 6, oo 36 (.slc 1 (.t 34) (some (.t 35)) none none), oo 37 (.nilck (.t 30)), oo 38 (.fa 0 (.t 37)), ⟨none, (.st 1 (.t 38) (.t 36)), none⟩]) (.seq (rg [mv 39 7, mv 4 39, oo 5 (.mov (.c (.bool true)))]) .ret))))))⟩
theorem fn143 : AA.fn 143 = some b143 := by kernel_rfl
theorem np143 : AA.prim 143 = none := rfl
def b100 : AFn := ⟨1, 36, [(2, (some (8, true))), (3, none), (4, none)], (.seq (rg [oo 2 (.alloc [(.str []), (.int .i64 0), (.int .i64 0), (.int .i64 0), (.int .i64 0), (.int .i64 0), (.int .u8 0), (.str [])]), oo 3 (.mov (.c (.lit (.slice none 0 0)))), oo 4 (.mov (.c (.bool false)))]) (.seq (rg [mv 11 0, cl 12 143 [(.t 11), (ci 512)], mv 10 12, oo 13 (.ext (.t 10) 0), oo 14 (.ext (.t 10) 1), mv 5 13, mv 6 14]) (.seq (.seq (rg [mv 15 6, oo 16 (.un .not (.t 15))]) (.cond (.t 16) (.seq (rg [oo 17 (.build [(.str []), (.int .i64 0), (.int .i64 0), (.int .i64 0), (.int .i64 0), (.int .i64 0), (.int .u8 0), (.str [])] []), ⟨none, (.st 8 (.t 2) (.t 17)), none⟩, oo 3 (.mov (.c (.lit (.slice none 0 0)))), oo 4 (.mov (.c (.bool false)))]) .ret) .skip)) (.seq (rg [mv 19 5, cl 20 34 [(.t 19)], mv 18 20, oo 21 (.ext (.t 18) 0), oo 22 (.ext (.t 18) 1), oo 7 (.alloc [(.str []), (.int .i64 0), (.int .i64 0), (.int .i64 0), (.int .i64 0), (.int .i64 0), (.int .u8 0), (.str [])]), ⟨none, (.st 8 (.t 7) (.t 21)), none⟩, mv 8 22]) (.seq (.seq (rg [mv 23 8, oo 24 (.bin .neq (.iface [58]) true (.t 23) (.c (.lit .nilIface)))]) (.cond (.t 24) (.seq (rg [oo 25 (.build [(.str []), (.int .i64 0), (.int .i64 0), (.int .i64 0), (.int .i64 0), (.int .i64 0), (.int .u8 0), (.str [])] []), ⟨none, (.st 8 (.t 2) (.t 25)), none⟩, oo 3 (.mov (.c (.lit (.slice none 0 0)))), oo 4 (.mov (.c (.bool false)))]) .ret) .skip)) (.seq (rg [mv 27 0, oo 28 (.fa 4 (.t 7)), oo 29 (.ld 1 false (.t 28)), cl 30 143 [(.t 27), (.t 29)], mv 26 30, oo 31 (.ext (.t 26) 0), oo 32 (.ext (.t 26) 1), mv 9 31, mv 6 32]) (.seq (rg [oo 33 (.ld 8 true (.t 7)), mv 34 9, mv 35 6, ⟨none, (.st 8 (.t 2) (.t 33)), none⟩, mv 3 34, mv 4 35]) .ret)))))))⟩
theorem fn100 : AA.fn 100 = some b100 := by kernel_rfl
theorem np100 : AA.prim 100 = none := rfl
def b144 : AFn := ⟨2, 17, [(4, none)], (.seq (rg [oo 4 (.mov (.c (.bool false)))]) (.seq (rg [mv 8 1, cl 9 118 [(.t 8)], mv 7 9, oo 10 (.ext (.t 7) 0), oo 11 (.ext (.t 7) 1), mv 5 10, mv 6 11]) (.seq (rg [mv 12 0, mv 13 5, oo 14 (.nilck (.t 12)), ⟨none, (.st 1 (.t 14) (.t 13)), none⟩]) (.seq (rg [mv 15 6, oo 16 (.bin .eql (.iface [58]) true (.t 15) (.c (.lit .nilIface))), mv 4 16]) .ret))))⟩
theorem fn144 : AA.fn 144 = some b144 := by kernel_rfl
theorem np144 : AA.prim 144 = none := rfl
def l103_0 : ACode := (.seq (rg [oo 12 (.bin .lss .other false (.t 11) (.t 10))]) (.seq (.cond (.t 12) .skip (.exit 0)) (.seq (.block 1 (.seq (rg [oo 13 (.ixa 2 (.t 9) (.t 11)), oo 14 (.ld 2 true (.t 13)), oo 7 (.alloc [(.str []), (.str [])]), ⟨none, (.st 2 (.t 7) (.t 14)), none⟩]) (.seq (rg [oo 8 (.mov (.c (.bool true)))]) (.seq (.seq (rg [oo 15 (.fa 0 (.t 7)), oo 16 (.ld 1 false (.t 15))]) (.block 2 (.seq (rg [oo 18 (.bin .eql .other true (.t 16) (.c (.str [103, 105, 100]))), mv 17 18]) (.cond (.t 17) (.reg true [(0, 5), (1, 5), (2, 5), (3, 5)] [mv 19 5, mv 20 0, oo 21 (.nilck (.t 20)), oo 22 (.fa 4 (.t 21)), oo 23 (.fa 1 (.t 7)), oo 24 (.ld 1 false (.t 23)), oo 25 (.call (.t 19) [(.t 22), (.t 24)]), mv 8 25]) (.seq (rg [oo 27 (.bin .eql .other true (.t 16) (.c (.str [108, 105, 110, 107, 112, 97, 116, 104]))), mv 26 27]) (.cond (.t 26) (rg [mv 28 0, oo 29 (.fa 1 (.t 7)), oo 30 (.ld 1 false (.t 29)), oo 31 (.nilck (.t 28)), oo 32 (.fa 6 (.t 31)), ⟨none, (.st 1 (.t 32) (.t 30)), none⟩]) (.seq (rg [oo 34 (.bin .eql .other true (.t 16) (.c (.str [109, 116, 105, 109, 101]))), mv 33 34]) (.cond (.t 33) (.reg true [(0, 5), (1, 5), (2, 5), (3, 5)] [mv 35 5, mv 36 0, oo 37 (.nilck (.t 36)), oo 38 (.fa 5 (.t 37)), oo 39 (.fa 1 (.t 7)), oo 40 (.ld 1 false (.t 39)), oo 41 (.call (.t 35) [(.t 38), (.t 40)]), mv 8 41]) (.seq (rg [oo 43 (.bin .eql .other true (.t 16) (.c (.str [112, 97, 116, 104]))), mv 42 43]) (.cond (.t 42) (rg [mv 44 0, oo 45 (.fa 1 (.t 7)), oo 46 (.ld 1 false (.t 45)), oo 47 (.nilck (.t 44)), oo 48 (.fa 0 (.t 47)), ⟨none, (.st 1 (.t 48) (.t 46)), none⟩]) (.seq (rg [oo 50 (.bin .eql .other true (.t 16) (.c (.str [117, 105, 100]))), mv 49 50]) (.cond (.t 49) (.reg true [(0, 5), (1, 5), (2, 5), (3, 5)] [mv 51 5, mv 52 0, oo 53 (.nilck (.t 52)), oo 54 (.fa 3 (.t 53)), oo 55 (.fa 1 (.t 7)), oo 56 (.ld 1 false (.t 55)), oo 57 (.call (.t 51) [(.t 54), (.t 56)]), mv 8 57]) (rg [oo 8 (.mov (.c (.bool false)))]))))))))))))) (.seq (rg [mv 58 8, oo 59 (.un .not (.t 58))]) (.cond (.t 59) (.seq (rg [oo 4 (.mov (.c (.bool false)))]) .ret) .skip)))))) (rg [oo 60 (.bin .add .other true (.t 11) (ci 1)), mv 11 60]))))
def r103_0 : ACode := (.seq (rg [oo 4 (.mov (.c (.bool true)))]) .ret)
def b103 : AFn := ⟨2, 61, [(4, none)], (.seq (rg [oo 4 (.mov (.c (.bool false)))]) (.seq (rg [oo 5 (.mov (.c (.func (.func 144) [])))]) (.seq (.seq (rg [mv 9 1, oo 10 (.len 1 (.t 9)), oo 11 (.mov (ci 0))]) (.block 0 (.loop [0, 4, 5, 9, 10, 11] l103_0))) r103_0)))⟩
theorem fn103 : AA.fn 103 = some b103 := by kernel_rfl
theorem np103 : AA.prim 103 = none := rfl
def l61_0 : ACode := (.seq (.seq (rg [mv 56 10, oo 57 (.bin .leq .other true (.t 56) (ci 4))]) (.cond (.t 57) .skip (.exit 0))) (.seq (.block 1 (.seq (.reg true [(1, 2), (0, 3), (1, 3)] [mv 60 10, cl 61 102 [(.t 60)], oo 62 (.fa 6 (.t 4)), oo 63 (.ld 1 false (.t 62)), oo 64 (.bin .eql .other false (.t 61) (.t 63))]) (.cond (.t 64) (rg [mv 65 10, oo 66 (.fa 1 (.t 9)), ⟨none, (.st 1 (.t 66) (.t 65)), none⟩]) .skip))) (rg [mv 58 10, oo 59 (.bin .add .other true (.t 58) (ci 1)), mv 10 59])))
def r61_0 : ACode := (.seq (rg [mv 67 7, cl 68 103 [(.t 9), (.t 67)], mv 11 68]) (.seq (rg [oo 69 (.ld 8 true (.t 9)), mv 70 11, ⟨none, (.st 8 (.t 2) (.t 69)), none⟩, mv 3 70]) .ret))
def b61 : AFn := ⟨1, 71, [(2, (some (8, true))), (3, none)], (.seq (rg [oo 2 (.alloc [(.str []), (.int .i64 0), (.int .i64 0), (.int .i64 0), (.int .i64 0), (.int .i64 0), (.str []), (.lit (.slice none 0 0))]), oo 3 (.mov (.c (.bool false)))]) (.seq (rg [mv 13 0, cl 14 100 [(.t 13)], mv 12 14, oo 15 (.ext (.t 12) 0), oo 16 (.ext (.t 12) 1), oo 17 (.ext (.t 12) 2), oo 4 (.alloc [(.str []), (.int .i64 0), (.int .i64 0), (.int .i64 0), (.int .i64 0), (.int .i64 0), (.int .u8 0), (.str [])]), ⟨none, (.st 8 (.t 4) (.t 15)), none⟩, mv 5 16, mv 6 17]) (.seq (rg [oo 7 (.mov (.c (.lit (.slice none 0 0))))]) (.seq (.seq (rg [mv 18 6, mv 19 18, og 20 (.fa 6 (.t 4)) 19 true, og 21 (.ld 1 false (.t 20)) 19 true, og 22 (.bin .eql .other true (.t 21) (.c (.int .u8 120))) 19 true, oo 23 (.pick (.t 19) (.t 22) (.c (.bool false)))]) (.cond (.t 23) (.seq (rg [oo 8 (.mov (.c (.lit .nilIface)))]) (.seq (.seq (rg [mv 25 5, cl 26 35 [(.t 25)], mv 24 26, oo 27 (.ext (.t 24) 0), oo 28 (.ext (.t 24) 1), mv 7 27, mv 8 28]) (.seq (rg [mv 29 8, oo 30 (.bin .neq (.iface [58]) true (.t 29) (.c (.lit .nilIface)))]) (.cond (.t 30) (.seq (rg [oo 31 (.build [(.str []), (.int .i64 0), (.int .i64 0), (.int .i64 0), (.int .i64 0), (.int .i64 0), (.str []), (.lit (.slice none 0 0))] []), ⟨none, (.st 8 (.t 2) (.t 31)), none⟩, oo 3 (.mov (.c (.bool false)))]) .ret) .skip))) (rg [mv 33 0, cl 34 100 [(.t 33)], mv 32 34, oo 35 (.ext (.t 32) 0), oo 36 (.ext (.t 32) 1), oo 37 (.ext (.t 32) 2), ⟨none, (.st 8 (.t 4) (.t 35)), none⟩, mv 5 36, mv 6 37]))) .skip)) (.seq (.seq (rg [mv 38 6, oo 39 (.un .not (.t 38))]) (.cond (.t 39) (.seq (rg [oo 40 (.build [(.str []), (.int .i64 0), (.int .i64 0), (.int .i64 0), (.int .i64 0), (.int .i64 0), (.str []), (.lit (.slice none 0 0))] []), ⟨none, (.st 8 (.t 2) (.t 40)), none⟩, oo 3 (.mov (.c (.bool false)))]) .ret) .skip)) (.seq (.reg true [(1, 2), (0, 3), (1, 3), (1, 4), (3, 4), (0, 5), (1, 5), (2, 5), (3, 5), (1, 6), (3, 6), (5, 6), (0, 7), (1, 7), (2, 7), (3, 7), (4, 7), (5, 7), (1, 8), (3, 8), (5, 8), (7, 8), (0, 9), (1, 9), (2, 9), (3, 9), (4, 9), (5, 9), (6, 9), (7, 9), (1, 10), (3, 10), (5, 10), (7, 10), (9, 10), (0, 11), (1, 11), (2, 11), (3, 11), (4, 11), (5, 11), (6, 11), (7, 11), (8, 11), (9, 11), (1, 12), (3, 12), (5, 12), (7, 12), (9, 12), (11, 12), (0, 13), (1, 13), (2, 13), (3, 13), (4, 13), (5, 13), (6, 13), (7, 13), (8, 13), (9, 13), (10, 13), (11, 13), (0, 15), (1, 15), (2, 15), (3, 15), (4, 15), (5, 15), (6, 15), (7, 15), (8, 15), (9, 15), (10, 15), (11, 15), (12, 15), (13, 15), (14, 15)] [oo 41 (.fa 0 (.t 4)), oo 42 (.ld 1 false (.t 41)), oo 43 (.fa 1 (.t 4)), oo 44 (.ld 1 false (.t 43)), oo 45 (.fa 2 (.t 4)), oo 46 (.ld 1 false (.t 45)), oo 47 (.fa 3 (.t 4)), oo 48 (.ld 1 false (.t 47)), oo 49 (.fa 5 (.t 4)), oo 50 (.ld 1 false (.t 49)), oo 51 (.fa 7 (.t 4)), oo 52 (.ld 1 false (.t 51)), mv 53 5, cl 54 101 [(.t 53)], oo 55 (.build [(.str []), (.int .i64 0), (.int .i64 0), (.int .i64 0), (.int .i64 0), (.int .i64 0), (.str []), (.lit (.slice none 0 0))] [(0, (1, (.t 42))), (2, (1, (.t 44))), (3, (1, (.t 46))), (4, (1, (.t 48))), (5, (1, (.t 50))), (6, (1, (.t 52))), (7, (1, (.t 54)))]), oo 9 (.alloc [(.str []), (.int .i64 0), (.int .i64 0), (.int .i64 0), (.int .i64 0), (.int .i64 0), (.str []), (.lit (.slice none 0 0))]), ⟨none, (.st 8 (.t 9) (.t 55)), none⟩]) (.seq (.seq (rg [oo 10 (.mov (ci 1))]) (.block 0 (.loop [2, 3, 4, 7, 9, 10] l61_0))) r61_0)))))))⟩
theorem fn61 : AA.fn 61 = some b61 := by kernel_rfl
theorem np61 : AA.prim 61 = none := rfl
def l24_0 : ACode := (.seq (.seq (rg [mv 21 4, oo 22 (.nilck (.t 21)), oo 23 (.fa 0 (.t 22)), oo 24 (.ld 1 false (.t 23)), oo 25 (.len 1 (.t 24)), oo 26 (.bin .gtr .other true (.t 25) (ci 0))]) (.cond (.t 26) .skip (.exit 0))) (.block 1 (.seq (rg [mv 28 4, cl 29 61 [(.t 28)], mv 27 29, oo 30 (.ext (.t 27) 0), oo 31 (.ext (.t 27) 1), oo 6 (.alloc [(.str []), (.int .i64 0), (.int .i64 0), (.int .i64 0), (.int .i64 0), (.int .i64 0), (.str []), (.lit (.slice none 0 0))]), ⟨none, (.st 8 (.t 6) (.t 30)), none⟩, mv 7 31]) (.seq (.seq (rg [mv 32 7, oo 33 (.un .not (.t 32)), mv 34 33, og 35 (.mov (.t 5)) 34 false, og 36 (.len 1 (.t 35)) 34 false, og 37 (.bin .eql .other true (.t 36) (ci 200)) 34 false, oo 38 (.pick (.t 34) (.c (.bool true)) (.t 37))]) (.cond (.t 38) (.seq (rg [oo 39 (.mkif 58 (ci 16)), oo 2 (.mov (.c (.lit (.slice none 0 0)))), mv 3 39]) .ret) .skip)) (rg [mv 40 5, oo 41 (.ld 8 true (.t 6)), oo 42 (.bslice 8 1 [(.str []), (.int .i64 0), (.int .i64 0), (.int .i64 0), (.int .i64 0), (.int .i64 0), (.str []), (.lit (.slice none 0 0))] [(.t 41)]), oo 43 (.app 96 8 (.t 40) (.t 42)), mv 5 43])))))
def r24_0 : ACode := (.seq (rg [mv 45 5, cl 46 17 [(.t 45)], mv 44 46, oo 47 (.ext (.t 44) 0), oo 48 (.ext (.t 44) 1), mv 8 47, mv 9 48]) (.seq (.seq (rg [mv 49 9, oo 50 (.bin .neq (.iface [58]) true (.t 49) (.c (.lit .nilIface))), mv 51 50, og 52 (.mov (.t 8)) 51 false, og 53 (.mov (.t 0)) 51 false, og 54 (.call (.c (.func (.func 62) [])) [(.t 52), (.t 53)]) 51 false, og 55 (.un .not (.t 54)) 51 false, oo 56 (.pick (.t 51) (.c (.bool true)) (.t 55))]) (.cond (.t 56) (.seq (rg [oo 57 (.mkif 58 (ci 16)), oo 2 (.mov (.c (.lit (.slice none 0 0)))), mv 3 57]) .ret) .skip)) (.seq (rg [mv 58 5, mv 2 58, oo 3 (.mov (.c (.lit .nilIface)))]) .ret)))
def b24 : AFn := ⟨1, 59, [(2, none), (3, none)], (.seq (rg [oo 2 (.mov (.c (.lit (.slice none 0 0)))), oo 3 (.mov (.c (.lit .nilIface)))]) (.seq (.seq (rg [mv 10 0, oo 11 (.len 1 (.t 10)), oo 12 (.bin .lss .other true (.t 11) (ci 1024))]) (.cond (.t 12) (.seq (rg [oo 13 (.mkif 58 (ci 16)), oo 2 (.mov (.c (.lit (.slice none 0 0)))), mv 3 13]) .ret) .skip)) (.seq (rg [mv 14 0, mv 15 0, oo 16 (.len 1 (.t 15)), oo 17 (.bin .sub .other true (.t 16) (ci 1024)), oo 18 (.slc 1 (.t 14) none (some (.t 17)) none), oo 19 (.build [(.lit (.slice none 0 0))] [(0, (1, (.t 18)))]), oo 20 (.box (.t 19)), mv 4 20]) (.seq (rg [oo 5 (.mov (.c (.lit (.slice none 0 0))))]) (.seq (.block 0 (.loop [0, 2, 3, 4, 5] l24_0)) r24_0)))))⟩
theorem fn24 : AA.fn 24 = some b24 := by kernel_rfl
theorem np24 : AA.prim 24 = none := rfl
def b14 : AFn := ⟨0, 52, [(0, none)], (.seq (rg [oo 0 (.mov (.c (.bool false)))]) (.seq (rg [oo 5 (.bslice 1 5 [(.int .u8 0)] [(.c (.int .u8 104)), (.c (.int .u8 101)), (.c (.int .u8 108)), (.c (.int .u8 108)), (.c (.int .u8 111))]), oo 6 (.cvb (.t 5)), oo 7 (.build [(.str []), (.int .i64 0), (.int .i64 0), (.int .i64 0), (.int .i64 0), (.int .i64 0), (.str []), (.lit (.slice none 0 0))] [(0, (1, (.c (.str [97])))), (1, (1, (ci 2))), (7, (1, (.t 6)))]), oo 8 (.bslice 8 1 [(.str []), (.int .i64 0), (.int .i64 0), (.int .i64 0), (.int .i64 0), (.int .i64 0), (.str []), (.lit (.slice none 0 0))] [(.t 7)]), cl 9 17 [(.t 8)], mv 4 9, oo 10 (.ext (.t 4) 0), oo 11 (.ext (.t 4) 1), mv 1 10, mv 2 11]) (.seq (.seq (rg [mv 12 2, oo 13 (.bin .neq (.iface [58]) true (.t 12) (.c (.lit .nilIface))), mv 14 13, og 15 (.mov (.t 1)) 14 false, og 16 (.len 1 (.t 15)) 14 false, og 17 (.bin .neq .other true (.t 16) (ci 2048)) 14 false, oo 18 (.pick (.t 14) (.c (.bool true)) (.t 17))]) (.cond (.t 18) (.seq (rg [oo 0 (.mov (.c (.bool false)))]) .ret) .skip)) (.seq (rg [mv 20 1, cl 21 24 [(.t 20)], mv 19 21, oo 22 (.ext (.t 19) 0), oo 23 (.ext (.t 19) 1), mv 3 22, mv 2 23]) (.seq (rg [mv 24 2, oo 25 (.bin .eql (.iface [58]) true (.t 24) (.c (.lit .nilIface))), mv 26 25, og 27 (.mov (.t 3)) 26 true, og 28 (.len 1 (.t 27)) 26 true, og 29 (.bin .eql .other true (.t 28) (ci 1)) 26 true, oo 30 (.pick (.t 26) (.t 29) (.c (.bool false))), mv 31 30, og 32 (.mov (.t 3)) 31 true, og 33 (.ixa 8 (.t 32) (ci 0)) 31 true, og 34 (.fa 0 (.t 33)) 31 true, og 35 (.ld 1 false (.t 34)) 31 true, og 36 (.bin .eql .other true (.t 35) (.c (.str [97]))) 31 true, oo 37 (.pick (.t 31) (.t 36) (.c (.bool false))), mv 38 37, og 39 (.mov (.t 3)) 38 true, og 40 (.ixa 8 (.t 39) (ci 0)) 38 true, og 41 (.fa 7 (.t 40)) 38 true, og 42 (.ld 1 false (.t 41)) 38 true, og 43 (.cvbs (.t 42)) 38 true, og 44 (.bin .eql .other true (.t 43) (.c (.str [104, 101, 108, 108, 111]))) 38 true, oo 45 (.pick (.t 38) (.t 44) (.c (.bool false))), mv 46 45, og 47 (.mov (.t 1)) 46 true, og 48 (.slc 1 (.t 47) (some (ci 512)) (some (ci 517)) none) 46 true, og 49 (.cvbs (.t 48)) 46 true, og 50 (.bin .eql .other true (.t 49) (.c (.str [104, 101, 108, 108, 111]))) 46 true, oo 51 (.pick (.t 46) (.t 50) (.c (.bool false))), mv 0 51]) .ret)))))⟩
theorem fn14 : AA.fn 14 = some b14 := by kernel_rfl
theorem np14 : AA.prim 14 = none := rfl
end Go.Abs
namespace Go.Abs
open Am
set_option maxRecDepth 10000
theorem s28 : callT AA 28 [] [] = some (.ptr 0 0, [(0, .var [.lit (.slice none 0 0)])]) := by
 refine enter fn28 np28 rfl ?_
 have gg:=trivial;repeat' first|simp (maxSteps:=2000000) (disch:=omega) only [gg,b28,go_sem]|(refine br ?_ ?_<;>intro gg<;>try omega)|(apply And.intro;focus omega)|omega
def zeros1024 : List UInt8 := List.replicate 1024 0
theorem zeros1024_eq : List.replicate 1024 (0 : UInt8) = zeros1024 := rfl
theorem s32 (x : AVal) (hx : x = .lit (.slice none 0 0)) : callT AA 32 [.ptr 0 0] [(0, .var [x])] = some (.own 1 1 0 1024 false, [(0, .var [.lit (.slice none 0 0)]), (1, .row (zeros1024.map .byte) 1)]) := by
 subst hx
 refine enter fn32 np32 rfl ?_
 have gg:=trivial;repeat' first|simp (maxSteps:=2000000) (disch:=omega) only [gg,b32,zeros1024_eq,go_sem]|(refine br ?_ ?_<;>intro gg<;>try omega)|(apply And.intro;focus omega)|omega
theorem s32o (es : List AVal) (n : Nat) : callT AA 32 [.ptr 0 0] [(0, .var [.own 1 8 0 n false]), (1, .row es 8)] = some (.own 2 1 0 1024 false, [(0, .var [.lit (.slice none 0 0)]), (1, .row es 8), (2, .row (zeros1024.map .byte) 1)]) := by
 refine enter fn32 np32 rfl ?_
 have gg:=trivial;repeat' first|simp (maxSteps:=2000000) (disch:=omega) only [gg,b32,zeros1024_eq,go_sem]|(refine br ?_ ?_<;>intro gg<;>try omega)|(apply And.intro;focus omega)|omega
/-- nothing is added to nothing -/
theorem s64n : callT AA 64 [.lit (.slice none 0 0)] [] = some (.lit (.slice none 0 0), []) := by
 refine enter fn64 np64 rfl ?_
 have gg:=trivial;repeat' first|simp (maxSteps:=2000000) (disch:=omega) only [gg,b64,go_sem]|(refine br ?_ ?_<;>intro gg<;>try omega)|(apply And.intro;focus omega)|omega
theorem s29e : callT AA 29 [.ptr 0 0, .lit (.slice none 0 0)] [(0, .var [.lit (.slice none 0 0)])] = some (.tuple [.lit (.slice none 0 0), .lit .nilIface], [(0, .var [.lit (.slice none 0 0)])]) := by
 refine enter fn29 np29 rfl ?_
 have gg:=trivial;repeat' first|simp (maxSteps:=2000000) (disch:=omega) only [gg,b29,s64n,s65n,s31n,lp_head,go_sem]|(refine br ?_ ?_<;>intro gg<;>try omega)|(apply And.intro;focus omega)|omega
 refine hd_of (by unfold l29_0; rfl) ?_
 have gg:=trivial;repeat' first|simp (maxSteps:=2000000) (disch:=omega) only [gg,r29_0,go_sem]|(refine br ?_ ?_<;>intro gg<;>try omega)|(apply And.intro;focus omega)|omega
theorem s17n : callT AA 17 [.lit (.slice none 0 0)] [] = some (.tuple [.own 0 1 0 1024 false, .lit .nilIface], [(0, .row (zeros1024.map .byte) 1)]) := by
 have e : (zeros1024.map AVal.byte).take 1024 = zeros1024.map .byte := List.take_of_length_le (by simp [zeros1024])
 have lz : zeros1024.length = 1024 := by simp [zeros1024]
 have nz : (zeros1024.map AVal.byte).isEmpty = false := by
  cases hz : zeros1024 with
  | nil => rw [hz] at lz; cases lz
  | cons x y => rfl
 have h0 := s32 _ rfl
 refine enter fn17 np17 rfl ?_
 have gg:=trivial;repeat' first|simp (maxSteps:=2000000) (disch:=omega) only [gg,b17,s28,s29e,h0,e,lz,nz,go_sem]|(refine br ?_ ?_<;>intro gg<;>try omega)|(apply And.intro;focus omega)|omega
def outL : Nat → List Ent → List UInt8
 | _, [] => []
 | i, e :: r => pieceL i e ++ outL (i + 1) r
def PiecesOk : Nat → List Ent → Prop
 | _, [] => True
 | i, e :: r => EntB e ∧ e.data.l.length ≤ 1000000 ∧ pieceOk i e ∧ PiecesOk (i + 1) r
theorem pieceL_le {n : Int} {e : Ent} (hd : e.data.l.length ≤ 1000000) (hok : pieceOk n e) : 512 ≤ (pieceL n e).length ∧ (pieceL n e).length ≤ 1100000 := by
 have h1 := padL_length e.data.l
 have h2 := padN_lt e.data.l.length
 have h3 := encB_length (hdrE e (recsE e))
 have h4 : (preE n e).length ≤ 68000 := by
  unfold preE
  by_cases h0 : recsE e = []
  ·rw [if_pos h0]; simp
  ·rw [if_neg h0]
   obtain ⟨body, hb⟩ := Option.isSome_iff_exists.1 (hok.2 h0).1
   have h5 := paxE_le _ _ _ _ (by simp) hb
   have h6 : bodyE e = body := by unfold bodyE; rw [hb]; rfl
   have h7 := padL_length body
   have h8 := padN_lt body.length
   have h9 := encB_length (hdX n body)
   rw [h6, List.length_append]
   omega
 unfold pieceL
 simp only [List.length_append]
 omega
theorem h29 (c tmp : Bool) (t : List Ent) (es : List AVal) (m : Nat) (ht : t.length ≤ 200) (r0 : List UInt8) : ∀ (rest done : List Ent) (out : List UInt8) (n i : Int) (q : Nat), t = done ++ rest → i = done.length → n = t.length → q = out.length → out.length ≤ 3000000 * done.length → PiecesOk done.length rest → r0 = out ++ outL done.length rest →
  HD AA 1 [0, 4, 5, 6, 9, 33, 34, 35] l29_0 ⟨[.ptr 0 0, .junk, .junk, .junk, .lit (.slice none 0 0), .lit .nilIface, .own 1 8 0 m false, .junk, .junk, .own 2 1 0 q false, .junk, .junk, .junk, .junk, .junk, .junk, .junk, .junk, .junk, .junk, .junk, .junk, .junk, .junk, .junk, .junk, .junk, .junk, .junk, .junk, .junk, .junk, .junk, .view 8 (t.map Ent.av) c tmp, .int .i64 n, .int .i64 i, .junk, .junk, .junk, .junk, .junk, .junk, .junk, .junk, .junk, .junk, .junk, .junk, .junk, .junk, .junk, .junk, .junk, .junk, .junk, .junk, .junk, .junk, .junk, .junk, .junk, .junk, .junk, .junk], [(0, .var [.lit (.slice none 0 0)]), (1, .row es 8), (2, .row (out.map .byte) 1)], 4⟩ [.blk 0, .code r29_0] (Fin [(4, none), (5, none)] 1 (.tuple [.own 2 1 0 r0.length false, .lit .nilIface]) [(0, .var [.own 1 8 0 m false]), (1, .row es 8), (2, .row (r0.map .byte) 1)])
 | [], done, out, n, i, q, h1, h2, h3, h4, h5, h6, h7 => by
  subst h1
  simp at h3
  refine hd_of (by unfold l29_0; rfl) ?_
  simp only [outL, List.append_nil] at h7
  rw [h7]
  have gg:=trivial;repeat' first|simp (maxSteps:=2000000) (disch:=omega) only [gg,r29_0,go_sem]|(refine br ?_ ?_<;>intro gg<;>try omega)|(apply And.intro;focus omega)|omega
  simp [h4]
 | e :: rest, done, out, n, i, q, h1, h2, h3, h4, h5, h6, h7 => by
  have hg0 : t[i.toNat]? = some e := by
   rw [h1]
   simp [h2]
  have hl : i.toNat < t.length := by rw [h1]; simp; omega
  obtain ⟨hb, hd, hok, hrest⟩ := h6
  have hp := s66 (done.length : Int) (by omega) (by rw [h1] at ht; simp at ht; omega) e hb (by omega) hok
  have et : (out.map AVal.byte).take q = out.map .byte := List.take_of_length_le (by simp; omega)
  have hpl := pieceL_le hd hok
  simp only [outL] at h7
  have h7' : r0 = (out ++ pieceL (done.length : Int) e) ++ outL (done.length + 1) rest := by rw [h7]; simp
  generalize hP : pieceL (done.length : Int) e = P at *
  have ih := h29 c tmp t es m ht r0 rest (done ++ [e]) (out ++ P) n (i + 1) (q + P.length) (by simp [h1]) (by simp; omega) h3 (by simp; omega) (by simp; omega) (by simpa using hrest) (by simpa using h7')
  simp only [Ent.av] at hp
  rw [← h2] at hp
  have hdl : done.length ≤ 200 := by rw [h1] at ht; simp at ht; omega
  refine hd_of (by unfold l29_0; rfl) ?_
  have gg:=trivial;repeat' first|simp (maxSteps:=2000000) (disch:=omega) only [gg,hp,hg0,et,lp_head,← List.map_append,go_sem]|(refine br ?_ ?_<;>intro gg<;>try omega)|(apply And.intro;focus omega)|omega
theorem cp_isTmp {b : BS} : b.cp.isTmp = false := by cases b <;> rfl
theorem entOk_cp {e : Ent} (h : EntOk e) : EntOk e.cp := ⟨h.1, h.2.1, by show e.data.cp.l.length ≤ _; rw [cp_l]; exact h.2.2.1, cp_isTmp⟩
/-- entries that are no tree -/
theorem s29no (c tmp : Bool) (e : Ent) (r : List Ent) (ht : (e :: r).length ≤ 1000000) (hq : ∀ x ∈ e :: r, EntOk x) (he : (checkT ((e :: r).map Ent.cp)).2 ≠ 0) (hd : ∀ x ∈ e :: r, x.data.l.length ≤ 281474976710656 / 4) :
  callT AA 29 [.ptr 0 0, .view 8 ((e :: r).map Ent.av) c tmp] [(0, .var [.lit (.slice none 0 0)])] = some (.tuple [.lit (.slice none 0 0), errV (checkT ((e :: r).map Ent.cp)).2], [(0, .var [.lit (.slice none 0 0)])]) := by
 have h65 := s65 c tmp e r ht hd
 have h31 := fun cl tm => s31 cl tm ((e :: r).map Ent.cp) (by
  intro x hx
  obtain ⟨y, hy, rfl⟩ := List.mem_map.1 hx
  exact entOk_cp (hq y hy)) (by rw [List.length_map]; omega)
 rw [← cav_eq] at h31
 generalize hC : checkT ((e :: r).map Ent.cp) = C at *
 have hv : errV C.2 = .iface 58 (.int .i64 C.2) := by unfold errV; rw [if_neg he]
 rw [hv] at h31 ⊢
 refine enter fn29 np29 rfl ?_
 have hne : ((e :: r).map Ent.cav).isEmpty = false := rfl
 generalize e :: r = t at *
 have gg:=trivial;repeat' first|simp (maxSteps:=2000000) (disch:=omega) only [gg,b29,s64n,h65,h31,hne,go_sem]|(refine br ?_ ?_<;>intro gg<;>try omega)|(apply And.intro;focus omega)|omega
theorem s29 (c tmp : Bool) (e : Ent) (r : List Ent) (ht : (e :: r).length ≤ 200) (hq : ∀ x ∈ e :: r, EntOk x) (he : (checkT ((e :: r).map Ent.cp)).2 = 0) (hok : PiecesOk 0 (e :: r)) :
  callT AA 29 [.ptr 0 0, .view 8 ((e :: r).map Ent.av) c tmp] [(0, .var [.lit (.slice none 0 0)])] = some (.tuple [.own 2 1 0 (outL 0 (e :: r)).length false, .lit .nilIface], [(0, .var [.own 1 8 0 (e :: r).length false]), (1, .row ((e :: r).map Ent.cav) 8), (2, .row ((outL 0 (e :: r)).map .byte) 1)]) := by
 have hd : ∀ x ∈ e :: r, x.data.l.length ≤ 281474976710656 / 4 := by
  have key : ∀ (l : List Ent) (i : Nat), PiecesOk i l → ∀ x ∈ l, x.data.l.length ≤ 281474976710656 / 4 := by
   intro l
   induction l with
   | nil => intro i _ x hx; cases hx
   | cons a b ih =>
    intro i h x hx
    rcases List.mem_cons.1 hx with rfl | hx
    ·exact Nat.le_trans h.2.1 (by decide)
    ·exact ih (i + 1) h.2.2.2 x hx
  exact key _ 0 hok
 have h65 := s65 c tmp e r (by omega) hd
 have h31 := fun cl tm => s31 cl tm ((e :: r).map Ent.cp) (by
  intro x hx
  obtain ⟨y, hy, rfl⟩ := List.mem_map.1 hx
  exact entOk_cp (hq y hy)) (by rw [List.length_map]; omega)
 rw [← cav_eq] at h31
 have hv : errV (checkT ((e :: r).map Ent.cp)).2 = .lit .nilIface := by unfold errV; rw [if_pos he]
 rw [hv] at h31
 have hne : ((e :: r).map Ent.cav).isEmpty = false := rfl
 obtain ⟨hb, hde, hoke, hrest⟩ := hok
 have hp := s66 (0 : Int) (by omega) (by omega) e hb (by omega) hoke
 have hpl := pieceL_le (n := (0 : Int)) hde hoke
 have hh := h29 c tmp (e :: r) ((e :: r).map Ent.cav) (e :: r).length ht (outL 0 (e :: r)) r [e] (pieceL 0 e) (e :: r).length 1 (pieceL 0 e).length rfl rfl rfl rfl (by simp only [List.length_singleton]; omega) hrest (by simp [outL])
 have hPn : ((pieceL 0 e).map AVal.byte).isEmpty = false := by
  cases hz : pieceL 0 e with
  | nil => rw [hz] at hpl; simp at hpl
  | cons x y => rfl
 have hg0 : (e :: r)[0]? = some e := rfl
 have hl : 0 < (e :: r).length := by simp
 simp only [Ent.av] at hp
 refine enter fn29 np29 rfl ?_
 generalize outL 0 (e :: r) = O at *
 generalize (pieceL 0 e) = P at *
 generalize (checkT ((e :: r).map Ent.cp)).1 = cp at *
 generalize e :: r = t at *
 have gg:=trivial;repeat' first|simp (maxSteps:=2000000) (disch:=omega) only [gg,b29,s64n,h65,h31,hne,lp_head,go_sem]|(refine br ?_ ?_<;>intro gg<;>try omega)|(apply And.intro;focus omega)|omega
 refine hd_of (by unfold l29_0; rfl) ?_
 have gg:=trivial;repeat' first|simp (maxSteps:=2000000) (disch:=omega) only [gg,hp,hg0,hPn,lp_head,go_sem]|(refine br ?_ ?_<;>intro gg<;>try omega)|(apply And.intro;focus omega)|omega
end Go.Abs
namespace Go.Abs
open Am
set_option maxRecDepth 10000
theorem zeros1024_length : zeros1024.length = 1024 := by simp [zeros1024]
theorem zeros1024_ne : (zeros1024.map AVal.byte).isEmpty = false := by
 cases hz : zeros1024 with
 | nil => have := zeros1024_length; rw [hz] at this; cases this
 | cons x y => rfl
theorem zeros1024_take : (zeros1024.map AVal.byte).take 1024 = zeros1024.map .byte := List.take_of_length_le (by simp [zeros1024])
theorem s17no (c tmp : Bool) (e : Ent) (r : List Ent) (ht : (e :: r).length ≤ 1000000) (hq : ∀ x ∈ e :: r, EntOk x) (he : (checkT ((e :: r).map Ent.cp)).2 ≠ 0) (hd : ∀ x ∈ e :: r, x.data.l.length ≤ 281474976710656 / 4) :
  callT AA 17 [.view 8 ((e :: r).map Ent.av) c tmp] [] = some (.tuple [.lit (.slice none 0 0), errV (checkT ((e :: r).map Ent.cp)).2], []) := by
 have h1 := s29no c tmp e r ht hq he hd
 have hv : errV (checkT ((e :: r).map Ent.cp)).2 = .iface 58 (.int .i64 (checkT ((e :: r).map Ent.cp)).2) := by unfold errV; rw [if_neg he]
 rw [hv] at h1 ⊢
 generalize (checkT ((e :: r).map Ent.cp)).2 = E at *
 generalize e :: r = t at *
 refine enter fn17 np17 rfl ?_
 have gg:=trivial;repeat' first|simp (maxSteps:=2000000) (disch:=omega) only [gg,b17,s28,h1,go_sem]|(refine br ?_ ?_<;>intro gg<;>try omega)|(apply And.intro;focus omega)|omega
theorem outL_le : ∀ (t : List Ent) (i : Nat), PiecesOk i t → (outL i t).length ≤ 1100000 * t.length
 | [], i, _ => by simp [outL]
 | e :: r, i, h => by
  have h1 := pieceL_le h.2.1 h.2.2.1
  have h2 := outL_le r (i + 1) h.2.2.2
  simp only [outL, List.length_append, List.length_cons]
  omega
/-- a tree's archive -/
def writeL (t : List Ent) : List UInt8 := outL 0 t ++ zeros1024
theorem s17 (c tmp : Bool) (e : Ent) (r : List Ent) (ht : (e :: r).length ≤ 200) (hq : ∀ x ∈ e :: r, EntOk x) (he : (checkT ((e :: r).map Ent.cp)).2 = 0) (hok : PiecesOk 0 (e :: r)) :
  callT AA 17 [.view 8 ((e :: r).map Ent.av) c tmp] [] = some (.tuple [.own 0 1 0 (writeL (e :: r)).length false, .lit .nilIface], [(0, .row ((writeL (e :: r)).map .byte) 1)]) := by
 have h1 := s29 c tmp e r ht hq he hok
 have h2 := s32o ((e :: r).map Ent.cav) (e :: r).length
 have h3 := outL_le _ 0 hok
 unfold writeL
 generalize outL 0 (e :: r) = O at *
 generalize e :: r = t at *
 have h4 : (O.map AVal.byte).take O.length = O.map .byte := List.take_of_length_le (by simp)
 refine enter fn17 np17 rfl ?_
 have gg:=trivial;repeat' first|simp (maxSteps:=2000000) (disch:=omega) only [gg,b17,s28,h1,h2,h4,zeros1024_take,zeros1024_length,zeros1024_ne,List.map_append,go_sem]|(refine br ?_ ?_<;>intro gg<;>try omega)|(apply And.intro;focus omega)|omega
end Go.Abs
namespace Go.Abs
open Am
set_option maxRecDepth 10000
theorem s62 (a b : BS) : callT AA 62 [a.av, b.av] [] = some (.bool (decide (a.l = b.l)), []) := by
 refine enter fn62 np62 rfl ?_
 have gg:=trivial;repeat' first|simp (maxSteps:=2000000) (disch:=omega) only [gg,b62,go_sem]|(refine br ?_ ?_<;>intro gg<;>try omega)|(apply And.intro;focus omega)|omega
theorem s193 (b : BS) (c : UInt8) : callT AA 193 [b.av, .int .u8 c.toNat] [] = some (.int .i64 (Lib.indexByte b.l c), []) := by
 have e : ((c.toNat : Int).toNat.toUInt8) = c := by simp
 refine enter fn193 np193 rfl ?_
 have gg:=trivial;repeat' first|simp (maxSteps:=2000000) (disch:=omega) only [gg,b193,e,go_sem]|(refine br ?_ ?_<;>intro gg<;>try omega)|(apply And.intro;focus omega)|omega
@[go_sem high] theorem ixa_one {v : AVal} {c t : Bool} {k : IntKind} {h : Heap} : ixaV 1 (.view 1 [v] c t) (.int k 0) h = some (.rptr v.cells t, h) := rfl
@[go_sem high] theorem ldE_one {v : AVal} {sz : Nat} {agg : Bool} {h : Heap} : ldE [v] 0 0 sz agg h = (part v.cells 0 sz agg).map (·, h) := rfl
theorem s152 (b : BS) (c t : Bool) (x : UInt8) (z : Int) (hz : (x.toNat : Int) = z) : callT AA 152 [b.av, .view 1 [.int .u8 z] c t] [] = some (.int .i64 (Lib.indexByte b.l x), []) := by
 have h := s193 b x
 rw [hz] at h
 refine enter fn152 np152 rfl ?_
 have gg:=trivial;repeat' first|simp (maxSteps:=2000000) (disch:=omega) only [gg,b152,h,go_sem]|(refine br ?_ ?_<;>intro gg<;>try omega)|(apply And.intro;focus omega)|omega
/-- what stands ahead of a byte -/
def aheadOf (x : UInt8) : List UInt8 → List UInt8
 | [] => []
 | y :: r => if y = x then [] else y :: aheadOf x r
theorem aheadOf_eq (x : UInt8) : ∀ l : List UInt8, aheadOf x l = if 0 ≤ Lib.indexByte l x then l.take (Lib.indexByte l x).toNat else l
 | [] => by simp [aheadOf, Lib.indexByte]
 | y :: r => by
  have ih := aheadOf_eq x r
  have hge := Lib.indexByte_ge r x
  unfold aheadOf Lib.indexByte
  by_cases h : y = x
  ·simp [h]
  ·have h' : ¬ (y == x) = true := by simpa using h
   rw [if_neg h, if_neg h', ih]
   by_cases h0 : 0 ≤ Lib.indexByte r x
   ·have h1 : ¬ Lib.indexByte r x < 0 := by omega
    have e : (Lib.indexByte r x + 1).toNat = (Lib.indexByte r x).toNat + 1 := by omega
    have h2 : ¬ (Lib.indexByte r x == -1) = true := by simp; omega
    rw [if_pos h0, if_neg h2, if_pos (by omega), e, List.take_succ_cons]
   ·have h1 : Lib.indexByte r x < 0 := by omega
    have h2 : (Lib.indexByte r x == -1) = true := by simp; omega
    rw [if_neg h0, if_pos h2, if_neg (by omega)]
theorem s114 (b : BS) (x : UInt8) (z : Int) (hz : (x.toNat : Int) = z) (c t : Bool) (hb : b.l.length ≤ 1000000000) (h0 : 0 ≤ Lib.indexByte b.l x) : callT AA 114 [b.av, .view 1 [.int .u8 z] c t] [] = some (.tuple [(b.sl 0 (Lib.indexByte b.l x).toNat).av, (b.sl (Lib.indexByte b.l x + 1).toNat b.l.length).av, .bool true], []) := by
 have h := s152 b c t x z hz
 have hlt := indexByte_lt (s := b.l) (c := x)
 refine enter fn114 np114 rfl ?_
 generalize Lib.indexByte b.l x = q at *
 have gg:=trivial;repeat' first|simp (maxSteps:=2000000) (disch:=omega) only [gg,b114,h,go_sem]|(refine br ?_ ?_<;>intro gg<;>try omega)|(apply And.intro;focus omega)|omega
theorem s114n (b : BS) (x : UInt8) (z : Int) (hz : (x.toNat : Int) = z) (c t : Bool) (h0 : ¬ 0 ≤ Lib.indexByte b.l x) : callT AA 114 [b.av, .view 1 [.int .u8 z] c t] [] = some (.tuple [b.av, .lit (.slice none 0 0), .bool false], []) := by
 have h := s152 b c t x z hz
 refine enter fn114 np114 rfl ?_
 generalize Lib.indexByte b.l x = q at *
 have gg:=trivial;repeat' first|simp (maxSteps:=2000000) (disch:=omega) only [gg,b114,h,go_sem]|(refine br ?_ ?_<;>intro gg<;>try omega)|(apply And.intro;focus omega)|omega
theorem s114o (b : BS) (x : UInt8) (z : Int) (hz : (x.toNat : Int) = z) (hb : b.l.length ≤ 1000000000) (h0 : 0 ≤ Lib.indexByte b.l x) : callT AA 114 [b.av, .own 0 1 0 1 false] [(0, .row [.int .u8 z] 1)] = some (.tuple [(b.sl 0 (Lib.indexByte b.l x).toNat).av, (b.sl (Lib.indexByte b.l x + 1).toNat b.l.length).av, .bool true], [(0, .row [.int .u8 z] 1)]) := by
 have h := fun c t => s152 b c t x z hz
 have hlt := indexByte_lt (s := b.l) (c := x)
 refine enter fn114 np114 rfl ?_
 generalize Lib.indexByte b.l x = q at *
 have gg:=trivial;repeat' first|simp (maxSteps:=2000000) (disch:=omega) only [gg,b114,h,List.take_succ_cons,List.take_zero,go_sem]|(refine br ?_ ?_<;>intro gg<;>try omega)|(apply And.intro;focus omega)|omega
theorem s114on (b : BS) (x : UInt8) (z : Int) (hz : (x.toNat : Int) = z) (h0 : ¬ 0 ≤ Lib.indexByte b.l x) : callT AA 114 [b.av, .own 0 1 0 1 false] [(0, .row [.int .u8 z] 1)] = some (.tuple [b.av, .lit (.slice none 0 0), .bool false], [(0, .row [.int .u8 z] 1)]) := by
 have h := fun c t => s152 b c t x z hz
 refine enter fn114 np114 rfl ?_
 generalize Lib.indexByte b.l x = q at *
 have gg:=trivial;repeat' first|simp (maxSteps:=2000000) (disch:=omega) only [gg,b114,h,List.take_succ_cons,List.take_zero,go_sem]|(refine br ?_ ?_<;>intro gg<;>try omega)|(apply And.intro;focus omega)|omega
/-- a text field -/
def textF (l : List UInt8) (at_ n : Nat) : List UInt8 := aheadOf 0 ((l.drop at_).take n)
theorem s68 (b : BS) (p n : Int) (at_ k : Nat) (h1 : p = at_) (h2 : n = k) (h3 : at_ + k ≤ b.l.length) (hb : b.l.length ≤ 1000000000) : callT AA 68 [b.av, .int .i64 p, .int .i64 n] [] = some (.str (textF b.l at_ k), []) := by
 have hl : (b.sl p.toNat (p + n).toNat).l = (b.l.drop at_).take k := by
  rw [BS.sl_l]
  congr 1
  ·omega
  ·congr 1; omega
 have hc := s114o (b.sl p.toNat (p + n).toNat) 0 0 rfl
 have hn := s114on (b.sl p.toNat (p + n).toNat) 0 0 rfl
 have ha := aheadOf_eq 0 (b.sl p.toNat (p + n).toNat).l
 rw [hl] at ha hc hn
 have ht : textF b.l at_ k = aheadOf 0 ((b.l.drop at_).take k) := rfl
 rw [ht, ha]
 refine enter fn68 np68 rfl ?_
 by_cases h0 : 0 ≤ Lib.indexByte ((b.l.drop at_).take k) 0
 ·have hc := hc (by simp; omega) h0
  rw [if_pos h0]
  generalize Lib.indexByte ((b.l.drop at_).take k) 0 = q at *
  have gg:=trivial;repeat' first|simp (maxSteps:=2000000) (disch:=omega) only [gg,b68,hc,go_sem]|(refine br ?_ ?_<;>intro gg<;>try omega)|(apply And.intro;focus omega)|omega
  rw [BS.sl_l, hl]
  simp
 ·have hn := hn h0
  rw [if_neg h0]
  have gg:=trivial;repeat' first|simp (maxSteps:=2000000) (disch:=omega) only [gg,b68,hn,go_sem]|(refine br ?_ ?_<;>intro gg<;>try omega)|(apply And.intro;focus omega)|omega
  rw [hl]
end Go.Abs
namespace Go.Abs
open Am
set_option maxRecDepth 10000
theorem and7u {x : Int} (h0 : 0 ≤ x) (h1 : x ≤ 255) : ((BitVec.ofInt 8 x &&& BitVec.ofInt 8 7).toNat : Int) = x % 8 := by
 rw [BitVec.toNat_and]
 have e1 : (BitVec.ofInt 8 x).toNat = x.toNat := by
  rw [BitVec.toNat_ofInt]
  congr 1
  omega
 have e2 : (BitVec.ofInt 8 7).toNat = 2 ^ 3 - 1 := by rfl
 rw [e1, e2, Nat.and_two_pow_sub_one_eq_mod]
 omega
@[go_sem high] theorem aBin_and7b {e : EqK} {c : Bool} {a : UInt8} : aBin .and e c (.int .u8 (a.toNat : Int)) (.int .u8 7) = some (.int .u8 ((a.toNat : Int) % 8)) := by
 have ha := a.toNat_lt
 rw [aBin_and]
 have e : ((BitVec.ofInt IntKind.u8.bits (a.toNat : Int) &&& BitVec.ofInt IntKind.u8.bits 7).toNat : Int) = (a.toNat : Int) % 8 := and7u (by omega) (by omega)
 rw [e, wrap_u8 (by omega) (by omega)]
theorem or7 {x y : Int} (h0 : 0 ≤ x) (h1 : x ≤ 1000000000000000000) (h2 : 0 ≤ y) (h3 : y < 8) : ((BitVec.ofInt 64 (x * 8) ||| BitVec.ofInt 64 y).toNat : Int) = x * 8 + y := by
 have e1 : (BitVec.ofInt 64 (x * 8)).toNat = 2 ^ 3 * x.toNat := by
  rw [BitVec.toNat_ofInt]
  omega
 have e2 : (BitVec.ofInt 64 y).toNat = y.toNat := by
  rw [BitVec.toNat_ofInt]
  omega
 rw [BitVec.toNat_or, e1, e2, ← Nat.two_pow_add_eq_or_of_lt (by omega)]
 omega
@[go_sem high] theorem aBin_or7 {e : EqK} {c : Bool} {x y : Int} (h0 : 0 ≤ x) (h1 : x ≤ 1000000000000000000) (h2 : 0 ≤ y) (h3 : y < 8) : aBin .or e c (.int .i64 (x * 8)) (.int .i64 y) = some (.int .i64 (x * 8 + y)) := by
 rw [aBin_or]
 have e : ((BitVec.ofInt IntKind.i64.bits (x * 8) ||| BitVec.ofInt IntKind.i64.bits y).toNat : Int) = x * 8 + y := or7 h0 h1 h2 h3
 rw [e, wrap_i64 (by omega) (by omega)]
@[go_sem high] theorem aBin_shl3 {e : EqK} {c : Bool} {k' : IntKind} {x : Int} (h0 : 0 ≤ x) (h1 : x ≤ 1000000000000000000) : aBin .shl e c (.int .i64 x) (.int k' 3) = some (.int .i64 (x * 8)) := by
 rw [aBin_shl]
 have e : x * 2 ^ (min (3 : Int).toNat IntKind.i64.bits) = x * 8 := rfl
 rw [if_neg (by omega), e, wrap_i64 (by omega) (by omega)]
/-- octal digits -/
def numF : Int → List UInt8 → Int
 | acc, [] => acc
 | acc, c :: r => numF (acc * 8 + (c.toNat : Int) % 8) r
theorem pow8_pos (k : Nat) : (1 : Int) ≤ 8 ^ k := by
 induction k with
 | zero => simp
 | succ k ih => rw [Int.pow_succ]; omega
theorem h69 (s : BS) (hs : s.l.length ≤ 11) (r0 : Int) : ∀ (rest done : List UInt8) (acc n i : Int), s.l = done ++ rest → i = done.length → n = s.l.length → 0 ≤ acc → (acc + 1) * 8 ^ rest.length ≤ 8589934592 → r0 = numF acc rest →
  HD AA 0 [6, 7, 15, 16, 17] l69_0 ⟨[.junk, .junk, .junk, .junk, .junk, .junk, .int .i64 0, .int .i64 acc, .junk, .junk, .junk, .junk, .junk, .junk, .junk, s.av, .int .i64 n, .int .i64 i, .junk, .junk, .junk, .junk, .junk, .junk, .junk, .junk, .junk, .junk, .junk], [], 0⟩ [.blk 0, .code r69_0] (Fin [(6, none)] 0 (.int .i64 r0) [])
 | [], done, acc, n, i, h1, h2, h3, h4, h5, h6 => by
  rw [h1] at h3
  simp at h3
  refine hd_of (by unfold l69_0; rfl) ?_
  have gg:=trivial;repeat' first|simp (maxSteps:=2000000) (disch:=omega) only [gg,r69_0,go_sem]|(refine br ?_ ?_<;>intro gg<;>try omega)|(apply And.intro;focus omega)|omega
  simp [h6, numF]
 | x :: r, done, acc, n, i, h1, h2, h3, h4, h5, h6 => by
  have hg0 : s.l[i.toNat]? = some x := by
   rw [h1]
   simp [h2]
  have hl : i.toNat < s.l.length := by rw [h1]; simp; omega
  have hx := x.toNat_lt
  have hp := pow8_pos r.length
  simp only [List.length_cons, Int.pow_succ] at h5
  have h5' : (acc + 1) * 8 * 8 ^ r.length ≤ 8589934592 := by
   rw [Int.mul_assoc, Int.mul_comm 8]
   exact h5
  have h7 : (acc + 1) * 8 ≤ 8589934592 := by
   refine Int.le_trans ?_ h5'
   have := Int.mul_le_mul_of_nonneg_left hp (show (0 : Int) ≤ (acc + 1) * 8 by omega)
   omega
  have h8 : (acc * 8 + (x.toNat : Int) % 8 + 1) * 8 ^ r.length ≤ 8589934592 := by
   refine Int.le_trans (Int.mul_le_mul_of_nonneg_right ?_ (by omega)) h5'
   omega
  have ih := h69 s hs r0 r (done ++ [x]) (acc * 8 + (x.toNat : Int) % 8) n (i + 1) (by simp [h1]) (by first | omega | (simp; omega) | (simp; done)) h3 (by omega) h8 h6
  refine hd_of (by unfold l69_0; rfl) ?_
  clear h5 h5' h8 hp h6
  have gg:=trivial;repeat' first|simp (maxSteps:=2000000) (disch:=omega) only [gg,hg0,lp_head,go_sem]|(refine br ?_ ?_<;>intro gg<;>try omega)|(apply And.intro;focus omega)|omega
theorem s69 (b : BS) (p n : Int) (at_ k : Nat) (h1 : p = at_) (h2 : n = k) (hk : k ≤ 11) (h3 : at_ + k ≤ b.l.length) (hb : b.l.length ≤ 1000000000) : callT AA 69 [b.av, .int .i64 p, .int .i64 n] [] = some (.int .i64 (numF 0 ((b.l.drop at_).take k)), []) := by
 have hl : (b.sl p.toNat (p + n).toNat).l = (b.l.drop at_).take k := by
  rw [BS.sl_l]
  congr 1
  ·omega
  ·congr 1; omega
 have hlen : ((b.l.drop at_).take k).length = k := by simp; omega
 refine enter fn69 np69 rfl ?_
 have gg:=trivial;repeat' first|simp (maxSteps:=2000000) (disch:=omega) only [gg,b69,lp_head,go_sem]|(refine br ?_ ?_<;>intro gg<;>try omega)|(apply And.intro;focus omega)|omega
 refine h69 (b.sl p.toNat (p + n).toNat) (by rw [hl, hlen]; exact hk) _ _ [] 0 _ 0 (by rw [hl]; rfl) rfl rfl (by omega) ?_ rfl
 rw [hlen]
 have h8 : ∀ d : Nat, k + d = 11 → (8 : Int) ^ k * 8 ^ d = 8589934592 := by
  intro d hd
  rw [← Int.pow_add, hd]
  rfl
 have h9 := h8 (11 - k) (by omega)
 have h10 := pow8_pos (11 - k)
 have h11 := pow8_pos k
 rw [← h9]
 have := Int.mul_le_mul_of_nonneg_left h10 (show (0 : Int) ≤ 8 ^ k by omega)
 omega
end Go.Abs
namespace Go.Abs
open Am
set_option maxRecDepth 10000
def hd0 : Hd := ⟨[], 0, 0, 0, 0, 0, 0, []⟩
/-- what a block says -/
def decH (l : List UInt8) : Hd :=
 ⟨if textF l 345 155 = [] then textF l 0 100 else textF l 345 155 ++ [47] ++ textF l 0 100, numF 0 ((l.drop 100).take 7), numF 0 ((l.drop 108).take 7), numF 0 ((l.drop 116).take 7), numF 0 ((l.drop 124).take 11), numF 0 ((l.drop 136).take 11), l.getD 156 0, textF l 157 100⟩
def decOk (l : List UInt8) : Bool := encOk (decH l) && decide (encB (decH l) = l)
theorem aheadOf_le (x : UInt8) : ∀ l : List UInt8, (aheadOf x l).length ≤ l.length
 | [] => by simp [aheadOf]
 | y :: r => by
  have := aheadOf_le x r
  unfold aheadOf
  split <;> simp <;> omega
theorem textF_le (l : List UInt8) (a n : Nat) : (textF l a n).length ≤ n := by
 have := aheadOf_le 0 ((l.drop a).take n)
 unfold textF
 simp at this
 omega
theorem s62v (l : List UInt8) (c t : Bool) (b : BS) : callT AA 62 [.view 1 (l.map .byte) c t, b.av] [] = some (.bool (decide (l = b.l)), []) := s62 (.mk c t l) b
set_option maxHeartbeats 4000000 in
theorem s34 (b : BS) (h : b.l.length = 512) : callT AA 34 [b.av] [] = some (if decOk b.l = true then .tuple [(decH b.l).av, .lit .nilIface] else .tuple [hd0.av, .iface 58 (.int .i64 14)], []) := by
 have t1 := s68 b 0 100 0 100 rfl rfl (by omega) (by omega)
 have t2 := s68 b 157 100 157 100 rfl rfl (by omega) (by omega)
 have t3 := s68 b 345 155 345 155 rfl rfl (by omega) (by omega)
 have n1 := s69 b 100 7 100 7 rfl rfl (by omega) (by omega) (by omega)
 have n2 := s69 b 108 7 108 7 rfl rfl (by omega) (by omega) (by omega)
 have n3 := s69 b 116 7 116 7 rfl rfl (by omega) (by omega) (by omega)
 have n4 := s69 b 124 11 124 11 rfl rfl (by omega) (by omega) (by omega)
 have n5 := s69 b 136 11 136 11 rfl rfl (by omega) (by omega) (by omega)
 have l1 := textF_le b.l 0 100
 have l2 := textF_le b.l 157 100
 have l3 := textF_le b.l 345 155
 have hx : b.l[156]? = some (b.l.getD 156 0) := by
  rw [List.getD, List.getElem?_eq_getElem (by omega)]
  rfl
 have hH : (decH b.l).av = .agg [.str (decH b.l).path, .int .i64 (numF 0 ((b.l.drop 100).take 7)), .int .i64 (numF 0 ((b.l.drop 108).take 7)), .int .i64 (numF 0 ((b.l.drop 116).take 7)), .int .i64 (numF 0 ((b.l.drop 124).take 11)), .int .i64 (numF 0 ((b.l.drop 136).take 11)), .int .u8 (b.l.getD 156 0).toNat, .str (textF b.l 157 100)] := rfl
 have lp : (decH b.l).path.length ≤ 1000000 := by
  show (if textF b.l 345 155 = [] then textF b.l 0 100 else textF b.l 345 155 ++ [47] ++ textF b.l 0 100).length ≤ 1000000
  split
  ·omega
  ·simp; omega
 have hp : (decH b.l).path = if textF b.l 345 155 = [] then textF b.l 0 100 else textF b.l 345 155 ++ [47] ++ textF b.l 0 100 := rfl
 have ey := s70 (decH b.l) lp (by show (textF b.l 157 100).length ≤ 1000000; omega)
 have en := s70no (decH b.l) lp (by show (textF b.l 157 100).length ≤ 1000000; omega)
 have hlen := encB_length (decH b.l)
 have heq := fun c t => s62v (encB (decH b.l)) c t b
 unfold decOk
 rw [hH] at ey en ⊢
 generalize encB (decH b.l) = B at *
 generalize encOk (decH b.l) = ok at *
 generalize (decH b.l).path = P at *
 generalize textF b.l 345 155 = T3 at *
 generalize textF b.l 0 100 = T1 at *
 generalize textF b.l 157 100 = T2 at *
 generalize numF 0 ((b.l.drop 100).take 7) = N1 at *
 generalize numF 0 ((b.l.drop 108).take 7) = N2 at *
 generalize numF 0 ((b.l.drop 116).take 7) = N3 at *
 generalize numF 0 ((b.l.drop 124).take 11) = N4 at *
 generalize numF 0 ((b.l.drop 136).take 11) = N5 at *
 generalize b.l.getD 156 0 = X at *
 have hB : (B.map AVal.byte).take 512 = B.map AVal.byte := List.take_of_length_le (by simp; omega)
 refine enter fn34 np34 rfl ?_
 cases ok with
 | false =>
  have en := en rfl
  by_cases h3 : T3 = []
  ·rw [if_pos h3] at hp
   subst hp
   have gg:=trivial;repeat' first|simp (maxSteps:=2000000) (disch:=omega) only [gg,b34,t1,t2,t3,n1,n2,n3,n4,n5,hx,hB,en,decide_eq_true h3,go_sem]|(refine br ?_ ?_<;>intro gg<;>try omega)|(apply And.intro;focus omega)|omega
   rfl
  ·rw [if_neg h3] at hp
   subst hp
   have gg:=trivial;repeat' first|simp (maxSteps:=2000000) (disch:=omega) only [gg,b34,t1,t2,t3,n1,n2,n3,n4,n5,hx,hB,en,decide_eq_false h3,go_sem]|(refine br ?_ ?_<;>intro gg<;>try omega)|(apply And.intro;focus omega)|omega
   rfl
 | true =>
  have ey := ey rfl
  by_cases hq : B = b.l
  ·have heq' : ∀ c t, callT AA 62 [.view 1 (B.map .byte) c t, b.av] [] = some (.bool true, []) := by
    intro c t
    rw [heq, decide_eq_true hq]
   have hd : (true && decide (B = b.l)) = true := by rw [decide_eq_true hq]; rfl
   rw [if_pos hd]
   by_cases h3 : T3 = []
   ·rw [if_pos h3] at hp
    subst hp
    have gg:=trivial;repeat' first|simp (maxSteps:=2000000) (disch:=omega) only [gg,b34,t1,t2,t3,n1,n2,n3,n4,n5,hx,hB,ey,heq',decide_eq_true h3,go_sem]|(refine br ?_ ?_<;>intro gg<;>try omega)|(apply And.intro;focus omega)|omega
   ·rw [if_neg h3] at hp
    subst hp
    have gg:=trivial;repeat' first|simp (maxSteps:=2000000) (disch:=omega) only [gg,b34,t1,t2,t3,n1,n2,n3,n4,n5,hx,hB,ey,heq',decide_eq_false h3,go_sem]|(refine br ?_ ?_<;>intro gg<;>try omega)|(apply And.intro;focus omega)|omega
  ·have heq' : ∀ c t, callT AA 62 [.view 1 (B.map .byte) c t, b.av] [] = some (.bool false, []) := by
    intro c t
    rw [heq, decide_eq_false hq]
   have hd : ¬ (true && decide (B = b.l)) = true := by rw [decide_eq_false hq]; simp
   rw [if_neg hd]
   by_cases h3 : T3 = []
   ·rw [if_pos h3] at hp
    subst hp
    have gg:=trivial;repeat' first|simp (maxSteps:=2000000) (disch:=omega) only [gg,b34,t1,t2,t3,n1,n2,n3,n4,n5,hx,hB,ey,heq',decide_eq_true h3,go_sem]|(refine br ?_ ?_<;>intro gg<;>try omega)|(apply And.intro;focus omega)|omega
    rfl
   ·rw [if_neg h3] at hp
    subst hp
    have gg:=trivial;repeat' first|simp (maxSteps:=2000000) (disch:=omega) only [gg,b34,t1,t2,t3,n1,n2,n3,n4,n5,hx,hB,ey,heq',decide_eq_false h3,go_sem]|(refine br ?_ ?_<;>intro gg<;>try omega)|(apply And.intro;focus omega)|omega
    rfl
end Go.Abs
namespace Go.Abs
open Am
set_option maxRecDepth 10000
def hasSuf (s t : List UInt8) : Bool := decide (t.length ≤ s.length) && decide (s.drop (s.length - t.length) = t)
def cutSuf (s t : List UInt8) : List UInt8 := if hasSuf s t = true then s.take (s.length - t.length) else s
theorem s203 (s t : List UInt8) (hs : s.length ≤ 1000000000) (ht : t.length ≤ 1000000000) : callT AA 203 [.str s, .str t] [] = some (.bool (hasSuf s t), []) := by
 have e1 : t.length ≤ s.length → ((s.length : Int) - t.length).toNat = s.length - t.length := by omega
 refine enter fn203 np203 rfl ?_
 unfold hasSuf
 by_cases h : t.length ≤ s.length
 ·have e1 := e1 h
  have e2 : (s.drop (s.length - t.length)).take (s.length - (s.length - t.length)) = s.drop (s.length - t.length) := List.take_of_length_le (by simp)
  have gg:=trivial;repeat' first|simp (maxSteps:=2000000) (disch:=omega) only [gg,b203,e1,e2,decide_eq_true h,go_sem]|(refine br ?_ ?_<;>intro gg<;>try omega)|(apply And.intro;focus omega)|omega
 ·have gg:=trivial;repeat' first|simp (maxSteps:=2000000) (disch:=omega) only [gg,b203,decide_eq_false h,go_sem]|(refine br ?_ ?_<;>intro gg<;>try omega)|(apply And.intro;focus omega)|omega
theorem s156 (s t : List UInt8) (hs : s.length ≤ 1000000000) (ht : t.length ≤ 1000000000) : callT AA 156 [.str s, .str t] [] = some (.tuple [.str (cutSuf s t), .bool (hasSuf s t)], []) := by
 have h1 := s203 s t hs ht
 refine enter fn156 np156 rfl ?_
 unfold cutSuf
 cases hh : hasSuf s t with
 | true =>
  rw [hh] at h1
  have h : t.length ≤ s.length := by simp [hasSuf] at hh; exact hh.1
  have e1 : ((s.length : Int) - t.length).toNat = s.length - t.length := by omega
  have gg:=trivial;repeat' first|simp (maxSteps:=2000000) (disch:=omega) only [gg,b156,h1,e1,go_sem]|(refine br ?_ ?_<;>intro gg<;>try omega)|(apply And.intro;focus omega)|omega
 | false =>
  rw [hh] at h1
  have gg:=trivial;repeat' first|simp (maxSteps:=2000000) (disch:=omega) only [gg,b156,h1,go_sem]|(refine br ?_ ?_<;>intro gg<;>try omega)|(apply And.intro;focus omega)|omega
theorem s120 (s t : List UInt8) (hs : s.length ≤ 1000000000) (ht : t.length ≤ 1000000000) : callT AA 120 [.str s, .str t] [] = some (.tuple [.str (cutSuf s t), .bool (hasSuf s t)], []) := by
 have h1 := s156 s t hs ht
 refine enter fn120 np120 rfl ?_
 have gg:=trivial;repeat' first|simp (maxSteps:=2000000) (disch:=omega) only [gg,b120,h1,go_sem]|(refine br ?_ ?_<;>intro gg<;>try omega)|(apply And.intro;focus omega)|omega
end Go.Abs
namespace Go.Abs
open Am
set_option maxRecDepth 100000
def rcd0 : Rcd := ⟨[], []⟩
def fstD (l : List UInt8) : List UInt8 := aheadOf 32 l
def fstN (l : List UInt8) : Int := atoiV (fstD l)
def fstR (l : List UInt8) : List UInt8 := (l.drop (fstD l).length.succ).take ((fstN l).toNat - (fstD l).length.succ)
def fstOk1 (l : List UInt8) : Bool := decide (0 ≤ Lib.indexByte l 32) && atoiOk (fstD l) && decide (fstN l ≤ l.length) && decide (((fstD l).length : Int) + 1 ≤ fstN l)
def fstK (l : List UInt8) : List UInt8 := (cutB 61 (fstR l)).1
def fstV (l : List UInt8) : List UInt8 := cutSuf (cutB 61 (fstR l)).2.1 [10]
def fstOk (l : List UInt8) : Bool := fstOk1 l && (cutB 61 (fstR l)).2.2 && hasSuf (cutB 61 (fstR l)).2.1 [10] && lineOk (fstK l) (fstV l) && decide (lineB (fstK l) (fstV l) = l.take (fstN l).toNat)
/-- the record of the first line; how long that is -/
def firstP (l : List UInt8) : Rcd × Int := if fstOk l = true then (⟨fstK l, fstV l⟩, fstN l) else (rcd0, 0)
theorem s71a (b : BS) (hb : b.l.length ≤ 1000000) (h : fstOk1 b.l = false) : callT AA 71 [b.av] [] = some (.tuple [rcd0.av, .int .i64 0], []) := by
 have hn : (if atoiOk (fstD b.l) = true then AVal.lit .nilIface else numErr) = if atoiOk (fstD b.l) = true then AVal.lit .nilIface else .iface 227 .junk := rfl
 have ha := aheadOf_eq 32 b.l
 have h1 := s114 b 32 32 rfl
 have h2 := s114n b 32 32 rfl
 have hlt := indexByte_lt (s := b.l) (c := 32)
 unfold fstOk1 at h
 by_cases c0 : 0 ≤ Lib.indexByte b.l 32
 ·rw [if_pos c0] at ha
  have h1 := fun c t => h1 c t (by omega) c0
  have hd : (b.sl 0 (Lib.indexByte b.l 32).toNat).l = fstD b.l := by
   rw [BS.sl_l]
   unfold fstD
   rw [ha]
   simp
  have hdl : (fstD b.l).length ≤ 1000000 := by rw [← hd, BS.sl_l]; simp; omega
  have hat := call118 (s := fstD b.l) (by omega)
  rw [hn] at hat
  rw [decide_eq_true c0, Bool.true_and] at h
  have hN : fstN b.l = atoiV (fstD b.l) := rfl
  rw [hN] at h
  generalize Lib.indexByte b.l 32 = q at *
  generalize atoiV (fstD b.l) = N at *
  generalize hD : fstD b.l = D at *
  refine enter fn71 np71 rfl ?_
  cases c1 : atoiOk D with
  | false =>
   rw [c1] at hat
   have gg:=trivial;repeat' first|simp (maxSteps:=2000000) (disch:=omega) only [gg,b71,h1,hd,hat,Bool.false_eq_true,go_sem]|(refine br ?_ ?_<;>intro gg<;>try omega)|(apply And.intro;focus omega)|omega
   rfl
  | true =>
   rw [c1] at hat
   rw [c1] at h
   simp only [Bool.true_and, Bool.and_eq_false_iff, decide_eq_false_iff_not] at h
   have hdl2 : (b.sl 0 q.toNat).l.length = D.length := by rw [hd]
   have gg:=trivial;repeat' first|simp (maxSteps:=2000000) (disch:=omega) only [gg,b71,h1,hd,hat,hdl2,if_true,go_sem]|(refine br ?_ ?_<;>intro gg<;>try omega)|(apply And.intro;focus omega)|omega
   all_goals first | rfl | (exfalso; omega)
 ·have h2 := fun c t => h2 c t c0
  have hat := call118 (s := b.l) (by omega)
  rw [show (if atoiOk b.l = true then AVal.lit .nilIface else numErr) = if atoiOk b.l = true then AVal.lit .nilIface else .iface 227 .junk from rfl] at hat
  generalize Lib.indexByte b.l 32 = q at *
  generalize atoiV b.l = N at *
  refine enter fn71 np71 rfl ?_
  cases c1 : atoiOk b.l with
  | false =>
   rw [c1] at hat
   have gg:=trivial;repeat' first|simp (maxSteps:=2000000) (disch:=omega) only [gg,b71,h2,hat,Bool.false_eq_true,go_sem]|(refine br ?_ ?_<;>intro gg<;>try omega)|(apply And.intro;focus omega)|omega
   rfl
  | true =>
   rw [c1] at hat
   have gg:=trivial;repeat' first|simp (maxSteps:=2000000) (disch:=omega) only [gg,b71,h2,hat,go_sem]|(refine br ?_ ?_<;>intro gg<;>try omega)|(apply And.intro;focus omega)|omega
   rfl
set_option maxHeartbeats 4000000 in
theorem s71 (b : BS) (hb : b.l.length ≤ 1000000) (h : fstOk1 b.l = true) : callT AA 71 [b.av] [] = some (.tuple [(firstP b.l).1.av, .int .i64 (firstP b.l).2], []) := by
 have hn : (if atoiOk (fstD b.l) = true then AVal.lit .nilIface else numErr) = if atoiOk (fstD b.l) = true then AVal.lit .nilIface else .iface 227 .junk := rfl
 have ha := aheadOf_eq 32 b.l
 have h1 := s114 b 32 32 rfl
 have hlt := indexByte_lt (s := b.l) (c := 32)
 have h' := h
 simp only [fstOk1, Bool.and_eq_true, decide_eq_true_eq] at h'
 obtain ⟨⟨⟨c0, c1⟩, c2⟩, c3⟩ := h'
 rw [if_pos c0] at ha
 have h1 := fun c t => h1 c t (by omega) c0
 have hd : (b.sl 0 (Lib.indexByte b.l 32).toNat).l = fstD b.l := by
  rw [BS.sl_l]
  unfold fstD
  rw [ha]
  simp
 have hdl : (fstD b.l).length ≤ 1000000 := by rw [← hd, BS.sl_l]; simp; omega
 have hat := call118 (s := fstD b.l) (by omega)
 rw [hn, c1, if_pos rfl] at hat
 have hN : fstN b.l = atoiV (fstD b.l) := rfl
 have hdl2 : (b.sl 0 (Lib.indexByte b.l 32).toNat).l.length = (fstD b.l).length := by rw [hd]
 have hR : (b.sl ((fstD b.l).length + 1) (fstN b.l).toNat).l = fstR b.l := by
  rw [BS.sl_l]
  rfl
 have hRl : (fstR b.l).length ≤ 1000000 := by rw [← hR, BS.sl_l]; simp; omega
 have h119 := s119 (fstR b.l) 61 hRl
 have hcl : (cutB 61 (fstR b.l)).1.length ≤ 1000000 ∧ (cutB 61 (fstR b.l)).2.1.length ≤ 1000000 := by
  unfold cutB
  split
  ·simp; omega
  ·simp; omega
 have h120 := s120 (cutB 61 (fstR b.l)).2.1 [10] (by omega) (by simp)
 have hsl : (fstV b.l).length ≤ 1000000 := by
  unfold fstV cutSuf
  split
  ·simp; omega
  ·omega
 have h121 := s121 (fstK b.l) (fstV b.l) hcl.1 hsl
 have ht : (b.sl 0 (fstN b.l).toNat).l = b.l.take (fstN b.l).toNat := by rw [BS.sl_l]; simp
 unfold firstP fstOk
 rw [h, Bool.true_and]
 rw [← hN] at hat
 have eK : fstK b.l = (cutB 61 (fstR b.l)).1 := rfl
 have eV : fstV b.l = cutSuf (cutB 61 (fstR b.l)).2.1 [10] := rfl
 rw [← eK] at h119
 rw [← eV] at h120
 generalize (cutB 61 (fstR b.l)).2.2 = g1 at *
 generalize hg2 : hasSuf (cutB 61 (fstR b.l)).2.1 [10] = g2 at *
 generalize (cutB 61 (fstR b.l)).2.1 = V0 at *
 generalize lineOk (fstK b.l) (fstV b.l) = g3 at *
 generalize lineB (fstK b.l) (fstV b.l) = L at *
 generalize Lib.indexByte b.l 32 = q at *
 generalize fstR b.l = R at *
 generalize fstK b.l = K at *
 generalize fstV b.l = V at *
 generalize fstN b.l = N at *
 generalize fstD b.l = D at *
 have hDn : ((D.length : Int) + 1).toNat = D.length + 1 := by omega
 refine enter fn71 np71 rfl ?_
 cases g1 with
 | false =>
  have gg:=trivial;repeat' first|simp (maxSteps:=2000000) (disch:=omega) only [gg,b71,h1,hd,hat,hdl2,hDn,hR,h119,h120,go_sem]|(refine br ?_ ?_<;>intro gg<;>try omega)|(apply And.intro;focus omega)|omega
  all_goals first | rfl | (exfalso; omega)
 | true =>
  cases g2 with
  | false =>
   have gg:=trivial;repeat' first|simp (maxSteps:=2000000) (disch:=omega) only [gg,b71,h1,hd,hat,hdl2,hDn,hR,h119,h120,go_sem]|(refine br ?_ ?_<;>intro gg<;>try omega)|(apply And.intro;focus omega)|omega
   all_goals first | rfl | (exfalso; omega)
  | true =>
   cases g3 with
   | false =>
    have gg:=trivial;repeat' first|simp (maxSteps:=2000000) (disch:=omega) only [gg,b71,h1,hd,hat,hdl2,hDn,hR,h119,h120,h121,go_sem]|(refine br ?_ ?_<;>intro gg<;>try omega)|(apply And.intro;focus omega)|omega
    all_goals first | rfl | (exfalso; omega)
   | true =>
    by_cases hL : L = b.l.take N.toNat
    ·have gg:=trivial;repeat' first|simp (maxSteps:=2000000) (disch:=omega) only [gg,b71,h1,hd,hat,hdl2,hDn,hR,h119,h120,h121,ht,decide_eq_true hL,decide_eq_false,go_sem]|(refine br ?_ ?_<;>intro gg<;>try omega)|(apply And.intro;focus omega)|omega
     all_goals first | rfl | (exfalso; omega)
    ·have gg:=trivial;repeat' first|simp (maxSteps:=2000000) (disch:=omega) only [gg,b71,h1,hd,hat,hdl2,hDn,hR,h119,h120,h121,ht,decide_eq_false hL,go_sem]|(refine br ?_ ?_<;>intro gg<;>try omega)|(apply And.intro;focus omega)|omega
     all_goals first | rfl | (exfalso; omega)
end Go.Abs
