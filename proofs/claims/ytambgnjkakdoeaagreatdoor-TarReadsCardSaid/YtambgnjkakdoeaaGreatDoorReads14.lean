import Derived.Test.YtambgnjkakdoeaaGreatDoorReads13
import Derived.ChangeSame
import Derived.Deep.Fields
import Derived.Deep.Slices
import Derived.ProofKit
/- PART OF A PROOF (texts joined by a program): F82 Q8 F101 N10 F37 R2 Q6 B4 F83 F102. -/
set_option linter.unusedVariables false
set_option linter.unusedSimpArgs false
set_option linter.unusedSectionVars false
namespace Go.Abs
open Am Lib
set_option maxRecDepth 20000
theorem mod_pad (l : List UInt8) : (padL l).length % 512 = 0 := by
 rw [padL_length]
 unfold padN
 omega
theorem mod_piece (n : Int) (e : Ent) : (pieceL n e).length % 512 = 0 := by
 have h2 := mod_pad e.data.l
 have h3 := encB_length (hdrE e (recsE e))
 have h4 : (preE n e).length % 512 = 0 := by
  unfold preE
  split
  ·rfl
  ·have := mod_pad (bodyE e)
   have := encB_length (hdX n (bodyE e))
   rw [List.length_append]
   omega
 unfold pieceL
 simp only [List.length_append]
 omega
theorem h18 (c tmp : Bool) (t : List Ent) (ht : t.length ≤ 128) (hk : ∀ e ∈ t, e.kind = 1 ∨ e.kind = 2 ∨ e.kind = 3 ∨ e.kind = 4) (W : List UInt8) : ∀ (rest done : List Ent) (out : List UInt8) (i : Int) (q : Nat), t = done ++ rest → i = done.length → q = out.length → out.length ≤ 1100000 * done.length → out.length % 512 = 0 → PiecesOk done.length rest → W = out ++ (outL done.length rest ++ zeros1024) →
  HD AA 0 [0, 2, 3, 6, 7] l18_0 ⟨[.view 8 (t.map Ent.av) c tmp, .junk, .lit (.slice none 0 0), .int .i64 0, .junk, .junk, .own 0 1 0 q false, .int .i64 i, .junk, .junk, .junk, .junk, .junk, .junk, .junk, .junk, .junk, .junk, .junk, .junk, .junk, .junk, .junk, .junk, .junk, .junk, .junk, .junk, .junk, .junk, .junk, .junk], [(0, .row (out.map .byte) 1)], 1⟩ [.blk 0, .code r18_0] (Fin [(2, none), (3, none)] 0 (.tuple [.own 0 1 0 W.length false, .int .i64 0]) [(0, .row (W.map .byte) 1)])
 | [], done, out, i, q, h1, h2, h3, h4, h5, h6, h7 => by
  have hl : t.length = done.length := by rw [h1]; simp
  have e : (out.map AVal.byte).take q = out.map .byte := List.take_of_length_le (by simp; omega)
  have hz := zeros1024_length
  have hW : W = out ++ zeros1024 := h7
  have hWl : W.length = q + 1024 := by rw [hW, List.length_append, hz, h3]
  have hWm : out.map AVal.byte ++ zeros1024.map AVal.byte = W.map .byte := by rw [hW, List.map_append]
  rw [hWl]
  clear hW h7
  refine hd_of (by unfold l18_0; rfl) ?_
  have gg:=trivial;repeat' first|simp (maxSteps:=2000000) (disch:=omega) only [gg,r18_0,e,zeros1024_eq,hz,hWm,go_sem]|(refine br ?_ ?_<;>intro gg<;>try omega)|(apply And.intro;focus omega)|omega
 | e :: rest, done, out, i, q, h1, h2, h3, h4, h5, h6, h7 => by
  have hl : t.length = done.length + (rest.length + 1) := by rw [h1]; simp
  have hx : t[i.toNat]? = some e := by
   rw [h1, show i.toNat = done.length by omega]
   simp
  obtain ⟨p1, p2, p3, p4⟩ := h6
  rw [← h2] at p3
  have hpl := pieceL_le p2 p3
  have hpm := mod_piece i e
  have h53 := s53 out q h3 (by omega) h5 i (by omega) (by omega) e p1 (hk e (by rw [h1]; simp)) p2 p3
  have hR : (out ++ pieceL i e).length = q + (pieceL i e).length := by rw [List.length_append, h3]
  have ih := h18 c tmp t ht hk W rest (done ++ [e]) (out ++ pieceL i e) (i + 1) (out ++ pieceL i e).length (by rw [h1]; simp) (by rw [List.length_append]; simp; omega) rfl (by rw [hR, List.length_append]; simp; omega) (by rw [hR]; omega) (by rw [List.length_append]; exact p4) (by
   rw [h7, List.length_append]
   simp only [outL, List.length_cons, List.length_nil, List.append_assoc]
   rw [← h2])
  simp only [Ent.av] at h53
  generalize out ++ pieceL i e = R at *
  refine hd_of (by unfold l18_0; rfl) ?_
  have gg:=trivial;repeat' first|simp (maxSteps:=2000000) (disch:=omega) only [gg,hx,h53,lp_head,go_sem]|(refine br ?_ ?_<;>intro gg<;>try omega)|(apply And.intro;focus omega)|omega
theorem kinds_of {t : List Ent} (h : (checkT t).2 = 0) : ∀ e ∈ t, FieldsOk e ∧ e.path.length ≤ 400 := by
 intro e he
 obtain ⟨_, h2⟩ := checkT_good h
 obtain ⟨g1, g2⟩ := h2 e he
 exact ⟨fields_ok g2, good_le g1⟩
theorem kind_of {e : Ent} (h : FieldsOk e) : e.kind = 1 ∨ e.kind = 2 ∨ e.kind = 3 ∨ e.kind = 4 := by
 rcases h.kinds with k | k | k | k
 ·exact .inl k.1
 ·exact .inr (.inl k.1)
 ·exact .inr (.inr (.inl k.1))
 ·exact .inr (.inr (.inr k.1))
theorem s18 (c tmp : Bool) (t : List Ent) (ht : t.length ≤ 128) (hq : ∀ e ∈ t, EntOk e) (he : (checkT t).2 = 0) : callT AA 18 [.view 8 (t.map Ent.av) c tmp] [] = some (.tuple [.own 0 1 0 (writeL t).length false, .int .i64 0], [(0, .row ((writeL t).map .byte) 1)]) := by
 have h41 := s41 c tmp t hq (by omega)
 have hp : PiecesOk 0 t := checkT_pieces (by rw [checkT_map Ent.cp same_cp]; exact he)
 have hh := h18 c tmp t ht (fun e h => kind_of (kinds_of he e h).1) (writeL t) t [] [] 0 0 rfl rfl rfl (by simp) rfl hp rfl
 simp only [List.map_nil] at hh
 rw [he] at h41
 generalize writeL t = W at *
 refine enter fn18 np18 rfl ?_
 have gg:=trivial;repeat' first|simp (maxSteps:=2000000) (disch:=omega) only [gg,b18,h41,lp_head,go_sem]|(refine br ?_ ?_<;>intro gg<;>try omega)|(apply And.intro;focus omega)|omega
theorem s18no (c tmp : Bool) (t : List Ent) (ht : t.length ≤ 128) (hq : ∀ e ∈ t, EntOk e) (he : (checkT t).2 ≠ 0) : callT AA 18 [.view 8 (t.map Ent.av) c tmp] [] = some (.tuple [.lit (.slice none 0 0), .int .i64 (checkT t).2], []) := by
 have h41 := s41 c tmp t hq (by omega)
 generalize (checkT t).2 = E at *
 refine enter fn18 np18 rfl ?_
 have gg:=trivial;repeat' first|simp (maxSteps:=2000000) (disch:=omega) only [gg,b18,h41,go_sem]|(refine br ?_ ?_<;>intro gg<;>try omega)|(apply And.intro;focus omega)|omega
theorem s41n : callT AA 41 [.lit (.slice none 0 0)] [] = some (.tuple [.int .i64 (-1), .int .i64 0], []) := by
 refine enter fn41 np41 rfl ?_
 have gg:=trivial;repeat' first|simp (maxSteps:=2000000) (disch:=omega) only [gg,b41,lp_head,go_sem]|(refine br ?_ ?_<;>intro gg<;>try omega)|(apply And.intro;focus omega)|omega
 refine hd_of (by unfold l41_0; rfl) ?_
 have gg:=trivial;repeat' first|simp (maxSteps:=2000000) (disch:=omega) only [gg,r41_0,go_sem]|(refine br ?_ ?_<;>intro gg<;>try omega)|(apply And.intro;focus omega)|omega
theorem s18n : callT AA 18 [.lit (.slice none 0 0)] [] = some (.tuple [.own 0 1 0 1024 false, .int .i64 0], [(0, .row (zeros1024.map .byte) 1)]) := by
 have h41 := s41n
 have hz := zeros1024_length
 refine enter fn18 np18 rfl ?_
 have gg:=trivial;repeat' first|simp (maxSteps:=2000000) (disch:=omega) only [gg,b18,h41,lp_head,go_sem]|(refine br ?_ ?_<;>intro gg<;>try omega)|(apply And.intro;focus omega)|omega
 refine hd_of (by unfold l18_0; rfl) ?_
 have gg:=trivial;repeat' first|simp (maxSteps:=2000000) (disch:=omega) only [gg,r18_0,zeros1024_eq,hz,go_sem]|(refine br ?_ ?_<;>intro gg<;>try omega)|(apply And.intro;focus omega)|omega
theorem s54 (x y : Ent) (h : SameE x y) : callT AA 54 [x.av, y.av] [] = some (.bool true, []) := by
 obtain ⟨a, b, c, d, e, f, g, i⟩ := h
 obtain ⟨p, k, m, u, gi, ti, li, da⟩ := x
 obtain ⟨p', k', m', u', gi', ti', li', da'⟩ := y
 simp only at a b c d e f g i
 subst a b c d e f g
 refine enter fn54 np54 rfl ?_
 have gg:=trivial;repeat' first|simp (maxSteps:=2000000) (disch:=omega) only [gg,b54,i,go_sem]|(refine br ?_ ?_<;>intro gg<;>try omega)|(apply And.intro;focus omega)|omega
theorem h20 (c tmp c2 tmp2 : Bool) (t u : List Ent) (ht : t.length ≤ 1000000) (hl : u.length = t.length) (hu : ∀ (i : Nat) (x y : Ent), t[i]? = some x → u[i]? = some y → SameE x y) : ∀ (k : Nat) (i : Int), 0 ≤ i → i + k = t.length →
  HD AA 0 [0, 1, 4, 5] l20_0 ⟨[.view 8 (t.map Ent.av) c tmp, .view 8 (u.map Ent.av) c2 tmp2, .junk, .junk, .bool false, .int .i64 i, .junk, .junk, .junk, .junk, .junk, .junk, .junk, .junk, .junk, .junk, .junk, .junk, .junk, .junk, .junk, .junk, .junk, .junk, .junk, .junk, .junk], [], 0⟩ [.blk 0, .code r20_0] (Fin [(4, none)] 0 (.bool true) [])
 | 0, i, h0, h1 => by
  refine hd_of (by unfold l20_0; rfl) ?_
  have gg:=trivial;repeat' first|simp (maxSteps:=2000000) (disch:=omega) only [gg,r20_0,go_sem]|(refine br ?_ ?_<;>intro gg<;>try omega)|(apply And.intro;focus omega)|omega
 | k + 1, i, h0, h1 => by
  have ih := h20 c tmp c2 tmp2 t u ht hl hu k (i + 1) (by omega) (by omega)
  have hx : t[i.toNat]? = some (t[i.toNat]'(by omega)) := List.getElem?_eq_getElem _
  have hy : u[i.toNat]? = some (u[i.toNat]'(by omega)) := List.getElem?_eq_getElem _
  have h54 := s54 _ _ (hu _ _ _ hx hy)
  generalize t[i.toNat]'(by omega) = x at *
  generalize u[i.toNat]'(by omega) = y at *
  simp only [Ent.av] at h54
  refine hd_of (by unfold l20_0; rfl) ?_
  have gg:=trivial;repeat' first|simp (maxSteps:=2000000) (disch:=omega) only [gg,hx,hy,h54,hl,lp_head,go_sem]|(refine br ?_ ?_<;>intro gg<;>try omega)|(apply And.intro;focus omega)|omega
theorem s20 (c tmp c2 tmp2 : Bool) (t u : List Ent) (ht : t.length ≤ 1000000) (hl : u.length = t.length) (hu : ∀ (i : Nat) (x y : Ent), t[i]? = some x → u[i]? = some y → SameE x y) : callT AA 20 [.view 8 (t.map Ent.av) c tmp, .view 8 (u.map Ent.av) c2 tmp2] [] = some (.bool true, []) := by
 have hh := h20 c tmp c2 tmp2 t u ht hl hu t.length 0 (by omega) (by omega)
 refine enter fn20 np20 rfl ?_
 have gg:=trivial;repeat' first|simp (maxSteps:=2000000) (disch:=omega) only [gg,b20,hl,lp_head,go_sem]|(refine br ?_ ?_<;>intro gg<;>try omega)|(apply And.intro;focus omega)|omega
theorem s20n : callT AA 20 [.lit (.slice none 0 0), .lit (.slice none 0 0)] [] = some (.bool true, []) := by
 refine enter fn20 np20 rfl ?_
 have gg:=trivial;repeat' first|simp (maxSteps:=2000000) (disch:=omega) only [gg,b20,lp_head,go_sem]|(refine br ?_ ?_<;>intro gg<;>try omega)|(apply And.intro;focus omega)|omega
 refine hd_of (by unfold l20_0; rfl) ?_
 have gg:=trivial;repeat' first|simp (maxSteps:=2000000) (disch:=omega) only [gg,r20_0,go_sem]|(refine br ?_ ?_<;>intro gg<;>try omega)|(apply And.intro;focus omega)|omega
end Go.Abs
namespace Go.Abs
open Am Lib
set_option maxRecDepth 100000
theorem stR_blk {b : List UInt8} {a : Nat} {H : Hd} {body R : List UInt8} (hb : b.drop a = encB H ++ (padL body ++ R)) (hok : encOk H = true) (hs : H.size = body.length) : stR b a = some (H, body, a + (512 + (padL body).length)) := by
 have hlen := congrArg List.length hb
 have hl := encB_length H
 have hpl := padL_length body
 have hpw := pad_whole body
 simp only [List.length_drop, List.length_append] at hlen
 have e1 : (b.drop a).take 512 = encB H := by rw [hb, List.take_left' hl]
 have e2 : b.drop (a + 512) = padL body ++ R := by rw [← List.drop_drop, hb, List.drop_left' hl]
 have hw : (H.size + 511) / 512 * 512 = ((padL body).length : Int) := by
  rw [hpw]
  unfold wholeN
  rw [hs]
 have e3 : (padL body ++ R).take body.length = body := by
  unfold padL
  rw [List.append_assoc, List.take_left' rfl]
 unfold stR
 rw [e1, e2, decOk_encB hok, decH_encB hok, hw, hs, if_neg (by omega), if_neg (by simp), if_neg (by omega)]
 simp only [Int.toNat_natCast, e3]
 rw [Nat.add_assoc]
set_option maxHeartbeats 4000000 in
theorem toldR_back {e : Ent} (hf : FieldsOk e) (d : BS) : toldR ⟨if (splitN e.path).2.2 then e.path else paxB, e.kind, e.mode, if idB e.uid then e.uid else 0, if idB e.gid then e.gid else 0, if timeB e.time then e.time else 0, if linkE e.link then e.link else paxB, d⟩ true (recsE e) = (⟨e.path, e.kind, e.mode, e.uid, e.gid, e.time, e.link, d⟩, true) := by
 have g := numR_itoa (n := e.gid) (by have := hf.gid; omega) (by have := hf.gid; omega)
 have u := numR_itoa (n := e.uid) (by have := hf.uid; omega) (by have := hf.uid; omega)
 have t := numR_itoa (n := e.time) (by have := hf.time; omega) (by have := hf.time; omega)
 unfold recsE rst3 rst4 rst5 rst6 rst7
 cases idB e.gid <;> cases linkE e.link <;> cases timeB e.time <;> cases (splitN e.path).2.2 <;> cases idB e.uid <;> simp [recIf, toldR, tellR, gidB, linkpathB, mtimeB, pathB, uidB, g, u, t]
theorem entR_piece {n : Nat} {e : Ent} {rest : List UInt8} (hok : pieceOk n e) (hf : FieldsOk e) : entR (pieceL n e ++ rest) = some (rdEnt e, (pieceL n e).length) := by
 have hk : e.kind = 1 ∨ e.kind = 2 ∨ e.kind = 3 ∨ e.kind = 4 := by
  rcases hf.kinds with h | h | h | h
  ·exact .inl h.1
  ·exact .inr (.inl h.1)
  ·exact .inr (.inr (.inl h.1))
  ·exact .inr (.inr (.inr h.1))
 obtain ⟨k1, k2⟩ := kind_type hk
 have hsz : (hdrE e (recsE e)).size = e.data.l.length := by rw [hdrE_eq]
 have hty : (hdrE e (recsE e)).type = typeB e.kind := by rw [hdrE_eq]
 have hmk : ∀ d, mkR (hdrE e (recsE e)) d = ⟨if (splitN e.path).2.2 then e.path else paxB, e.kind, e.mode, if idB e.uid then e.uid else 0, if idB e.gid then e.gid else 0, if timeB e.time then e.time else 0, if linkE e.link then e.link else paxB, .mk false false d⟩ := by
  intro d
  unfold mkR
  rw [hdrE_eq]
  simp only [k1]
 have htold := toldR_back hf (.mk false false e.data.l)
 obtain ⟨ok1, ok2⟩ := hok
 have hpl := padL_length e.data.l
 have hel := encB_length (hdrE e (recsE e))
 by_cases hr : recsE e = []
 ·have hp : pieceL n e = encB (hdrE e (recsE e)) ++ padL e.data.l := by
   unfold pieceL preE
   rw [if_pos hr, List.nil_append]
  have hb : (pieceL n e ++ rest).drop 0 = encB (hdrE e (recsE e)) ++ (padL e.data.l ++ rest) := by
   rw [hp]
   simp
  have h1 := stR_blk hb ok1 hsz
  unfold entR
  rw [h1]
  simp only []
  rw [hty, if_neg k2]
  rw [hr] at htold hmk
  unfold finE
  rw [hr, hmk, htold, if_pos rfl]
  have e1 : 0 + (512 + (padL e.data.l).length) = (pieceL n e).length := by
   rw [hp, List.length_append, hel]
   omega
  rw [e1]
  rfl
 ·obtain ⟨o1, o2⟩ := ok2 hr
  obtain ⟨body, hbo⟩ := Option.isSome_iff_exists.1 o1
  have hbe : bodyE e = body := by unfold bodyE; rw [hbo]; rfl
  have hp : pieceL n e = encB (hdX n body) ++ (padL body ++ (encB (hdrE e (recsE e)) ++ padL e.data.l)) := by
   unfold pieceL preE
   rw [if_neg hr, hbe]
   simp
  rw [hbe] at o2
  have hb1 : (pieceL n e ++ rest).drop 0 = encB (hdX n body) ++ (padL body ++ (encB (hdrE e (recsE e)) ++ (padL e.data.l ++ rest))) := by
   rw [hp]
   simp
  have h1 := stR_blk hb1 o2 rfl
  have hb2 : (pieceL n e ++ rest).drop (0 + (512 + (padL body).length)) = encB (hdrE e (recsE e)) ++ (padL e.data.l ++ rest) := by
   rw [← List.drop_drop, hb1, ← List.append_assoc, List.drop_left' (by rw [List.length_append, encB_length])]
  have h2 := stR_blk hb2 ok1 hsz
  have e1 : 0 + (512 + (padL body).length) + (512 + (padL e.data.l).length) = (pieceL n e).length := by
   rw [hp]
   simp only [List.length_append, encB_length, hel]
   omega
  unfold entR
  rw [h1]
  simp only []
  rw [if_pos (show (hdX n body).type = 120 from rfl), paxQ_paxE hbo]
  cases hrs : recsE e with
  | nil => exact (hr hrs).elim
  | cons r rs =>
   simp only []
   rw [h2]
   simp only []
   unfold finE
   rw [← hrs, hmk, htold, if_pos rfl, e1]
   rfl
def readQ (b : List UInt8) : Nat → Nat → List Ent → Option (List Ent)
 | 0, _, acc => some acc
 | k + 1, a, acc => if (a : Int) < (b.length : Int) - 1024 then (entR ((b.drop a).take (b.length - 1024 - a))).bind (fun x => readQ b k (a + x.2) (acc ++ [x.1])) else some acc
theorem readQ_zero {b : List UInt8} {a : Nat} {acc : List Ent} : readQ b 0 a acc = some acc := rfl
theorem readQ_succ {b : List UInt8} {k a : Nat} {acc : List Ent} : readQ b (k + 1) a acc = if (a : Int) < (b.length : Int) - 1024 then (entR ((b.drop a).take (b.length - 1024 - a))).bind (fun x => readQ b k (a + x.2) (acc ++ [x.1])) else some acc := rfl
def refR (b : List UInt8) : Option (List Ent) := match readQ b b.length 0 [] with
 | none => none
 | some t => if (checkT t).2 = 0 ∧ writeL t = b then some t else none
theorem readQ_out (b Z : List UInt8) (hZ : Z.length = 1024) : ∀ (t : List Ent) (i k a : Nat) (acc : List Ent), b.drop a = outL i t ++ Z → PiecesOk i t → (∀ e ∈ t, FieldsOk e) → b.length ≤ a + k → a ≤ b.length → readQ b k a acc = some (acc ++ t.map rdEnt)
 | [], i, k, a, acc, hb, _, _, _, ha => by
  have hl := congrArg List.length hb
  simp only [outL, List.nil_append, hZ, List.length_drop] at hl
  cases k with
  | zero => rw [readQ_zero]; simp
  | succ k =>
   rw [readQ_succ, if_neg (by omega)]
   simp
 | e :: t, i, k, a, acc, hb, hp, hf, hk, ha => by
  obtain ⟨h1, h2, h3, h4⟩ := hp
  have hl := congrArg List.length hb
  simp only [outL, List.length_append, hZ, List.length_drop] at hl
  have hpos : 512 ≤ (pieceL i e).length := by
   unfold pieceL
   rw [List.length_append, List.length_append, encB_length]
   omega
  obtain ⟨k, rfl⟩ : ∃ j, k = j + 1 := ⟨k - 1, by omega⟩
  have hs : (b.drop a).take (b.length - 1024 - a) = pieceL i e ++ outL (i + 1) t := by
   rw [hb]
   simp only [outL]
   exact List.take_left' (by rw [List.length_append]; omega)
  rw [readQ_succ, if_pos (by omega), hs, entR_piece h3 (hf e (by simp)), Option.bind_some]
  have hb2 : b.drop (a + (pieceL i e).length) = outL (i + 1) t ++ Z := by
   rw [← List.drop_drop, hb]
   simp only [outL, List.append_assoc]
   exact List.drop_left' rfl
  rw [readQ_out b Z hZ t (i + 1) k _ _ hb2 h4 (fun x hx => hf x (by simp [hx])) (by omega) (by omega)]
  simp
/-- what the program reads the reference reads -/
theorem refR_of_read {b : BS} {t : List Ent} (h : readE b = some t) (hb : b.l.length ≤ 1000000) : refR b.l = some (t.map rdEnt) := by
 obtain ⟨h1, h2, h3, h4⟩ := readE_rd h hb
 have hc : (checkT t).2 = 0 := by rw [← checkT_map Ent.cp same_cp]; exact h3
 have hk := checkT_pieces h3
 have hw : b.l = outL 0 t ++ zeros1024 := by rw [← h4]; rfl
 unfold refR
 rw [readQ_out b.l zeros1024 zeros1024_length t 0 b.l.length 0 [] (by rw [List.drop_zero]; exact hw) hk (fun e he => (kinds_of hc e he).1) (by omega) (by omega)]
 simp only [List.nil_append]
 rw [if_pos ⟨by rw [checkT_map rdEnt same_rd]; exact hc, by rw [writeL_rd]; exact h4⟩]
/-- and what the reference reads the program reads -/
theorem read_of_refR {l : List UInt8} {t : List Ent} (h : refR l = some t) (c tmp : Bool) : readE (.mk c tmp l) = some (t.map rdEnt) ∧ (checkT t).2 = 0 ∧ writeL t = l := by
 unfold refR at h
 cases hq : readQ l l.length 0 [] with
 | none => rw [hq] at h; cases h
 | some u =>
  rw [hq] at h
  simp only at h
  split at h
  ·rename_i hc
   cases h
   refine ⟨?_, hc⟩
   rw [← hc.2]
   exact readE_writeL c tmp hc.1
  ·cases h
end Go.Abs
namespace Go.Abs
open Am Lib
set_option maxRecDepth 20000
theorem tellR_le {e : Ent} {r : Rcd} (h1 : e.path.length ≤ 1000000) (h2 : e.link.length ≤ 1000000) (hr : RcdOk r) : (tellR e r).1.path.length ≤ 1000000 ∧ (tellR e r).1.link.length ≤ 1000000 := by
 obtain ⟨k, v⟩ := hr
 unfold tellR
 split
 ·exact ⟨h1, h2⟩
 split
 ·exact ⟨h1, v⟩
 split
 ·exact ⟨h1, h2⟩
 split
 ·exact ⟨v, h2⟩
 split <;> exact ⟨h1, h2⟩
theorem toldR_le : ∀ (rs : List Rcd) (e : Ent) (ok : Bool), e.path.length ≤ 1000000 → e.link.length ≤ 1000000 → (∀ r ∈ rs, RcdOk r) → (toldR e ok rs).1.path.length ≤ 1000000 ∧ (toldR e ok rs).1.link.length ≤ 1000000 ∧ (toldR e ok rs).1.data = e.data
 | [], e, ok, h1, h2, _ => ⟨h1, h2, rfl⟩
 | r :: rs, e, ok, h1, h2, h3 => by
  obtain ⟨a, b⟩ := tellR_le (e := e) (r := r) h1 h2 (h3 r (by simp))
  have := toldR_le rs (tellR e r).1 (ok && (tellR e r).2) a b fun x hx => h3 x (by simp [hx])
  rw [tellR_data] at this
  exact this
theorem stR_le {b : List UInt8} {a a2 : Nat} {H : Hd} {body : List UInt8} (h : stR b a = some (H, body, a2)) : H.path.length ≤ 1000000 ∧ H.link.length ≤ 1000000 ∧ body.length ≤ b.length ∧ a + 512 ≤ a2 ∧ a2 ≤ b.length := by
 unfold stR at h
 split at h
 ·cases h
 split at h
 ·cases h
 split at h
 ·cases h
 rename_i h1 h2 h3
 have hd := decH_le ((b.drop a).take 512)
 have h0 : 0 ≤ (decH ((b.drop a).take 512)).size := by
  have h2' : decOk ((b.drop a).take 512) = true := by simpa using h2
  unfold decOk at h2'
  simp only [Bool.and_eq_true] at h2'
  exact (encOk_parts h2'.1).2.size.1
 cases h
 refine ⟨hd.1, hd.2, by simp; omega, by omega, by omega⟩
theorem finE_le {H : Hd} {body : List UInt8} {M : List Rcd} {a n : Nat} {e : Ent} (h : finE H body M a = some (e, n)) (h1 : H.path.length ≤ 1000000) (h2 : H.link.length ≤ 1000000) (hb : body.length ≤ 1000000) (hM : ∀ r ∈ M, RcdOk r) : RdE e ∧ n = a := by
 unfold finE at h
 split at h
 ·cases h
  obtain ⟨a1, a2, a3⟩ := toldR_le M (mkR H body) true h1 h2 hM
  exact ⟨⟨a1, a2, body, a3, hb⟩, rfl⟩
 ·cases h
theorem entR_le {b : List UInt8} {e : Ent} {n : Nat} (h : entR b = some (e, n)) (hb : b.length ≤ 1000000) : RdE e ∧ 512 ≤ n ∧ n ≤ b.length := by
 unfold entR at h
 cases h1 : stR b 0 with
 | none => rw [h1] at h; cases h
 | some x =>
  obtain ⟨H, body, a⟩ := x
  rw [h1] at h
  obtain ⟨p1, p2, p3, p4, p5⟩ := stR_le h1
  simp only at h
  split at h
  ·cases hq : paxQ body with
   | none => rw [hq] at h; cases h
   | some M =>
    rw [hq] at h
    obtain ⟨m1, m2⟩ := paxQ_le hq
    cases M with
    | nil => cases h
    | cons r rs =>
     simp only at h
     cases h2 : stR b a with
     | none => rw [h2] at h; cases h
     | some y =>
      obtain ⟨H2, body2, a2⟩ := y
      rw [h2] at h
      obtain ⟨q1, q2, q3, q4, q5⟩ := stR_le h2
      obtain ⟨f1, f2⟩ := finE_le h q1 q2 (by omega) m1
      exact ⟨f1, by omega, by omega⟩
  ·obtain ⟨f1, f2⟩ := finE_le h p1 p2 (by omega) (by simp)
   exact ⟨f1, by omega, by omega⟩
def rqV : Option (List Ent) → AVal
 | none => .tuple [.lit (.slice none 0 0), .int .i64 16]
 | some [] => .tuple [.lit (.slice none 0 0), .int .i64 0]
 | some (e :: t) => .tuple [.own 0 8 0 (e :: t).length false, .int .i64 0]
theorem rqV_ne {t : List Ent} (h : t ≠ []) : rqV (some t) = .tuple [.own 0 8 0 t.length false, .int .i64 0] ∧ readH (some t) = [(0, .row (t.map Ent.av) 8)] := by
 cases t with
 | nil => exact (h rfl).elim
 | cons x y => exact ⟨rfl, rfl⟩
def finQ (l : List UInt8) : Option (List Ent) → Option (List Ent)
 | none => none
 | some t => if (checkT t).2 = 0 ∧ writeL t = l then some t else none
theorem refR_fin (l : List UInt8) : refR l = finQ l (readQ l l.length 0 []) := by
 unfold refR finQ
 cases readQ l l.length 0 [] <;> rfl
set_option maxHeartbeats 8000000 in
theorem h25 (b : BS) (hb : b.l.length ≤ 65536) (R : Option (List Ent)) : ∀ (k A : Nat) (a : Int) (acc : List Ent) (q : Nat), acc ≠ [] → q = acc.length → acc.length * 512 ≤ A → A + 1024 ≤ b.l.length → a = A → b.l.length ≤ A + k → (∀ e ∈ acc, RdE e) → R = finQ b.l (readQ b.l k A acc) →
  HD AA 0 [0, 2, 3, 4, 5, 6] l25_0 ⟨[b.av, .junk, .lit (.slice none 0 0), .int .i64 0, .int .i64 16, .own 0 8 0 q false, .int .i64 a, .junk, .junk, .junk, .junk, .junk, .junk, .junk, .junk, .junk, .junk, .junk, .junk, .junk, .junk, .junk, .junk, .junk, .junk, .junk, .junk, .junk, .junk, .junk, .junk, .junk, .junk, .junk, .junk, .junk, .junk, .junk, .junk, .junk, .junk, .junk, .junk, .junk, .junk, .junk, .junk, .junk, .junk, .junk, .junk, .junk, .junk, .junk, .junk, .junk, .junk], [(0, .row (acc.map Ent.av) 8)], 1⟩ [.blk 0, .code r25_0] (Fin [(2, none), (3, none)] 0 (rqV R) (readH R))
 | k, A, a, acc, q, h0, h1, h2, h3, h4, h5, h6, h7 => by
  obtain ⟨k, rfl⟩ : ∃ j, k = j + 1 := ⟨k - 1, by omega⟩
  have hq0 : 0 < acc.length := List.length_pos_iff.2 h0
  have et : (acc.map Ent.av).take q = acc.map Ent.av := List.take_of_length_le (by simp; omega)
  rw [readQ_succ] at h7
  by_cases hc : (A : Int) < (b.l.length : Int) - 1024
  ·rw [if_pos hc] at h7
   have es : (b.sl a.toNat ((b.l.length : Int) - 1024).toNat).l = (b.l.drop A).take (b.l.length - 1024 - A) := by
    rw [BS.sl_l]
    congr 1
    ·omega
    ·congr 1
     omega
   have c63 := s63 (b.sl a.toNat ((b.l.length : Int) - 1024).toNat) (by rw [es]; simp; omega)
   rw [es] at c63
   cases hE : entR ((b.l.drop A).take (b.l.length - 1024 - A)) with
   | none =>
    rw [hE] at h7 c63
    rw [Option.bind_none] at h7
    simp only [finQ] at h7
    rw [h7]
    unfold rqV readH
    simp only [enV, enH] at c63
    refine hd_of (by unfold l25_0; rfl) ?_
    have gg:=trivial;repeat' first|simp (maxSteps:=2000000) (disch:=omega) only [gg,c63,lp_head,go_sem]|(refine br ?_ ?_<;>intro gg<;>try omega)|(apply And.intro;focus omega)|omega
   | some x =>
    obtain ⟨e, n⟩ := x
    rw [hE] at h7 c63
    rw [Option.bind_some] at h7
    obtain ⟨hrd, n1, n2⟩ := entR_le hE (by simp; omega)
    have hn : n ≤ b.l.length - 1024 - A := by
     rw [List.length_take, List.length_drop] at n2
     omega
    have ih := h25 b hb R k (A + n) (a + n) (acc ++ [e]) (q + 1) (by simp) (by simp [h1]) (by simp; omega) (by omega) (by omega) (by omega) (by
     intro x hx
     rcases List.mem_append.1 hx with hx | hx
     ·exact h6 x hx
     ·rw [List.mem_singleton.1 hx]; exact hrd) h7
    obtain ⟨p1, p2, d, p3, p4⟩ := hrd
    obtain ⟨pa, ki, mo, ui, gi, ti, li, da⟩ := e
    simp only at p3
    subst p3
    simp only [enV, enH, entCs, mk_l] at c63
    have ed : (d.map AVal.byte).take d.length = d.map .byte := List.take_of_length_le (by simp)
    simp only [List.map_append, List.map_cons, List.map_nil, Ent.av, mk_av] at ih
    refine hd_of (by unfold l25_0; rfl) ?_
    have gg:=trivial;repeat' first|simp (maxSteps:=2000000) (disch:=omega) only [gg,c63,et,ed,lp_head,go_sem]|(refine br ?_ ?_<;>intro gg<;>try omega)|(apply And.intro;focus omega)|omega
  ·rw [if_neg hc] at h7
   simp only [finQ] at h7
   have ht : acc.length ≤ 128 := by omega
   have hok : ∀ e ∈ acc, EntOk e := fun e he => rdE_ok (h6 e he)
   refine hd_of (by unfold l25_0; rfl) ?_
   by_cases he : (checkT acc).2 = 0
   ·have c18 := fun c t => s18 c t acc ht hok he
    generalize writeL acc = W at *
    have ew : (W.map AVal.byte).take W.length = W.map .byte := List.take_of_length_le (by simp)
    by_cases hw : W = b.l
    ·rw [if_pos ⟨he, hw⟩] at h7
     rw [h7]
     rw [(rqV_ne h0).1, (rqV_ne h0).2]
     have hw' := decide_eq_true hw
     subst h1
     have gg:=trivial;repeat' first|simp (maxSteps:=2000000) (disch:=omega) only [gg,c18,et,ew,hw',r25_0,lp_head,go_sem]|(refine br ?_ ?_<;>intro gg<;>try omega)|(apply And.intro;focus omega)|omega
    ·rw [if_neg (fun h => hw h.2)] at h7
     rw [h7]
     unfold rqV readH
     have hw' := decide_eq_false hw
     have gg:=trivial;repeat' first|simp (maxSteps:=2000000) (disch:=omega) only [gg,c18,et,ew,hw',r25_0,lp_head,go_sem]|(refine br ?_ ?_<;>intro gg<;>try omega)|(apply And.intro;focus omega)|omega
   ·have c18 := fun c t => s18no c t acc ht hok he
    rw [if_neg (fun h => he h.1)] at h7
    rw [h7]
    unfold rqV readH
    generalize (checkT acc).2 = E at *
    have gg:=trivial;repeat' first|simp (maxSteps:=2000000) (disch:=omega) only [gg,c18,et,r25_0,lp_head,go_sem]|(refine br ?_ ?_<;>intro gg<;>try omega)|(apply And.intro;focus omega)|omega
theorem s25 (b : BS) (hb : b.l.length ≤ 65536) : callT AA 25 [b.av] [] = some (rqV (refR b.l), readH (refR b.l)) := by
 generalize hR : refR b.l = R
 rw [refR_fin] at hR
 by_cases hc : (0 : Int) < (b.l.length : Int) - 1024
 ·obtain ⟨k, hk⟩ : ∃ k, b.l.length = k + 1 := ⟨b.l.length - 1, by omega⟩
  rw [show readQ b.l b.l.length 0 [] = readQ b.l (k + 1) 0 [] by rw [hk], readQ_succ, if_pos (by simpa using hc)] at hR
  have es : (b.sl 0 ((b.l.length : Int) - 1024).toNat).l = (b.l.drop 0).take (b.l.length - 1024 - 0) := by
   rw [BS.sl_l]
   congr 1
   omega
  have c63 := s63 (b.sl 0 ((b.l.length : Int) - 1024).toNat) (by rw [es]; simp; omega)
  rw [es] at c63
  cases hE : entR ((b.l.drop 0).take (b.l.length - 1024 - 0)) with
  | none =>
   rw [hE] at hR c63
   rw [Option.bind_none] at hR
   simp only [finQ] at hR
   rw [← hR]
   unfold rqV readH
   simp only [enV, enH] at c63
   refine enter fn25 np25 rfl ?_
   have gg:=trivial;repeat' first|simp (maxSteps:=2000000) (disch:=omega) only [gg,b25,lp_head,go_sem]|(refine br ?_ ?_<;>intro gg<;>try omega)|(apply And.intro;focus omega)|omega
   refine hd_of (by unfold l25_0; rfl) ?_
   have gg:=trivial;repeat' first|simp (maxSteps:=2000000) (disch:=omega) only [gg,c63,lp_head,go_sem]|(refine br ?_ ?_<;>intro gg<;>try omega)|(apply And.intro;focus omega)|omega
  | some x =>
   obtain ⟨e, n⟩ := x
   rw [hE] at hR c63
   rw [Option.bind_some] at hR
   obtain ⟨hrd, n1, n2⟩ := entR_le hE (by simp; omega)
   have hn : n ≤ b.l.length - 1024 - 0 := by
    rw [List.length_take, List.length_drop] at n2
    omega
   have ih := h25 b hb R k (0 + n) n [e] 1 (by simp) rfl (by simp; omega) (by omega) (by omega) (by omega) (by
    intro x hx
    rw [List.mem_singleton.1 hx]; exact hrd) hR.symm
   obtain ⟨p1, p2, d, p3, p4⟩ := hrd
   obtain ⟨pa, ki, mo, ui, gi, ti, li, da⟩ := e
   simp only at p3
   subst p3
   simp only [enV, enH, entCs, mk_l] at c63
   have ed : (d.map AVal.byte).take d.length = d.map .byte := List.take_of_length_le (by simp)
   simp only [List.map_cons, List.map_nil, Ent.av, mk_av] at ih
   refine enter fn25 np25 rfl ?_
   have gg:=trivial;repeat' first|simp (maxSteps:=2000000) (disch:=omega) only [gg,b25,lp_head,go_sem]|(refine br ?_ ?_<;>intro gg<;>try omega)|(apply And.intro;focus omega)|omega
   refine hd_of (by unfold l25_0; rfl) ?_
   have gg:=trivial;repeat' first|simp (maxSteps:=2000000) (disch:=omega) only [gg,c63,ed,lp_head,go_sem]|(refine br ?_ ?_<;>intro gg<;>try omega)|(apply And.intro;focus omega)|omega
 ·have hq : readQ b.l b.l.length 0 [] = some [] := by
   cases hk : b.l.length with
   | zero => exact readQ_zero
   | succ k => rw [readQ_succ, if_neg (by simpa [hk] using hc)]
  rw [hq] at hR
  simp only [finQ] at hR
  have hl := zeros1024_length
  have c18 := s18n
  have he : (checkT []).2 = 0 := rfl
  have hw0 : writeL [] = zeros1024 := rfl
  rw [hw0] at hR
  have ez := zeros1024_take
  clear hw0 hq
  by_cases hw : zeros1024 = b.l
  ·rw [if_pos ⟨he, hw⟩] at hR
   rw [← hR]
   have hw' := decide_eq_true hw
   unfold rqV readH
   clear he
   refine enter fn25 np25 rfl ?_
   have gg:=trivial;repeat' first|simp (maxSteps:=2000000) (disch:=omega) only [gg,b25,lp_head,go_sem]|(refine br ?_ ?_<;>intro gg<;>try omega)|(apply And.intro;focus omega)|omega
   refine hd_of (by unfold l25_0; rfl) ?_
   have gg:=trivial;repeat' first|simp (maxSteps:=2000000) (disch:=omega) only [gg,c18,ez,hw',hl,r25_0,lp_head,go_sem]|(refine br ?_ ?_<;>intro gg<;>try omega)|(apply And.intro;focus omega)|omega
  ·rw [if_neg (fun h => hw h.2)] at hR
   rw [← hR]
   have hw' := decide_eq_false hw
   unfold rqV readH
   clear he
   refine enter fn25 np25 rfl ?_
   have gg:=trivial;repeat' first|simp (maxSteps:=2000000) (disch:=omega) only [gg,b25,lp_head,go_sem]|(refine br ?_ ?_<;>intro gg<;>try omega)|(apply And.intro;focus omega)|omega
   refine hd_of (by unfold l25_0; rfl) ?_
   have gg:=trivial;repeat' first|simp (maxSteps:=2000000) (disch:=omega) only [gg,c18,ez,hw',hl,r25_0,lp_head,go_sem]|(refine br ?_ ?_<;>intro gg<;>try omega)|(apply And.intro;focus omega)|omega
end Go.Abs
namespace Go.Abs
open Go.Proofs Go.RowKit
set_option maxRecDepth 100000
def isB (o : Option AVal) (z : Int) : Bool := match o with
 | some (.int .u8 n) => n == z
 | _ => false
theorem isB_iff {o : Option AVal} {z : Int} (h : isB o z = true) : o = some (.int .u8 z) := by
 unfold isB at h
 split at h
 ·rw [beq_iff_eq.1 h]
 ·cases h
def keptH (args : List AVal) (h : Heap) : Option AVal := match args with
 | [.own id 1 off n false, b] => match h.get id, (elems h (.own id 1 off n false)).bind bytesOf, (elems h b).bind bytesOf with
  | some (.row es 1), some x, some y => if x = y ∧ isB es[off + n]? 165 = true ∧ isB es[off + n + 1]? 90 = true ∧ n ≤ 1000000000 then some (.bool true) else none
  | _, _, _ => none
 | _ => none
noncomputable def AC : AProg := { AA with primh := fun g => if g = 26 then some keptH else none }
theorem bytesOf_len : ∀ {es : List AVal} {l : List UInt8}, bytesOf es = some l → es.length = l.length
 | [], l, h => by cases h; rfl
 | .int .u8 n :: r, l, h => by
  obtain ⟨l', h1, rfl⟩ := Option.map_eq_some_iff.1 (show (bytesOf r).map (UInt8.ofNat n.toNat :: ·) = some l from h)
  simp [bytesOf_len h1]
theorem callF_extC : ∀ {k g : Nat} {args : List AVal} {h : Heap} {x : AVal × Heap}, callF AA k g args h = some x → callF AC k g args h = some x
 | 0, _, _, _, _, h => by simp [callF] at h
 | k + 1, g, args, h, x, hx => by
  have hle : Calls.Le { moves := AA.moves, run := callF AA k } { moves := AC.moves, run := callF AC k } := ⟨rfl, fun _ _ _ _ h => callF_extC h⟩
  unfold callF at hx ⊢
  have hp : AC.prim g = AA.prim g := rfl
  have hf : AC.fn g = AA.fn g := rfl
  rw [hp, hf]
  cases hq : AA.prim g with
  | some p =>
   rw [hq] at hx
   exact hx
  | none =>
   rw [hq] at hx
   simp only at hx ⊢
   cases hfn : AA.fn g with
   | none =>
    rw [hfn] at hx
    have hx : (none : Option (AVal × Heap)) = some x := hx
    cases hx
   | some fn =>
    rw [hfn] at hx
    exact runFn_mono hle (Nat.le_refl _) hx
theorem callT_extC {g : Nat} {args : List AVal} {h : Heap} {x : AVal × Heap} (hx : callT AA g args h = some x) : callT AC g args h = some x := by
 obtain ⟨k, hk⟩ := callT_iff.1 hx
 exact callT_iff.2 ⟨k, callF_extC hk⟩
theorem kept_ok {args : List AVal} {h : Heap} {r : AVal} (hr : keptH args h = some r) {ι : Emb} {S T : Nat → Prop} {w : World} {vals : Array Value} (hi : Inv ι S T h w (Free.above h.length)) (hl : args.length = vals.size) (hv : ∀ (i : Nat) (c : AVal) (v : Value), args[i]? = some c → vals[i]? = some v → Rep ι S T w c v) :
  CallOK Tryz.prog 26 vals w (Back ι S T h w r h) := by
 unfold keptH at hr
 split at hr
 case h_2 => cases hr
 rename_i id off n b
 split at hr
 case h_2 => cases hr
 rename_i es x y he hx hy
 split at hr
 case isFalse => cases hr
 rename_i hc
 cases hr
 obtain ⟨rfl, m1, m2, hn⟩ := hc
 replace m1 := isB_iff m1
 replace m2 := isB_iff m2
 obtain ⟨v, u, rfl, r1, r2⟩ := two_args rfl hl hv
 obtain ⟨xs, hx1, hx2⟩ := Option.bind_eq_some_iff.1 hx
 obtain ⟨ys, hy1, hy2⟩ := Option.bind_eq_some_iff.1 hy
 have s1 := elems_sound hi r1 hx1
 have s2 := elems_sound hi r2 hy1
 have p1 := bytesToString_sound (P := Tryz.prog) s1 hx2
 have p2 := bytesToString_sound (P := Tryz.prog) s2 hy2
 obtain ⟨ad, cb, rfl⟩ := s2.slice
 have hxl : xs.length = n := by
  unfold elems at hx1
  simp only [he] at hx1
  split at hx1
  ·cases hx1
   simp
   omega
  ·cases hx1
 have hyl : ys.length = n := by rw [bytesOf_len hy2, ← bytesOf_len hx2, hxl]
 rw [hyl] at p2
 obtain ⟨L, hL, hSb, hTb, hN⟩ := hi.node _ _ (Heap.get_mem he)
 cases r1 with
 | own _ _ _ _ _ L' c o hL' hsz hc hcap hclip hnc ho =>
  rw [hL] at hL'
  cases hL'
  obtain ⟨q1, q2, q3, q4, arr, ty, q5, q6, q7⟩ := hN
  have l2 := (List.getElem?_eq_some_iff.1 m2).1
  have hcc := hnc rfl
  have hn2 : n + 2 ≤ c := by omega
  have hoo := ho (by omega)
  rw [Nat.mul_one] at hoo
  subst hoo
  have cell : ∀ (i : Nat) (z : Int), es[i]? = some (.int .u8 z) → w.cell? ⟨L.block, i, none⟩ = some (.int .u8 z) := by
   intro i z hz
   obtain ⟨_, _, q⟩ := q7 i _ hz
   obtain ⟨v, hv1, hv2⟩ := q 0 _ rfl
   rw [hv2.int_inv] at hv1
   simp only [Nat.mul_one, Nat.add_zero] at hv1
   simp [World.cell?, q5, hv1]
  have hp1 : (Conv.bytesToString (.slice (some ⟨L.block, o, none⟩) n c)).run Tryz.prog w = .ok (.string ⟨x.toArray⟩) w := by
   obtain ⟨z, z1, z2⟩ := p1
   rw [z1, z2.str_inv]
  have hp2 : (Conv.bytesToString (.slice ad n cb)).run Tryz.prog w = .ok (.string ⟨x.toArray⟩) w := by
   obtain ⟨z, z1, z2⟩ := p2
   rw [z1, z2.str_inv]
  rw [hyl]
  refine call_enter Tryz.func26 (by kernel_rfl) (by kernel_rfl) ?_
  refine (kept_calls w L.block o c n ad cb x hp1 hp2 hn2 hn (cell _ _ m1) (cell _ _ (by rw [← Nat.add_assoc]; exact m2))).mono ?_
  rintro e w' ⟨rfl, rfl⟩
  exact ⟨ι, S, _, .bool true, hi, Step.refl ι S T h w'⟩
theorem ac_of : AC.Of gl0 Tryz.prog [58] GG := {
 mix := aa_of.mix
 stable := aa_of.stable
 glob := aa_of.glob
 fn := aa_of.fn
 prim := aa_of.prim
 primh := fun g p hp args h r hr ι S T w vals _ hi hl hv => by
  by_cases hg : g = 26
  ·subst hg
   have e : p = keptH := by
    have : AC.primh 26 = some keptH := rfl
    rw [this] at hp
    exact (Option.some.inj hp).symm
   subst e
   exact kept_ok hr hi hl hv
  ·have : AC.primh g = none := if_neg hg
   rw [this] at hp
   cases hp }
theorem law_callsC {g : Nat} {fn : Func} (hf : Tryz.prog.funcs[g]? = some fn) (hb : fn.body.isSome = true) (hn : (fn.name == "runtime.NumGoroutine") = false) {args : List AVal} (hs : callT AC g args [] = some (.bool true, [])) {w : World} {vals : Array Value}
  (hG : GG (fun b => b < w.heap.size) w) (hl : args.length = vals.size) (hr : ∀ (i : Nat) (c : AVal) (v : Value), args[i]? = some c → vals[i]? = some v → Rep (fun _ => none) (fun b => b < w.heap.size) (fun _ => False) w c v) :
  Go.Calls Tryz.prog g vals w fun e w' => e = .returned (.bool true) ∧ RowKit.Below w.heap.size w w' := by
 have hi : Inv (fun _ => none) (fun b => b < w.heap.size) (fun _ => False) [] w (Free.above 0) := ⟨by simp, by simp, by simp, fun _ _ => rfl, fun _ h => h, fun _ h => h.elim⟩
 have h := callT_sound ac_of g args [] (.bool true) [] hs _ _ _ w vals hG hi hl hr
 obtain ⟨c, hc⟩ := Option.isSome_iff_exists.1 hb
 have hrun : (callFunc g vals).run Tryz.prog w = .ok (.enter g vals) w := by
  have hn : ¬ fn.name = "runtime.NumGoroutine" := by simpa using hn
  simp [callFunc, hf, hn, hc]
 unfold CallOK at h
 rw [hrun] at h
 refine Go.Calls.mono h fun e w' he => ?_
 cases e with
 | returned v =>
  obtain ⟨ι', S', n', h1, h2, h3⟩ := he
  rw [h1.bool_inv]
  exact ⟨rfl, h3.os, h3.tape, h3.output, h3.size, fun k hk => h3.frame k hk fun ⟨e, he, _⟩ => by cases he⟩
 | panicked c => exact he.elim
 | outgrown => exact he.elim
end Go.Abs
namespace Go.Abs
open Am
set_option maxRecDepth 100000
def helloL : List UInt8 := [104, 101, 108, 108, 111]
def eA : Ent := ⟨[97], 2, 0, 0, 0, 0, [], .mk false false helloL⟩
def wA : List UInt8 := writeL [eA]
theorem checkA : (checkT [eA]).2 = 0 := by decide +kernel
theorem recsA : recsE eA = [] := by
 unfold recsE rst3 rst4 rst5 rst6 rst7
 have h1 : idB eA.gid = true := idB_iff.2 ⟨by decide, by decide⟩
 have h2 : linkE eA.link = true := rfl
 have h3 : timeB eA.time = true := timeB_iff.2 ⟨by decide, by decide⟩
 have h4 : (splitN eA.path).2.2 = true := by decide
 have h5 : idB eA.uid = true := idB_iff.2 ⟨by decide, by decide⟩
 rw [h1, h2, h3, h4, h5]
 rfl
theorem wA_eq : wA = encB (hdrE eA []) ++ (helloL ++ (List.replicate 507 0 ++ zeros1024)) := by
 unfold wA writeL outL pieceL preE
 rw [recsA, if_pos rfl]
 simp only [outL, List.nil_append, List.append_nil, List.append_assoc]
 rfl
theorem lenA : wA.length = 2048 := by
 rw [wA_eq]
 simp only [List.length_append, encB_length, zeros1024_length, List.length_replicate]
 rfl
theorem helloA : (wA.drop 512).take 5 = helloL := by
 rw [wA_eq, List.drop_left' (encB_length _), List.take_left' (show helloL.length = 5 from rfl)]
theorem readA (c t : Bool) : readE (.mk c t wA) = some [rdEnt eA] := readE_writeL c t checkA
set_option maxHeartbeats 4000000 in
theorem s14 : callT AA 14 [] [] = some (.bool true, []) := by
 have h17 : ∀ c t, callT AA 17 [.view 8 [.agg [.str [97], .int .i64 2, .int .i64 0, .int .i64 0, .int .i64 0, .int .i64 0, .str [], .view 1 [.int .u8 104, .int .u8 101, .int .u8 108, .int .u8 108, .int .u8 111] false false]] c t] [] = some (.tuple [.own 0 1 0 2048 false, .lit .nilIface], [(0, .row (wA.map .byte) 1)]) := by
  intro c t
  have h := w17 c t [eA] (by simp) (by simp) (by
   intro e he
   rw [List.mem_singleton.1 he]
   exact ⟨by decide, by decide, helloL, rfl, by decide⟩) (by rw [checkT_map Ent.cp same_cp]; exact checkA)
  rw [show writeL [eA] = wA from rfl, lenA] at h
  exact h
 have h24 : ∀ c t, callT AA 24 [.view 1 (wA.map .byte) c t] [] = some (.tuple [.own 0 8 0 1 false, .lit .nilIface], [(0, .row [.agg [.str [97], .int .i64 2, .int .i64 0, .int .i64 0, .int .i64 0, .int .i64 0, .str [], .view 1 (helloL.map .byte) false false]] 8)]) := by
  intro c t
  have h := s24 (.mk c t wA) (by simp only [BS.l]; rw [lenA]; omega)
  rw [readA] at h
  exact h
 have et : (wA.map AVal.byte).take 2048 = wA.map .byte := List.take_of_length_le (by rw [List.length_map, lenA]; omega)
 have hd : List.take 5 (List.drop 512 (wA.map AVal.byte)) = helloL.map .byte := by
  rw [← List.map_drop, ← List.map_take, helloA]
 have hh : decide (helloL = [104, 101, 108, 108, 111]) = true := rfl
 have h97 : decide (([97] : List UInt8) = [97]) = true := rfl
 have hl : (wA.map AVal.byte).length = 2048 := by rw [List.length_map, lenA]
 generalize wA = W at *
 refine enter fn14 np14 rfl ?_
 have gg:=trivial;repeat' first|simp (maxSteps:=2000000) (disch:=omega) only [gg,b14,h17,h24,et,hd,hh,h97,hl,sl_own_both,ldE_head,go_sem]|(refine br ?_ ?_<;>intro gg<;>try omega)|(apply And.intro;focus omega)|omega
end Go.Abs
namespace Go.Abs
open Go.Proofs Go.RowKit Go.ChangeShapes Go.WideShapes Go.Deep
set_option maxRecDepth 100000
/-- a value that is all old memory's -/
abbrev RepW (w : World) : AVal → Value → Prop := Rep (fun _ => none) (fun b => b < w.heap.size) (fun _ => False) w
section
variable {H : Type} {enc : TypeId × Value → H} {w : World} {n : Nat} {cs : List Value} {x : DataW H × List MemPlace}
theorem lt_of_cell {a : Addr} {v : Value} (h : w.cell? a = some v) : a.block < w.heap.size ∧ a.spot = none := by
 unfold World.cell? at h
 split at h
 ·rename_i c e f hb
  refine ⟨(Array.getElem?_eq_some_iff.1 hb).1, ?_⟩
  cases hs : a.spot with
  | none => rfl
  | some k => rw [hs] at h; simp at h
 ·cases h
theorem cell_add {b o i : Nat} {sp : Option Nat} {v : Value} (h : w.cell? ((⟨b, o, sp⟩ : Addr).add i) = some v) (hs : sp = none) : w.cell? ⟨b, o + i, none⟩ = some v := by
 subst hs
 rw [← h, Addr.add_none]
/-- no string, slice or map of it is larger than the reach -/
def Light (d : DataW H) (t : TypeId) : Prop := ∀ k ∈ d.weights Tryz.prog t, k ≤ reachBytes
theorem reach_eq : reachBytes = 140737488351232 := by decide
theorem bytes_of (hw : Light x.1 26) (h : DataW.trod enc Tryz.prog w 0 (fun _ => true) true n 26 cs = some x) : ∃ (b : BS) (v : Value), cs = [v] ∧ RepW w b.av v ∧ b.isTmp = false ∧ b.l.length ≤ 140737488351232 := by
 rcases open_ints Tryz.underlying26 Tryz.underlying5 (by kernel_rfl) h with ⟨hcs, _⟩ | ⟨a, l, c, zs, hcs, _, hl, hm, hz, hx, hcell, hwz⟩
 ·exact ⟨.nil, _, hcs, .lit _, rfl, by simp [BS.l]⟩
 ·simp only [if_true] at hz
  have hwt : zs.length ≤ 140737488351232 := by
   have hb : Tryz.prog.bytesOf 5 = 1 := by kernel_rfl
   rw [← reach_eq]
   refine hw _ ?_
   rw [hx]
   simp only [DataW.weights, Tryz.underlying26, hb, lits, List.length_map, List.length_take, List.length_drop]
   refine List.mem_cons.2 (.inl ?_)
   omega
  have hw : ∀ i, i < zs.length → 0 ≤ zs.getD i 0 ∧ zs.getD i 0 ≤ 255 := by
   intro i hi
   have := hwz (zs.getD i 0) (by rw [List.getD, List.getElem?_eq_getElem hi]; exact List.getElem_mem hi)
   simpa [Lit.wf, IntKind.min, IntKind.max, IntKind.signed, IntKind.bits] using this
  obtain ⟨b, o, sp⟩ := a
  have hsp : sp = none ∨ c = 0 := by
   rcases Nat.eq_zero_or_pos c with h0 | h0
   ·exact .inr h0
   ·exact .inl (by simpa [Addr.add] using (lt_of_cell (hcell 0 (by omega))).2)
  let bs := (zs.take l).map fun z => UInt8.ofNat z.toNat
  have hlen : bs.length = l := by simp [bs]; omega
  have hget : ∀ (i : Nat) (e : AVal), (bs.map AVal.byte)[i]? = some e → i < l ∧ e = .int .u8 (zs.getD i 0) := by
   intro i e he
   have hi : i < l := by
    have := (List.getElem?_eq_some_iff.1 he).1
    simpa [hlen] using this
   refine ⟨hi, ?_⟩
   have hiz : i < zs.length := by omega
   have e1 : zs[i]? = some zs[i] := List.getElem?_eq_getElem hiz
   have e2 : zs.getD i 0 = zs[i] := by rw [List.getD, e1]; rfl
   have hb := hw i hiz
   rw [e2] at hb ⊢
   have e3 : (bs.map AVal.byte)[i]? = some (AVal.byte (UInt8.ofNat zs[i].toNat)) := by
    simp only [bs, List.getElem?_map, List.getElem?_take, hi, if_true, e1, Option.map_some]
   rw [e3] at he
   cases he
   unfold AVal.byte
   congr 1
   simp
   omega
  have hcl : ∀ i, i < zs.length → w.cell? ⟨b, o + i, none⟩ = some (.int .u8 (zs.getD i 0)) := by
   intro i hi
   refine cell_add (hcell i hi) ?_
   rcases hsp with h | h
   ·exact h
   ·omega
  have hcl1 : ∀ i, i < zs.length → w.cell? ⟨b, o + i * 1, none⟩ = some (.int .u8 (zs.getD i 0)) := by
   intro i hi
   rw [Nat.mul_one]
   exact hcl i hi
  have := Rep.view (ι := fun _ => none) (S := fun b => b < w.heap.size) (T := fun _ => False) (w := w) 1 (bs.map AVal.byte) false false b o c sp (fun i _ => .int .u8 (zs.getD i 0)) hsp (by simp [hlen]; omega) (by simp)
   (fun i e he => by
    obtain ⟨hi, rfl⟩ := hget i e he
    exact (lt_of_cell (hcl i (by omega))).1)
   (fun i e he => by
    obtain ⟨hi, rfl⟩ := hget i e he
    rfl)
   (fun i e he => by
    obtain ⟨hi, rfl⟩ := hget i e he
    rfl)
   (fun i e j y he hy => by
    obtain ⟨hi, rfl⟩ := hget i e he
    match j, hy with
    | 0, _ => exact hcl1 i (by omega)
    | j + 1, hy => simp [AVal.cells] at hy)
   (fun i e j y he hy => by
    obtain ⟨hi, rfl⟩ := hget i e he
    match j, hy with
    | 0, hy =>
     simp [AVal.cells] at hy
     subst hy
     exact .int _ _
    | j + 1, hy => simp [AVal.cells] at hy)
  refine ⟨.mk false false bs, _, hcs, ?_, rfl, ?_⟩
  ·rw [List.length_map, hlen] at this
   exact this
  ·simp only [BS.l, hlen]
   omega
instance : Inhabited Ent := ⟨⟨[], 0, 0, 0, 0, 0, [], .nil⟩⟩
end
end Go.Abs
namespace Go.Abs
open Am
set_option maxRecDepth 10000
end Go.Abs
namespace Go.Abs
def b19 : AFn := ⟨1, 19, [(2, none)], (.seq (rg [oo 2 (.mov (ci 0))]) (.seq (.seq (rg [mv 5 0, oo 6 (.bin .eql (.iface [58]) true (.t 5) (.c (.lit .nilIface)))]) (.cond (.t 6) (.seq (rg [oo 2 (.mov (ci 0))]) .ret) .skip)) (.seq (rg [mv 8 0, oo 9 (.tass 58 true (.int .i64 0) (.t 8)), mv 7 9, oo 10 (.ext (.t 7) 0), oo 11 (.ext (.t 7) 1), mv 3 10, mv 4 11]) (.seq (.seq (rg [mv 12 4, oo 13 (.un .not (.t 12)), mv 14 13, og 15 (.mov (.t 3)) 14 false, og 16 (.bin .eql .other true (.t 15) (ci 0)) 14 false, oo 17 (.pick (.t 14) (.c (.bool true)) (.t 16))]) (.cond (.t 17) (.seq (rg [oo 2 (.mov (.c (.int .i64 (-1))))]) .ret) .skip)) (.seq (rg [mv 18 3, mv 2 18]) .ret)))))⟩
theorem fn19 : AA.fn 19 = some b19 := by kernel_rfl
theorem np19 : AA.prim 19 = none := rfl
end Go.Abs
namespace Go.Abs
open Am Lib
set_option maxRecDepth 100000
theorem s19w (n : Int) (hn : n ≠ 0) : callT AA 19 [.iface 58 (.int .i64 n)] [] = some (.int .i64 n, []) := by
 refine enter fn19 np19 rfl ?_
 have gg:=trivial;repeat' first|simp (maxSteps:=2000000) (disch:=omega) only [gg,b19,go_sem]|(refine br ?_ ?_<;>intro gg<;>try omega)|(apply And.intro;focus omega)|omega
theorem s19z : callT AA 19 [.lit .nilIface] [] = some (.int .i64 0, []) := by
 refine enter fn19 np19 rfl ?_
 have gg:=trivial;repeat' first|simp (maxSteps:=2000000) (disch:=omega) only [gg,b19,go_sem]|(refine br ?_ ?_<;>intro gg<;>try omega)|(apply And.intro;focus omega)|omega
end Go.Abs
namespace Go.Abs
open Am Lib
set_option maxRecDepth 100000
theorem ofInt_u8k (c : UInt8) : (BitVec.ofInt 8 (c.toNat : Int)).toNat = c.toNat := by
 have := c.toNat_lt
 rw [BitVec.toNat_ofInt]
 omega
theorem xor_255 (c : UInt8) {e : EqK} {cst : Bool} : aBin .xor e cst (.int .u8 c.toNat) (.int .u8 255) = some (.int .u8 (c ^^^ 255).toNat) := by
 have h := (c ^^^ 255).toNat_lt
 have e1 : (BitVec.ofInt IntKind.u8.bits (c.toNat : Int) ^^^ BitVec.ofInt IntKind.u8.bits (255 : Int)).toNat = (c ^^^ 255).toNat := by
  show (BitVec.ofInt 8 (c.toNat : Int) ^^^ BitVec.ofInt 8 (255 : Int)).toNat = (c ^^^ 255).toNat
  rw [BitVec.toNat_xor, ofInt_u8k, UInt8.toNat_xor]
  rfl
 show intOp .xor .u8 _ .u8 _ = _
 unfold intOp
 simp only [if_true]
 rw [e1, wrap_u8 (by omega) (by omega)]
theorem h27 (n : Nat) (tail R : List UInt8) (hn : n ≤ 1000000) : ∀ (rest done : List UInt8) (i : Int), i = done.length → done.length + rest.length = n → R = done ++ rest.map (· ^^^ 255) ++ tail →
  HD AA 1 [0, 4, 5] l27_0 ⟨[.own 0 1 0 n false, .junk, .junk, .junk, .int .i64 n, .int .i64 i, .junk, .junk, .junk, .junk, .junk, .junk, .junk, .junk, .junk], [(0, .row ((done ++ rest ++ tail).map .byte) 1)], 2⟩ [.blk 0] (Fin [] 1 (.tuple []) [(0, .row (R.map .byte) 1)])
 | [], done, i, h1, h2, h3 => by
  simp only [List.length_nil, List.map_nil, List.append_nil] at h2 h3 ⊢
  rw [← h3]
  refine hd_of (by unfold l27_0; rfl) ?_
  have gg:=trivial;repeat' first|simp (maxSteps:=2000000) (disch:=omega) only [gg,go_sem]|(refine br ?_ ?_<;>intro gg<;>try omega)|(apply And.intro;focus omega)|omega
 | x :: rest, done, i, h1, h2, h3 => by
  have hg : (done ++ x :: rest ++ tail)[i.toNat]? = some x := by
   rw [h1]
   simp
  have hx := (x ^^^ 255).toNat_lt
  simp only [List.length_cons] at h2
  have hs : (done ++ x :: rest ++ tail).set i.toNat (x ^^^ 255) = done ++ [x ^^^ 255] ++ rest ++ tail := by
   rw [h1]
   simp
  have hlen : (done ++ x :: rest ++ tail).length = n + tail.length := by simp; omega
  have ih := h27 n tail R hn rest (done ++ [x ^^^ 255]) (i + 1) (by simp; omega) (by simp; omega) (by rw [h3]; simp)
  generalize done ++ x :: rest ++ tail = cur at *
  generalize done ++ [x ^^^ 255] ++ rest ++ tail = nxt at *
  have hs2 : (cur.map AVal.byte).set i.toNat (.int .u8 ((x ^^^ 255).toNat : Int)) = nxt.map .byte := by
   rw [← hs, List.map_set]
   rfl
  refine hd_of (by unfold l27_0; rfl) ?_
  have gg:=trivial;repeat' first|simp (maxSteps:=2000000) (disch:=omega) only [gg,hg,xor_255,hs,hs2,hlen,lp_head,go_sem]|(refine br ?_ ?_<;>intro gg<;>try omega)|(apply And.intro;focus omega)|omega
theorem s27 (n : Nat) (l tail : List UInt8) (hn : n ≤ 1000000) (hl : l.length = n) : callT AA 27 [.own 0 1 0 n false] [(0, .row ((l ++ tail).map .byte) 1)] = some (.tuple [], [(0, .row ((l.map (· ^^^ 255) ++ tail).map .byte) 1)]) := by
 have hh := h27 n tail (l.map (· ^^^ 255) ++ tail) hn l [] 0 rfl (by simpa using hl) rfl
 simp only [List.nil_append] at hh
 refine enter fn27 np27 rfl ?_
 have gg:=trivial;repeat' first|simp (maxSteps:=2000000) (disch:=omega) only [gg,b27,lp_head,go_sem]|(refine br ?_ ?_<;>intro gg<;>try omega)|(apply And.intro;focus omega)|omega
theorem bytes_byte (l : List UInt8) : bytesOf (l.map AVal.byte) = some l := bytesOf_map l
theorem k26 (b : BS) (n : Nat) (hn : n ≤ 1000000) (hl : b.l.length = n) : callT AC 26 [.own 0 1 0 n false, b.av] [(0, .row ((b.l ++ marks).map .byte) 1)] = some (.bool true, [(0, .row ((b.l ++ marks).map .byte) 1)]) := by
 have e1 : elems [(0, .row ((b.l ++ marks).map AVal.byte) 1)] (.own 0 1 0 n false) = some (b.l.map .byte) := by
  have : 0 + n ≤ ((b.l ++ marks).map AVal.byte).length := by simp; omega
  show (if 0 + n ≤ ((b.l ++ marks).map AVal.byte).length then some ((((b.l ++ marks).map AVal.byte).drop 0).take n) else none) = _
  rw [if_pos this, List.drop_zero, List.map_append, List.take_left' (by rw [List.length_map]; exact hl)]
 have e2 : ∀ h : Heap, elems h b.av = some (b.l.map .byte) := by
  intro h
  cases b <;> rfl
 have g1 : ((b.l ++ marks).map AVal.byte)[0 + n]? = some (.int .u8 165) := by
  rw [Nat.zero_add, List.getElem?_map, List.getElem?_append_right (by omega), hl, Nat.sub_self]
  rfl
 have g2 : ((b.l ++ marks).map AVal.byte)[0 + n + 1]? = some (.int .u8 90) := by
  rw [Nat.zero_add, List.getElem?_map, List.getElem?_append_right (by omega), hl, Nat.add_sub_cancel_left]
  rfl
 have hk : keptH [.own 0 1 0 n false, b.av] [(0, .row ((b.l ++ marks).map .byte) 1)] = some (.bool true) := by
  unfold keptH
  simp only [e1, e2, Option.bind_some, bytes_byte]
  show (if b.l = b.l ∧ isB _ 165 = true ∧ isB _ 90 = true ∧ n ≤ 1000000000 then _ else _) = _
  rw [g1, g2]
  rw [if_pos ⟨rfl, rfl, rfl, by omega⟩]
 refine callT_iff.2 ⟨1, ?_⟩
 show (if (List.map (·.1) [(0, Node.row ((b.l ++ marks).map AVal.byte) 1)]).Nodup then (keptH [.own 0 1 0 n false, b.av] [(0, .row ((b.l ++ marks).map .byte) 1)]).map (·, [(0, Node.row ((b.l ++ marks).map AVal.byte) 1)]) else none) = _
 rw [if_pos (by simp), hk]
 rfl
@[go_sem] theorem AC_moves {g : Nat} : AC.moves g = movesT g := AA_moves
set_option maxHeartbeats 4000000 in
theorem s4 (b : BS) (hb : b.l.length ≤ 140737488351232) : callT AC 4 [b.av] [] = some (.bool true, []) := by
 have h14 := callT_extC s14
 refine enter fn4 rfl rfl ?_
 by_cases hl : b.l.length ≤ 65536
 ·have h23 := callT_extC (s23 b (by omega))
  have h24 := callT_extC (s24 (.mk false true b.l) (by rw [mk_l]; omega))
  rw [mk_av] at h24
  have h25 := callT_extC (s25 b hl)
  have h26 := k26 b b.l.length (by omega) rfl
  have h27 := callT_extC (s27 b.l.length b.l marks (by omega) rfl)
  have et : ((b.l ++ marks).map AVal.byte).take b.l.length = b.l.map .byte := by
   rw [List.map_append, List.take_left' (by simp)]
  have h20n := callT_extC s20n
  cases hR : readE (.mk false true b.l) with
  | none =>
   have hq : refR b.l = none := by
    cases hq : refR b.l with
    | none => rfl
    | some t =>
     have := (read_of_refR hq false true).1
     rw [hR] at this
     cases this
   have h19 := callT_extC (s19w 16 (by omega))
   rw [hR] at h24
   rw [hq] at h25
   unfold readV readH at h24
   unfold rqV readH at h25
   have gg:=trivial;repeat' first|simp (maxSteps:=2000000) (disch:=omega) only [gg,b4,h14,h23,h24,h25,h26,h27,h20n,h19,et,List.drop_zero,go_sem]|(refine br ?_ ?_<;>intro gg<;>try omega)|(apply And.intro;focus omega)|omega
  | some t =>
   have hq : refR b.l = some (t.map rdEnt) := by
    have := refR_of_read hR (by rw [mk_l]; omega)
    rw [mk_l] at this
    exact this
   obtain ⟨q1, q2, q3, q4⟩ := readE_rd hR (by rw [mk_l]; omega)
   have h19 := callT_extC s19z
   rw [hR] at h24
   rw [hq] at h25
   cases t with
   | nil =>
    unfold readV readH at h24
    simp only [List.map_nil] at h25
    unfold rqV readH at h25
    have gg:=trivial;repeat' first|simp (maxSteps:=2000000) (disch:=omega) only [gg,b4,h14,h23,h24,h25,h26,h27,h20n,h19,et,List.drop_zero,go_sem]|(refine br ?_ ?_<;>intro gg<;>try omega)|(apply And.intro;focus omega)|omega
   | cons e r =>
    have h20 := fun c t2 c2 => callT_extC (s20 c t2 c2 true (e :: r) ((e :: r).map rdEnt) (by omega) (by simp) (fun i x y hx hy => by
     rw [List.getElem?_map, hx] at hy
     cases hy
     exact same_rd x))
    rw [(readV_ne (by simp : e :: r ≠ [])).1, (readV_ne (by simp : e :: r ≠ [])).2] at h24
    have er : ((e :: r).map Ent.av).take (e :: r).length = (e :: r).map Ent.av := List.take_of_length_le (by rw [List.length_map]; exact Nat.le_refl _)
    have er2 : (((e :: r).map rdEnt).map Ent.av).take (e :: r).length = ((e :: r).map rdEnt).map Ent.av := List.take_of_length_le (by rw [List.length_map, List.length_map]; exact Nat.le_refl _)
    have e5 : rqV (some ((e :: r).map rdEnt)) = .tuple [.own 0 8 0 (e :: r).length false, .int .i64 0] := by
     show AVal.tuple [.own 0 8 0 (rdEnt e :: r.map rdEnt).length false, _] = _
     simp
    have e6 : readH (some ((e :: r).map rdEnt)) = [(0, .row (((e :: r).map rdEnt).map Ent.av) 8)] := rfl
    rw [e5, e6] at h25
    have hul : ((e :: r).map rdEnt).length = (e :: r).length := List.length_map ..
    generalize hu : (e :: r).map rdEnt = u at *
    generalize e :: r = t at *
    have gg:=trivial;repeat' first|simp (maxSteps:=2000000) (disch:=omega) only [gg,b4,h14,h23,h24,h25,h26,h27,h20,h19,et,er,er2,hul,List.drop_zero,go_sem]|(refine br ?_ ?_<;>intro gg<;>try omega)|(apply And.intro;focus omega)|omega
 ·have gg:=trivial;repeat' first|simp (maxSteps:=2000000) (disch:=omega) only [gg,b4,h14,go_sem]|(refine br ?_ ?_<;>intro gg<;>try omega)|(apply And.intro;focus omega)|omega
end Go.Abs
