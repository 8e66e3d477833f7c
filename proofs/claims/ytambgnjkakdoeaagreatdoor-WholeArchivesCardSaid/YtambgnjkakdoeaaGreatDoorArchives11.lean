import Derived.Test.YtambgnjkakdoeaaGreatDoorArchives10
import Derived.Lib.ValidLaws
/- PART OF A PROOF (texts joined by a program): F34 Q2 F35 Q3 F36 F37 B5 F60 F61 F62. -/
set_option linter.unusedVariables false
set_option linter.unusedSimpArgs false
set_option linter.unusedSectionVars false
namespace Go.Abs
open Am
set_option maxRecDepth 10000
theorem good_le {s : List UInt8} (h : goodB s = true) : s.length ≤ 400 := by
 unfold goodB at h
 simp only [Bool.and_eq_true, decide_eq_true_eq] at h
 exact h.1
theorem good_ne {s : List UInt8} (h : goodB s = true) : s ≠ [] := by
 rintro rfl
 have : goodB [] = false := by decide
 rw [this] at h
 cases h
theorem text_ne {s : List UInt8} {n : Int} (h : textB s n = true) : s ≠ [] ∧ (s.length : Int) ≤ n := by
 unfold textB at h
 simp only [Bool.and_eq_true, decide_eq_true_eq] at h
 exact ⟨h.1.1.1, h.1.1.2⟩
theorem meta_le {n least : Int} (h : metaB n least = true) : least ≤ n ∧ n ≤ 1099511627776 := by
 unfold metaB at h
 simpa using h
structure FieldsOk (e : Ent) : Prop where
 mode : 0 ≤ e.mode ∧ e.mode ≤ 4095
 uid : 0 ≤ e.uid ∧ e.uid ≤ 1099511627776
 gid : 0 ≤ e.gid ∧ e.gid ≤ 1099511627776
 time : -1099511627776 ≤ e.time ∧ e.time ≤ 1099511627776
 link : e.link.length ≤ 400
 data : e.data.l.length ≤ 65536
 kinds : (e.kind = 1 ∧ e.link = [] ∧ e.data.l.length = 0) ∨ (e.kind = 2 ∧ e.link = []) ∨ (e.kind = 3 ∧ e.link ≠ [] ∧ e.data.l.length = 0) ∨ (e.kind = 4 ∧ e.link ≠ [] ∧ e.data.l.length = 0)
theorem fields_ok {e : Ent} (h : fieldsB e = true) : FieldsOk e := by
 unfold fieldsB at h
 by_cases c1 : e.mode < 0 ∨ 4095 < e.mode
 ·rw [if_pos c1] at h; cases h
 rw [if_neg c1] at h
 by_cases c2 : metaB e.uid 0 = false ∨ metaB e.gid 0 = false ∨ metaB e.time (-1099511627776) = false
 ·rw [if_pos c2] at h; cases h
 rw [if_neg c2] at h
 have m1 : metaB e.uid 0 = true := by
  cases hm : metaB e.uid 0 with
  | true => rfl
  | false => exact (c2 (.inl hm)).elim
 have m2 : metaB e.gid 0 = true := by
  cases hm : metaB e.gid 0 with
  | true => rfl
  | false => exact (c2 (.inr (.inl hm))).elim
 have m3 : metaB e.time (-1099511627776) = true := by
  cases hm : metaB e.time (-1099511627776) with
  | true => rfl
  | false => exact (c2 (.inr (.inr hm))).elim
 have m1 := meta_le m1
 have m2 := meta_le m2
 have m3 := meta_le m3
 have key : e.link.length ≤ 400 ∧ e.data.l.length ≤ 65536 ∧ ((e.kind = 1 ∧ e.link = [] ∧ e.data.l.length = 0) ∨ (e.kind = 2 ∧ e.link = []) ∨ (e.kind = 3 ∧ e.link ≠ [] ∧ e.data.l.length = 0) ∨ (e.kind = 4 ∧ e.link ≠ [] ∧ e.data.l.length = 0)) := by
  by_cases k1 : e.kind = 1
  ·rw [if_pos k1] at h
   simp only [Bool.and_eq_true, decide_eq_true_eq] at h
   exact ⟨by rw [h.1]; simp, by omega, .inl ⟨k1, h.1, h.2⟩⟩
  rw [if_neg k1] at h
  by_cases k2 : e.kind = 2
  ·rw [if_pos k2] at h
   simp only [Bool.and_eq_true, decide_eq_true_eq] at h
   exact ⟨by rw [h.1]; simp, by omega, .inr (.inl ⟨k2, h.1⟩)⟩
  rw [if_neg k2] at h
  by_cases k3 : e.kind = 3
  ·rw [if_pos k3] at h
   simp only [Bool.and_eq_true, decide_eq_true_eq] at h
   have ht := text_ne h.1
   exact ⟨by omega, by omega, .inr (.inr (.inl ⟨k3, ht.1, h.2⟩))⟩
  rw [if_neg k3] at h
  by_cases k4 : e.kind = 4
  ·rw [if_pos k4] at h
   simp only [Bool.and_eq_true, decide_eq_true_eq] at h
   exact ⟨good_le h.1.1.1.1.1, by omega, .inr (.inr (.inr ⟨k4, good_ne h.1.1.1.1.1, h.1.1.1.1.2⟩))⟩
  rw [if_neg k4] at h
  cases h
 exact ⟨by omega, by omega, by omega, by omega, key.1, key.2.1, key.2.2⟩
theorem entryE_good {c : Ck} {e : Ent} (h : (entryE c e).1 = 0) : goodB e.path = true ∧ fieldsB e = true := by
 unfold entryE at h
 by_cases g1 : goodB e.path = false
 ·rw [if_pos g1] at h; simp at h
 rw [if_neg g1] at h
 by_cases g2 : fieldsB e = false
 ·rw [if_pos g2] at h; simp at h
 exact ⟨by simpa using g1, by simpa using g2⟩
theorem checkL_good : ∀ (t : List Ent) (c : Ck) (i : Int), 0 ≤ i → (checkL c i t).2 = 0 → ∀ e ∈ t, goodB e.path = true ∧ fieldsB e = true
 | [], _, _, _, _, e, he => by cases he
 | e :: r, c, i, hi, h, x, hx => by
  unfold checkL at h
  by_cases g : (entryE c e).1 = 0
  ·rw [if_pos g] at h
   rcases List.mem_cons.1 hx with rfl | hx
   ·exact entryE_good g
   ·exact checkL_good r _ (i + 1) (by omega) h x hx
  ·rw [if_neg g] at h
   exact (g h).elim
theorem checkT_good {t : List Ent} (h : (checkT t).2 = 0) : t.length ≤ 200 ∧ ∀ e ∈ t, goodB e.path = true ∧ fieldsB e = true := by
 unfold checkT at h
 by_cases c : 200 < t.length
 ·rw [if_pos c] at h; simp at h
 ·rw [if_neg c] at h
  exact ⟨by omega, checkL_good t _ 0 (by omega) h⟩
theorem hdrE_eq (e : Ent) : hdrE e (recsE e) = ⟨if (splitN e.path).2.2 then e.path else paxB, e.mode, if idB e.uid then e.uid else 0, if idB e.gid then e.gid else 0, e.data.l.length, if timeB e.time then e.time else 0, typeB e.kind, if linkE e.link then e.link else paxB⟩ := by
 unfold hdrE recsE rst3 rst4 rst5 rst6 rst7
 cases idB e.gid <;> cases linkE e.link <;> cases timeB e.time <;> cases (splitN e.path).2.2 <;> cases idB e.uid <;> simp [recIf, setR, hdE, gidB, linkpathB, mtimeB, pathB, uidB]
theorem split_paxB : (splitN paxB).2.2 = true := by decide
theorem link_paxB : linkB paxB = true := by unfold linkB; decide
theorem linkE_ne {l : List UInt8} (h : l ≠ []) : linkE l = linkB l := by
 unfold linkE
 simp [h]
theorem idB_zero : idB 0 = true := idB_iff.2 (by omega)
theorem timeB_zero : timeB 0 = true := timeB_iff.2 (by omega)
theorem encOk_hdrE {e : Ent} (h : FieldsOk e) : encOk (hdrE e (recsE e)) = true := by
 rw [hdrE_eq]
 unfold encOk fitsB
 simp only [Bool.and_eq_true]
 refine ⟨?_, ⟨⟨⟨⟨?_, ?_⟩, ?_⟩, ?_⟩, ?_⟩, ?_⟩
 ·split
  ·assumption
  ·exact split_paxB
 ·exact idB_iff.2 (by have := h.mode; omega)
 ·split
  ·assumption
  ·exact idB_zero
 ·split
  ·assumption
  ·exact idB_zero
 ·exact timeB_iff.2 (by have := h.data; omega)
 ·split
  ·assumption
  ·exact timeB_zero
 ·rcases h.kinds with ⟨k, hl, hd⟩ | ⟨k, hl⟩ | ⟨k, hl, hd⟩ | ⟨k, hl, hd⟩
  ·have hn : linkE ([] : List UInt8) = true := rfl
   simp [k, hl, hd, typeB, hn]
  ·have hn : linkE ([] : List UInt8) = true := rfl
   simp [k, hl, typeB, hn]
  ·rw [linkE_ne hl]
   cases hb : linkB e.link <;> simp [k, hd, typeB, hb, link_paxB]
  ·rw [linkE_ne hl]
   cases hb : linkB e.link <;> simp [k, hd, typeB, hb, link_paxB]
theorem paxE_some : ∀ (rs : List Rcd) (p : Option Rcd) (out : List UInt8), (∀ r ∈ rs, lineOk r.key r.value = true ∧ (lineB r.key r.value).length ≤ 600) → (match p with | none => rs | some p => p :: rs).Pairwise (fun a b : Rcd => Op.bytesLess a.key b.key = true) → out.length + 600 * rs.length ≤ 65536 → (paxE p out rs).isSome = true
 | [], _, _, _, _, _ => rfl
 | r :: rs, p, out, h1, h2, h3 => by
  obtain ⟨g1, g2⟩ := h1 r (by simp)
  simp only [List.length_cons] at h3
  have hs : paxStep p out r = true := by
   unfold paxStep
   simp only [Bool.and_eq_true, decide_eq_true_eq]
   refine ⟨⟨g1, ?_⟩, by omega⟩
   cases p with
   | none => rfl
   | some p => exact (List.pairwise_cons.1 h2).1 r (by simp)
  unfold paxE
  rw [if_pos hs]
  refine paxE_some rs (some r) _ (fun x hx => h1 x (by simp [hx])) ?_ ?_
  ·cases p with
   | none => exact h2
   | some p => exact (List.pairwise_cons.1 h2).2
  ·rw [List.length_append]
   omega
theorem lineOk_short {k v : List UInt8} (hk : kwB k = true) (hv : v.length ≤ 400) : lineOk k v = true ∧ (lineB k v).length ≤ 600 := by
 have hkl : k.length ≤ 100 := by
  unfold kwB at hk
  simp only [Bool.and_eq_true, decide_eq_true_eq] at hk
  exact hk.1.2
 have h1 := restP_length (k := k) (v := v)
 have h2 := paxLen_le (rest := ((restP k v).length : Int)) (by omega) (by omega)
 have h3 := lineB_length hkl (v := v) (by omega)
 unfold lineOk
 refine ⟨?_, by omega⟩
 simp only [Bool.and_eq_true, decide_eq_true_eq]
 exact ⟨⟨hk, by omega⟩, by omega⟩
theorem recs_keys (e : Ent) : ((recsE e).map Rcd.key).Pairwise (fun a b => Op.bytesLess a b = true) := by
 unfold recsE rst3 rst4 rst5 rst6 rst7
 cases idB e.gid <;> cases linkE e.link <;> cases timeB e.time <;> cases (splitN e.path).2.2 <;> cases idB e.uid <;> simp only [recIf, if_true, if_false, List.nil_append, List.cons_append, List.map_cons, List.map_nil, Bool.false_eq_true] <;> decide
theorem recs_short {e : Ent} (hf : FieldsOk e) (hp : e.path.length ≤ 400) : ∀ r ∈ recsE e, kwB r.key = true ∧ r.value.length ≤ 400 := by
 have k1 : kwB gidB = true := by decide
 have k2 : kwB linkpathB = true := by decide
 have k3 : kwB mtimeB = true := by decide
 have k4 : kwB pathB = true := by decide
 have k5 : kwB uidB = true := by decide
 have v1 := itoa_le (n := e.gid) (by have := hf.gid; omega) (by have := hf.gid; omega)
 have v3 := itoa_le (n := e.time) (by have := hf.time; omega) (by have := hf.time; omega)
 have v5 := itoa_le (n := e.uid) (by have := hf.uid; omega) (by have := hf.uid; omega)
 have v2 := hf.link
 have key : ∀ (f : Bool) (k v : List UInt8), kwB k = true → v.length ≤ 400 → ∀ r ∈ recIf f k v, kwB r.key = true ∧ r.value.length ≤ 400 := by
  intro f k v hk hv r hr
  unfold recIf at hr
  cases f with
  | true => simp at hr
  | false => simp at hr; subst hr; exact ⟨hk, hv⟩
 intro r hr
 unfold recsE rst3 rst4 rst5 rst6 rst7 at hr
 simp only [List.mem_append] at hr
 rcases hr with hr | hr | hr | hr | hr
 ·exact key _ _ _ k1 (by omega) r hr
 ·exact key _ _ _ k2 (by omega) r hr
 ·exact key _ _ _ k3 (by omega) r hr
 ·exact key _ _ _ k4 (by omega) r hr
 ·exact key _ _ _ k5 (by omega) r hr
theorem recs_some {e : Ent} (hf : FieldsOk e) (hp : e.path.length ≤ 400) : (paxE none [] (recsE e)).isSome = true := by
 refine paxE_some _ none [] (fun r hr => ?_) ?_ ?_
 ·obtain ⟨h1, h2⟩ := recs_short hf hp r hr
  exact lineOk_short h1 h2
 ·exact List.pairwise_map.1 (recs_keys e)
 ·have := recsE_length e
  simp
  omega
theorem dec_digit {u : Nat} : ∀ c ∈ Lib.decDigits u, 48 ≤ c.toNat ∧ c.toNat ≤ 57 := by
 intro c hc
 rw [Lib.decDigits_eq] at hc
 obtain ⟨t, _, rfl⟩ := List.mem_map.1 hc
 unfold Lib.dg
 have h : (UInt8.ofNat (48 + u / 10 ^ (Lib.nDigits u - 1 - t) % 10)).toNat = 48 + u / 10 ^ (Lib.nDigits u - 1 - t) % 10 := UInt8.toNat_ofNat_of_lt' (by simp [UInt8.size]; omega)
 rw [h]
 omega
theorem itoa_nat (n : Nat) : Lib.itoa n = Lib.decDigits n := by
 unfold Lib.itoa
 rw [if_neg (by omega)]
 rfl
theorem split_num (n : Nat) (hn : n < 201) : (splitN ([112, 97, 120, 47] ++ Lib.itoa n)).2.2 = true := by
 have h1 := itoa_le (n := (n : Int)) (by omega) (by omega)
 have ha : asciiB ([112, 97, 120, 47] ++ Lib.itoa n) = true := by
  unfold asciiB
  rw [List.all_append, itoa_nat]
  simp only [Bool.and_eq_true]
  refine ⟨rfl, List.all_eq_true.2 fun c hc => ?_⟩
  have := dec_digit c hc
  unfold okByte
  simp only [decide_eq_true_eq]
  omega
 unfold splitN
 rw [if_neg (by rw [ha]; simp), if_pos (by simp; omega)]
theorem encOk_hdX {n : Nat} (hn : n < 201) {body : List UInt8} (hb : body.length ≤ 65536) : encOk (hdX n body) = true := by
 unfold encOk hdX fitsB
 simp only [Bool.and_eq_true]
 refine ⟨split_num n hn, ⟨⟨⟨⟨idB_zero, idB_zero⟩, idB_zero⟩, timeB_iff.2 (by omega)⟩, timeB_zero⟩, ?_⟩
 simp
theorem entB_of {e : Ent} (hf : FieldsOk e) (hp : e.path.length ≤ 400) : EntB e := by
 have := hf.gid; have := hf.uid; have := hf.time; have := hf.link
 refine ⟨?_, ?_, ?_, ?_, ?_, ?_, ?_, ?_⟩ <;> omega
theorem pieceOk_of {e : Ent} (hf : FieldsOk e) (hp : e.path.length ≤ 400) {n : Nat} (hn : n < 201) : pieceOk n e := by
 refine ⟨encOk_hdrE hf, fun _ => ⟨recs_some hf hp, encOk_hdX hn ?_⟩⟩
 unfold bodyE
 obtain ⟨o, ho⟩ := Option.isSome_iff_exists.1 (recs_some hf hp)
 rw [ho]
 exact paxE_le _ _ _ _ (by simp) ho
theorem piecesOk_of : ∀ (t : List Ent) (i : Nat), i + t.length ≤ 200 → (∀ e ∈ t, goodB e.path = true ∧ fieldsB e = true) → PiecesOk i t
 | [], _, _, _ => trivial
 | e :: r, i, h, hg => by
  obtain ⟨g1, g2⟩ := hg e (by simp)
  have hf := fields_ok g2
  have hp := good_le g1
  simp only [List.length_cons] at h
  exact ⟨entB_of hf hp, by have := hf.data; omega, pieceOk_of hf hp (by omega), piecesOk_of r (i + 1) (by omega) fun x hx => hg x (by simp [hx])⟩
theorem fieldsB_cp {e : Ent} : fieldsB e.cp = fieldsB e := by
 unfold fieldsB
 show (if e.mode < 0 ∨ 4095 < e.mode then false else _) = _
 have : e.cp.data.l = e.data.l := cp_l
 rw [this]
 rfl
theorem checkT_pieces {t : List Ent} (h : (checkT (t.map Ent.cp)).2 = 0) : PiecesOk 0 t := by
 obtain ⟨h1, h2⟩ := checkT_good h
 rw [List.length_map] at h1
 refine piecesOk_of t 0 (by omega) fun e he => ?_
 have := h2 e.cp (List.mem_map_of_mem he)
 rw [fieldsB_cp] at this
 exact this
end Go.Abs
namespace Go.Abs
open Am
set_option maxRecDepth 10000
theorem parse_app : ∀ (a b : List UInt8) (acc u : Nat), Lib.parseUint10 acc a = .ok u → Lib.parseUint10 acc (a ++ b) = Lib.parseUint10 u b
 | [], b, acc, u, h => by
  simp only [Lib.parseUint10] at h
  cases h
  rfl
 | c :: a, b, acc, u, h => by
  simp only [Lib.parseUint10, List.cons_append] at h ⊢
  by_cases c1 : 48 ≤ c.toNat ∧ c.toNat ≤ 57
  ·rw [if_pos c1] at h ⊢
   by_cases c2 : 1844674407370955162 ≤ acc
   ·rw [if_pos c2] at h; cases h
   rw [if_neg c2] at h ⊢
   by_cases c3 : 18446744073709551616 ≤ acc * 10 + (c.toNat - 48)
   ·rw [if_pos c3] at h; cases h
   rw [if_neg c3] at h ⊢
   exact parse_app a b _ u h
  ·rw [if_neg c1] at h; cases h
theorem dg_toNat {k : Nat} (h : k < 10) : (UInt8.ofNat (48 + k)).toNat = 48 + k := UInt8.toNat_ofNat_of_lt' (by simp [UInt8.size]; omega)
theorem parse_dec (u : Nat) : u < 9223372036854775808 → Lib.parseUint10 0 (Lib.decDigits u) = .ok u := by
 induction u using Nat.strongRecOn with
 | _ u ih =>
  intro hu
  by_cases h : u < 10
  ·rw [Lib.decDigits, dif_pos h]
   simp only [Lib.parseUint10]
   rw [dg_toNat h, if_pos (by omega), if_neg (by omega), if_neg (by omega)]
   simp
  ·rw [Lib.decDigits, dif_neg h, parse_app _ _ _ _ (ih (u / 10) (by omega) (by omega))]
   simp only [Lib.parseUint10]
   rw [dg_toNat (by omega), if_pos (by omega), if_neg (by omega), if_neg (by omega)]
   congr 1
   omega
theorem dec_ne (u : Nat) : Lib.decDigits u ≠ [] := by
 intro h
 have := congrArg List.length h
 rw [Lib.decDigits_length] at this
 have := Lib.nDigits_pos u
 simp at *
 omega
theorem atoi_itoa {n : Int} (h1 : -9223372036854775808 ≤ n) (h2 : n ≤ 9223372036854775807) : Lib.atoiAll (Lib.itoa n) = .ok n := by
 unfold Lib.itoa
 by_cases hn : n < 0
 ·rw [if_pos hn]
  unfold Lib.atoiAll
  simp only []
  have h45 : (45 : UInt8).toNat = 45 := rfl
  rw [h45, if_pos (by omega)]
  unfold Lib.parseMag
  rw [if_neg (dec_ne _)]
  by_cases hm : n = -9223372036854775808
  ·subst hm
   have : Lib.parseUint10 0 (Lib.decDigits (-9223372036854775808 : Int).natAbs) = .ok 9223372036854775808 := by
    have e : (-9223372036854775808 : Int).natAbs = 9223372036854775808 := rfl
    rw [e, Lib.decDigits, dif_neg (by omega), parse_app _ _ _ _ (parse_dec (9223372036854775808 / 10) (by omega))]
    simp only [Lib.parseUint10]
    rw [dg_toNat (by omega), if_pos (by omega), if_neg (by omega), if_neg (by omega)]
   rw [this]
   rfl
  ·rw [parse_dec _ (by omega)]
   simp only []
   rw [if_neg (by simp), if_neg (by omega), if_pos trivial]
   congr 1
   omega
 ·rw [if_neg hn]
  obtain ⟨c, r, hc⟩ : ∃ c r, Lib.decDigits n.toNat = c :: r := List.exists_cons_of_ne_nil (dec_ne _)
  have hd := dec_digit (u := n.toNat) c (by rw [hc]; simp)
  have hp := parse_dec n.toNat (by omega)
  rw [hc] at hp ⊢
  unfold Lib.atoiAll
  simp only []
  rw [if_neg (by omega)]
  unfold Lib.parseMag
  rw [if_neg (by simp), hp]
  simp only []
  rw [if_neg (by omega), if_neg (by omega), if_neg (by omega)]
  congr 1
  omega
theorem atoiV_itoa {n : Int} (h1 : -9223372036854775808 ≤ n) (h2 : n ≤ 9223372036854775807) : atoiV (Lib.itoa n) = n ∧ atoiOk (Lib.itoa n) = true := by
 unfold atoiV atoiOk
 rw [atoi_itoa h1 h2]
 exact ⟨rfl, rfl⟩
theorem lenF_fix (rest : Int) (hr : 0 ≤ rest) (hr' : rest ≤ 1000000) : ∀ (k : Nat) (n d : Int), n = rest + d → 7 ≤ d + k → 1 ≤ d → d ≤ 7 → d ≤ digs n → lenF rest k n = rest + digs (lenF rest k n)
 | 0, n, d, h1, h2, h3, h4, h5 => by
  have h6 := digs_le7 (a := n) (by omega) (by omega)
  unfold lenF
  omega
 | k + 1, n, d, h1, h2, h3, h4, h5 => by
  have h6 := digs_le7 (a := n) (by omega) (by omega)
  unfold lenF
  by_cases hn : n = rest + digs n
  ·rw [if_pos hn]
   exact hn
  ·rw [if_neg hn]
   have hm := digs_mono (a := n) (b := rest + digs n) (by omega) (by omega)
   exact lenF_fix rest hr hr' k (rest + digs n) (digs n) rfl (by omega) (by omega) h6 hm
theorem paxLen_fix {rest : Int} (hr : 0 ≤ rest) (hr' : rest ≤ 1000000) : paxLen rest = rest + digs (paxLen rest) :=
 lenF_fix rest hr hr' 6 (rest + 1) 1 rfl (by omega) (by omega) (by omega) (digs_pos (by omega))
theorem lineB_len {k v : List UInt8} (h : (restP k v).length ≤ 1000000) : ((lineB k v).length : Int) = paxLen (restP k v).length := by
 have := paxLen_fix (rest := ((restP k v).length : Int)) (by omega) (by omega)
 unfold lineB
 rw [List.length_append]
 unfold digs at this
 omega
theorem indexByte_app (c : UInt8) : ∀ (a r : List UInt8), (∀ x ∈ a, x ≠ c) → Lib.indexByte (a ++ c :: r) c = a.length
 | [], r, _ => by simp [Lib.indexByte]
 | x :: a, r, h => by
  have hx : x ≠ c := h x (by simp)
  have ih := indexByte_app c a r fun y hy => h y (by simp [hy])
  simp only [List.cons_append, Lib.indexByte]
  have hb : (x == c) = false := by simpa using hx
  rw [hb, ih]
  simp
theorem kw_ne {k : List UInt8} (hk : kwB k = true) : ∀ x ∈ k, x ≠ 61 := by
 unfold kwB at hk
 simp only [Bool.and_eq_true] at hk
 intro x hx
 have := List.all_eq_true.1 hk.2 x hx
 unfold kwByte at this
 simp only [Bool.and_eq_true, decide_eq_true_eq] at this
 rintro rfl
 exact this.2 rfl
theorem firstP_line {k v r : List UInt8} (h : lineOk k v = true) : firstP (lineB k v ++ r) = ((⟨k, v⟩ : Rcd), ((lineB k v).length : Int)) := by
 have hlo := h
 unfold lineOk at h
 simp only [Bool.and_eq_true, decide_eq_true_eq] at h
 obtain ⟨⟨hk, hv⟩, hp⟩ := h
 have hkl : k.length ≤ 100 := by
  unfold kwB at hk
  simp only [Bool.and_eq_true, decide_eq_true_eq] at hk
  exact hk.1.2
 have hrl := restP_length (k := k) (v := v)
 have hN := lineB_len (k := k) (v := v) (by omega)
 have hpl := paxLen_le (rest := ((restP k v).length : Int)) (by omega) (by omega)
 generalize hNN : paxLen ((restP k v).length : Int) = N at *
 have hat := atoiV_itoa (n := N) (by omega) (by omega)
 have hdig : ∀ c ∈ Lib.itoa N, c ≠ 32 := by
  intro c hc
  have e : Lib.itoa N = Lib.decDigits N.toNat := by
   rw [← itoa_nat]
   congr 1
   omega
  rw [e] at hc
  have := dec_digit c hc
  rintro rfl
  simp at this
 have hl : lineB k v = Lib.itoa N ++ restP k v := by unfold lineB; rw [hNN]
 have hlen : (lineB k v).length = (Lib.itoa N).length + (restP k v).length := by rw [hl, List.length_append]
 have hD : fstD (lineB k v ++ r) = Lib.itoa N := by
  unfold fstD
  rw [hl, List.append_assoc, aheadOf_app 32 _ _ hdig]
  simp [restP, aheadOf]
 have hFN : fstN (lineB k v ++ r) = N := by
  unfold fstN
  rw [hD]
  exact hat.1
 have hR : fstR (lineB k v ++ r) = k ++ 61 :: (v ++ [10]) := by
  unfold fstR
  rw [hFN, hD, hl]
  have e : Lib.itoa N ++ restP k v ++ r = (Lib.itoa N ++ [32]) ++ ((k ++ 61 :: (v ++ [10])) ++ r) := by simp [restP]
  rw [e]
  refine dt_mid (by simp) ?_
  simp only [List.length_append, List.length_cons, List.length_nil] at *
  omega
 have hix : Lib.indexByte (k ++ 61 :: (v ++ [10])) 61 = k.length := indexByte_app 61 k _ (kw_ne hk)
 have hc : cutB 61 (k ++ 61 :: (v ++ [10])) = (k, v ++ [10], true) := by
  unfold cutB
  rw [hix, if_pos (by omega)]
  have e : ((k.length : Int)).toNat = k.length := by omega
  rw [e, List.take_left' rfl, show k ++ 61 :: (v ++ [10]) = (k ++ [61]) ++ (v ++ [10]) by simp, List.drop_left' (by simp)]
 have hs : hasSuf (v ++ [10]) [10] = true := by simp [hasSuf]
 have hV : fstV (lineB k v ++ r) = v := by
  unfold fstV cutSuf
  rw [hR, hc]
  simp only []
  rw [if_pos hs]
  simp
 have hK : fstK (lineB k v ++ r) = k := by
  unfold fstK
  rw [hR, hc]
 have hi : 0 ≤ Lib.indexByte (lineB k v ++ r) 32 := by
  have : Lib.indexByte (lineB k v ++ r) 32 = (Lib.itoa N).length := by
   rw [hl]
   have e : Lib.itoa N ++ restP k v ++ r = Lib.itoa N ++ 32 :: ((k ++ [61] ++ v ++ [10]) ++ r) := by simp [restP]
   rw [e]
   exact indexByte_app 32 _ _ hdig
  omega
 have hok1 : fstOk1 (lineB k v ++ r) = true := by
  unfold fstOk1
  rw [hFN, hD, hat.2, List.length_append]
  simp only [Bool.and_eq_true, decide_eq_true_eq]
  refine ⟨⟨⟨hi, trivial⟩, ?_⟩, ?_⟩ <;> omega
 have hok : fstOk (lineB k v ++ r) = true := by
  unfold fstOk
  rw [hok1, hK, hV, hFN, hR, hc]
  simp only [Bool.true_and, Bool.and_eq_true, decide_eq_true_eq]
  refine ⟨⟨hs, hlo⟩, ?_⟩
  rw [List.take_left' (by omega)]
 unfold firstP
 rw [if_pos hok, hK, hV, hFN, hN]
theorem dec_enc : ∀ (rs : List Rcd) (p : Option Rcd) (out o : List UInt8), paxE p out rs = some o → ∃ L, o = out ++ L ∧ ∀ (k : Nat) (acc : List Rcd), L.length ≤ k → decP k p acc L = some (acc ++ rs)
 | [], p, out, o, h => by
  unfold paxE at h
  cases h
  refine ⟨[], by simp, fun k acc _ => ?_⟩
  cases k <;> simp [decP]
 | r :: rs, p, out, o, h => by
  unfold paxE at h
  by_cases hs : paxStep p out r = true
  ·rw [if_pos hs] at h
   obtain ⟨L, h1, h2⟩ := dec_enc rs _ _ _ h
   unfold paxStep at hs
   simp only [Bool.and_eq_true, decide_eq_true_eq] at hs
   obtain ⟨⟨s1, s2⟩, s3⟩ := hs
   have hpos := lineB_pos (k := r.key) (v := r.value)
   refine ⟨lineB r.key r.value ++ L, by rw [h1, List.append_assoc], fun k acc hk => ?_⟩
   rw [List.length_append] at hk
   obtain ⟨k, rfl⟩ : ∃ j, k = j + 1 := ⟨k - 1, by omega⟩
   unfold decP
   have hne : lineB r.key r.value ++ L ≠ [] := by
    intro hh
    have := congrArg List.length hh
    rw [List.length_append] at this
    simp at this
    rw [this.1] at hpos
    cases hpos
   rw [if_neg hne, firstP_line s1]
   simp only []
   have ha : aftB p ⟨r.key, r.value⟩ = true := by
    cases p with
    | none => rfl
    | some p => exact s2
   rw [if_neg (fun h => by rcases h with h | h; (omega); (rw [ha] at h; cases h))]
   have e : (((lineB r.key r.value).length : Int)).toNat = (lineB r.key r.value).length := by omega
   rw [e, List.drop_left' rfl, h2 k _ (by omega)]
   simp
  ·rw [if_neg hs] at h
   cases h
theorem paxD_paxE {rs : List Rcd} {o : List UInt8} (h : paxE none [] rs = some o) : paxD o = some rs := by
 have hl := paxE_le _ _ _ _ (by simp) h
 obtain ⟨L, h1, h2⟩ := dec_enc rs none [] o h
 simp only [List.nil_append] at h1
 subst h1
 unfold paxD
 rw [if_neg (by omega), h2 _ [] (Nat.le_refl _)]
 simp
end Go.Abs
namespace Go.Abs
open Am
set_option maxRecDepth 10000
theorem sl_le (a : BS) (i j : Nat) : (a.sl i j).l.length ≤ a.l.length - i := by
 rw [BS.sl_l, List.length_take, List.length_drop]
 omega
theorem hdrR_lt {b : BS} (h : (rdH b).2.2 = true) : (hdrR b).l.length + 512 ≤ b.l.length := by
 unfold rdH at h
 by_cases c1 : b.l.length < 512 ∨ decOk (b.sl 0 512).l = false
 ·rw [if_pos c1] at h; cases h
 have c2 : ¬ b.l.length < 512 := fun hh => c1 (.inl hh)
 have c3 : ¬ decOk (b.sl 0 512).l = false := fun hh => c1 (.inr hh)
 unfold hdrR
 rw [if_neg c2, if_neg c3]
 have h1 := sl_le b 512 b.l.length
 split
 ·have h2 := sl_le (b.sl 512 b.l.length) (wholeN (decH (b.sl 0 512).l).size).toNat (b.sl 512 b.l.length).l.length
  omega
 ·omega
theorem decH_le (l : List UInt8) : (decH l).path.length ≤ 1000000 ∧ (decH l).link.length ≤ 1000000 := by
 have h1 := textF_le l 345 155
 have h2 := textF_le l 0 100
 have h3 := textF_le l 157 100
 unfold decH
 refine ⟨?_, by show (textF l 157 100).length ≤ _; omega⟩
 show (if textF l 345 155 = [] then textF l 0 100 else textF l 345 155 ++ [47] ++ textF l 0 100).length ≤ _
 split
 ·omega
 ·simp only [List.length_append, List.length_cons, List.length_nil]; omega
theorem rdH_le2 (b : BS) : (rdH b).1.path.length ≤ 1000000 ∧ (rdH b).1.link.length ≤ 1000000 := by
 unfold rdH
 split
 ·exact ⟨by decide, by decide⟩
 ·split <;> exact decH_le _
theorem tellE_le {e : Ent} {r : Rcd} (h1 : e.path.length ≤ 1000000) (h2 : e.link.length ≤ 1000000) (hr : RcdOk r) : (tellE e r).1.path.length ≤ 1000000 ∧ (tellE e r).1.link.length ≤ 1000000 := by
 have := hr.2
 unfold tellE
 repeat' split
 all_goals exact ⟨by first | exact h1 | exact hr.2, by first | exact h2 | exact hr.2⟩
theorem toldE_le : ∀ (rs : List Rcd) (e : Ent), e.path.length ≤ 1000000 → e.link.length ≤ 1000000 → (∀ r ∈ rs, RcdOk r) → (toldE e rs).1.path.length ≤ 1000000 ∧ (toldE e rs).1.link.length ≤ 1000000
 | [], e, h1, h2, _ => ⟨h1, h2⟩
 | r :: rs, e, h1, h2, h3 => by
  have ht := tellE_le h1 h2 (h3 r (by simp))
  unfold toldE
  split
  ·exact toldE_le rs _ ht.1 ht.2 fun x hx => h3 x (by simp [hx])
  ·exact ht
theorem entP_ok {b : BS} {e : Ent} {r : BS} (h : entP b = some (e, r)) : (e.path.length ≤ 1000000 ∧ e.link.length ≤ 1000000) ∧ (∃ l, e.data = .mk false false l ∧ l.length ≤ b.l.length) ∧ r.l.length + 512 ≤ b.l.length := by
 unfold entP at h
 by_cases c0 : (rdH b).2.2 = false
 ·rw [if_pos c0] at h; cases h
 rw [if_neg c0] at h
 have c0 : (rdH b).2.2 = true := by simpa using c0
 have hr := hdrR_lt c0
 by_cases c1 : (rdH b).1.type = 120
 ·rw [if_pos c1] at h
  cases c2 : paxD (rdH b).2.1.l with
  | none => rw [c2] at h; cases h
  | some rs =>
   rw [c2] at h
   simp only at h
   by_cases c3 : (rdH (hdrR b)).2.2 = false
   ·rw [if_pos c3] at h; cases h
   rw [if_neg c3] at h
   have c3 : (rdH (hdrR b)).2.2 = true := by simpa using c3
   have hr2 := hdrR_lt c3
   have hp := rdH_le2 (hdrR b)
   have ht := toldE_le rs (mkE (rdH (hdrR b)).1) hp.1 hp.2 (paxD_ok c2).1
   by_cases c4 : (toldE (mkE (rdH (hdrR b)).1) rs).2 = true
   ·rw [if_pos c4] at h
    cases h
    have := rdH_le (hdrR b)
    exact ⟨ht, ⟨_, rfl, by omega⟩, by omega⟩
   ·rw [if_neg c4] at h; cases h
 ·rw [if_neg c1] at h
  cases h
  have hp := rdH_le2 b
  exact ⟨hp, ⟨_, rfl, rdH_le b⟩, hr⟩
def readP : Nat → BS → List Ent → Option (List Ent)
 | 0, _, acc => some acc
 | k + 1, b, acc => if b.l = [] then some acc else
  match entP b with
  | none => none
  | some (e, r) => if acc.length = 200 then none else readP k r (acc ++ [e])
def finR (l : List UInt8) : Option (List Ent) → Option (List Ent)
 | none => none
 | some t => if (checkT (t.map Ent.cp)).2 = 0 ∧ writeL t = l then some t else none
def readE (b : BS) : Option (List Ent) := if b.l.length < 1024 then none else finR b.l (readP b.l.length (b.sl 0 (b.l.length - 1024)) [])
def readV : Option (List Ent) → AVal
 | none => .tuple [.lit (.slice none 0 0), .iface 58 (.int .i64 16)]
 | some [] => .tuple [.lit (.slice none 0 0), .lit .nilIface]
 | some (e :: r) => .tuple [.own 0 8 0 (e :: r).length false, .lit .nilIface]
def readH : Option (List Ent) → Heap
 | none => []
 | some [] => []
 | some (e :: r) => [(0, .row ((e :: r).map Ent.av) 8)]
theorem readV_ne {t : List Ent} (h : t ≠ []) : readV (some t) = .tuple [.own 0 8 0 t.length false, .lit .nilIface] ∧ readH (some t) = [(0, .row (t.map Ent.av) 8)] := by
 cases t with
 | nil => exact (h rfl).elim
 | cons x y => exact ⟨rfl, rfl⟩
def RdE (e : Ent) : Prop := e.path.length ≤ 1000000 ∧ e.link.length ≤ 1000000 ∧ ∃ l, e.data = .mk false false l ∧ l.length ≤ 1000000
theorem rdE_ok {e : Ent} (h : RdE e) : EntOk e := by
 obtain ⟨h1, h2, l, h3, h4⟩ := h
 exact ⟨h2, h1, by rw [h3]; simp only [BS.l]; omega, by rw [h3]; rfl⟩
theorem w17no (c tmp : Bool) (t : List Ent) (hne : t ≠ []) (hl : t.length ≤ 1000000) (hq : ∀ e ∈ t, RdE e) (he : (checkT (t.map Ent.cp)).2 ≠ 0) :
  callT AA 17 [.view 8 (t.map Ent.av) c tmp] [] = some (.tuple [.lit (.slice none 0 0), .iface 58 (.int .i64 (checkT (t.map Ent.cp)).2)], []) := by
 cases t with
 | nil => exact (hne rfl).elim
 | cons e r =>
  have h := s17no c tmp e r hl (fun x hx => rdE_ok (hq x hx)) he (fun x hx => by
   obtain ⟨_, _, l, h3, h4⟩ := hq x hx
   rw [h3]
   simp only [BS.l]
   omega)
  unfold errV at h
  rw [if_neg he] at h
  exact h
theorem w17 (c tmp : Bool) (t : List Ent) (hne : t ≠ []) (hl : t.length ≤ 200) (hq : ∀ e ∈ t, RdE e) (he : (checkT (t.map Ent.cp)).2 = 0) :
  callT AA 17 [.view 8 (t.map Ent.av) c tmp] [] = some (.tuple [.own 0 1 0 (writeL t).length false, .lit .nilIface], [(0, .row ((writeL t).map .byte) 1)]) := by
 cases t with
 | nil => exact (hne rfl).elim
 | cons e r => exact s17 c tmp e r hl (fun x hx => rdE_ok (hq x hx)) he (checkT_pieces he)
set_option maxHeartbeats 4000000 in
theorem h24 (b0 : BS) (hb0 : b0.l.length ≤ 1000000) (R : Option (List Ent)) : ∀ (k : Nat) (b : BS) (acc : List Ent) (q : Nat), acc ≠ [] → q = acc.length → acc.length ≤ 200 → b.l.length ≤ k → b.l.length ≤ 1000000 → (∀ e ∈ acc, RdE e) → R = finR b0.l (readP k b acc) →
  HD AA 0 [0, 2, 3, 4, 5] l24_0 ⟨[b0.av, .junk, .lit (.slice none 0 0), .lit .nilIface, .ptr 0 0, .own 1 8 0 q false, .junk, .junk, .junk, .junk, .junk, .junk, .junk, .junk, .junk, .junk, .junk, .junk, .junk, .junk, .junk, .junk, .junk, .junk, .junk, .junk, .junk, .junk, .junk, .junk, .junk, .junk, .junk, .junk, .junk, .junk, .junk, .junk, .junk, .junk, .junk, .junk, .junk, .junk, .junk, .junk, .junk, .junk, .junk, .junk, .junk, .junk, .junk, .junk, .junk, .junk, .junk, .junk, .junk], [(0, .var [b.av]), (1, .row (acc.map Ent.av) 8)], 2⟩ [.blk 0, .code r24_0] (Fin [(2, none), (3, none)] 0 (readV R) (readH R))
 | k, b, acc, q, h0, h1, h2, h3, h4, h5, h6 => by
  have et : (acc.map Ent.av).take q = acc.map Ent.av := List.take_of_length_le (by simp; omega)
  by_cases hl : b.l = []
  ·have hl0 : b.l.length = 0 := by rw [hl]; rfl
   have hr : readP k b acc = some acc := by
    cases k with
    | zero => rfl
    | succ k => unfold readP; rw [if_pos hl]
   rw [hr] at h6
   simp only [finR] at h6
   refine hd_of (by unfold l24_0; rfl) ?_
   by_cases hc : (checkT (acc.map Ent.cp)).2 = 0
   ·have hw := w17 false true acc h0 h2 h5 hc
    have hwl : (writeL acc).length ≤ 1000000000 := by
     have := outL_le acc 0 (checkT_pieces hc)
     unfold writeL
     rw [List.length_append, zeros1024_length]
     omega
    generalize writeL acc = W at *
    have hs := fun c t => s62v W c t b0
    by_cases hd : W = b0.l
    ·rw [if_pos ⟨hc, hd⟩] at h6
     rw [h6, (readV_ne h0).1, (readV_ne h0).2]
     have gg:=trivial;repeat' first|simp (maxSteps:=2000000) (disch:=omega) only [gg,r24_0,et,hw,hs,decide_eq_true hd,go_sem]|(refine br ?_ ?_<;>intro gg<;>try omega)|(apply And.intro;focus omega)|omega
     simp [h1]
    ·rw [if_neg (fun h => hd h.2)] at h6
     rw [h6]
     unfold readV readH
     have gg:=trivial;repeat' first|simp (maxSteps:=2000000) (disch:=omega) only [gg,r24_0,et,hw,hs,decide_eq_false hd,go_sem]|(refine br ?_ ?_<;>intro gg<;>try omega)|(apply And.intro;focus omega)|omega
   ·have hw := w17no false true acc h0 (by omega) h5 hc
    rw [if_neg (fun h => hc h.1)] at h6
    rw [h6]
    unfold readV readH
    have gg:=trivial;repeat' first|simp (maxSteps:=2000000) (disch:=omega) only [gg,r24_0,et,hw,go_sem]|(refine br ?_ ?_<;>intro gg<;>try omega)|(apply And.intro;focus omega)|omega
  ·have hl0 : 0 < b.l.length := by
    cases hz : b.l with
    | nil => exact (hl hz).elim
    | cons x y => simp
   match k, h3, h6 with
   | 0, h3, h6 => omega
   | k + 1, h3, h6 =>
    have hf := s61f b h4
    unfold EntR at hf
    unfold readP at h6
    rw [if_neg hl] at h6
    refine hd_of (by unfold l24_0; rfl) ?_
    cases hp : entP b with
    | none =>
     rw [hp] at hf h6
     simp only [finR] at h6
     rw [h6]
     unfold readV readH
     rcases hf with ⟨e, r, hf⟩ | ⟨e, r, l, hf⟩
     ·simp only [entCs] at hf
      have gg:=trivial;repeat' first|simp (maxSteps:=2000000) (disch:=omega) only [gg,hf,lp_head,go_sem]|(refine br ?_ ?_<;>intro gg<;>try omega)|(apply And.intro;focus omega)|omega
     ·simp only [entCs] at hf
      have gg:=trivial;repeat' first|simp (maxSteps:=2000000) (disch:=omega) only [gg,hf,lp_head,go_sem]|(refine br ?_ ?_<;>intro gg<;>try omega)|(apply And.intro;focus omega)|omega
    | some er =>
     obtain ⟨e, r⟩ := er
     rw [hp] at hf h6
     obtain ⟨⟨p1, p2⟩, ⟨l, p3, p4⟩, p5⟩ := entP_ok hp
     simp only [p3, BS.l, entCs] at hf
     simp only at h6
     by_cases hq : acc.length = 200
     ·rw [if_pos hq] at h6
      simp only [finR] at h6
      rw [h6]
      unfold readV readH
      have gg:=trivial;repeat' first|simp (maxSteps:=2000000) (disch:=omega) only [gg,hf,lp_head,go_sem]|(refine br ?_ ?_<;>intro gg<;>try omega)|(apply And.intro;focus omega)|omega
     ·rw [if_neg hq] at h6
      have ih := h24 b0 hb0 R k r (acc ++ [e]) (q + 1) (by simp) (by simp [h1]) (by simp; omega) (by omega) (by omega) (by
       intro x hx
       rcases List.mem_append.1 hx with hx | hx
       ·exact h5 x hx
       ·rw [List.mem_singleton.1 hx]
        exact ⟨p1, p2, l, p3, by omega⟩) h6
      simp only [List.map_append, List.map_cons, List.map_nil, Ent.av, p3, mk_av] at ih et
      have gg:=trivial;repeat' first|simp (maxSteps:=2000000) (disch:=omega) only [gg,hf,et,lp_head,go_sem]|(refine br ?_ ?_<;>intro gg<;>try omega)|(apply And.intro;focus omega)|omega
set_option maxHeartbeats 4000000 in
theorem s24 (b : BS) (hb : b.l.length ≤ 1000000) : callT AA 24 [b.av] [] = some (readV (readE b), readH (readE b)) := by
 refine enter fn24 np24 rfl ?_
 generalize hR : readE b = R
 unfold readE at hR
 by_cases c0 : b.l.length < 1024
 ·rw [if_pos c0] at hR
  rw [← hR]
  unfold readV readH
  have gg:=trivial;repeat' first|simp (maxSteps:=2000000) (disch:=omega) only [gg,b24,go_sem]|(refine br ?_ ?_<;>intro gg<;>try omega)|(apply And.intro;focus omega)|omega
 rw [if_neg c0] at hR
 have e0 : ((b.l.length : Int) - 1024).toNat = b.l.length - 1024 := by omega
 have gg:=trivial;repeat' first|simp (maxSteps:=2000000) (disch:=omega) only [gg,b24,e0,lp_head,go_sem]|(refine br ?_ ?_<;>intro gg<;>try omega)|(apply And.intro;focus omega)|omega
 generalize hb1 : b.sl 0 (b.l.length - 1024) = b1 at *
 have hb2 : b1.l.length ≤ b.l.length := by
  have := sl_le b 0 (b.l.length - 1024)
  rw [hb1] at this
  omega
 obtain ⟨k, hk⟩ : ∃ k, b.l.length = k + 1 := ⟨b.l.length - 1, by omega⟩
 rw [hk] at hR
 unfold readP at hR
 refine hd_of (by unfold l24_0; rfl) ?_
 by_cases hl : b1.l = []
 ·have hl0 : b1.l.length = 0 := by rw [hl]; rfl
  rw [if_pos hl] at hR
  simp only [finR] at hR
  have hcn : (checkT (([] : List Ent).map Ent.cp)).2 = 0 := rfl
  have hwn : writeL [] = zeros1024 := rfl
  have hs := fun c t => s62v zeros1024 c t b
  have hz := zeros1024_take
  have hzl := zeros1024_length
  rw [hwn] at hR
  by_cases hd : zeros1024 = b.l
  ·rw [if_pos ⟨hcn, hd⟩] at hR
   rw [← hR]
   unfold readV readH
   have gg:=trivial;repeat' first|simp (maxSteps:=2000000) (disch:=omega) only [gg,r24_0,s17n,hs,decide_eq_true hd,hz,hzl,go_sem]|(refine br ?_ ?_<;>intro gg<;>try omega)|(apply And.intro;focus omega)|omega
  ·rw [if_neg (fun h => hd h.2)] at hR
   rw [← hR]
   unfold readV readH
   have gg:=trivial;repeat' first|simp (maxSteps:=2000000) (disch:=omega) only [gg,r24_0,s17n,hs,decide_eq_false hd,hz,hzl,go_sem]|(refine br ?_ ?_<;>intro gg<;>try omega)|(apply And.intro;focus omega)|omega
 ·have hl0 : 0 < b1.l.length := by
   cases hz : b1.l with
   | nil => exact (hl hz).elim
   | cons x y => simp
  rw [if_neg hl] at hR
  have hf := s61f b1 (by omega)
  unfold EntR at hf
  cases hp : entP b1 with
  | none =>
   rw [hp] at hf hR
   simp only [finR] at hR
   rw [← hR]
   unfold readV readH
   rcases hf with ⟨e, r, hf⟩ | ⟨e, r, l, hf⟩
   ·simp only [entCs] at hf
    have gg:=trivial;repeat' first|simp (maxSteps:=2000000) (disch:=omega) only [gg,hf,lp_head,go_sem]|(refine br ?_ ?_<;>intro gg<;>try omega)|(apply And.intro;focus omega)|omega
   ·simp only [entCs] at hf
    have gg:=trivial;repeat' first|simp (maxSteps:=2000000) (disch:=omega) only [gg,hf,lp_head,go_sem]|(refine br ?_ ?_<;>intro gg<;>try omega)|(apply And.intro;focus omega)|omega
  | some er =>
   obtain ⟨e, r⟩ := er
   rw [hp] at hf hR
   obtain ⟨⟨p1, p2⟩, ⟨l, p3, p4⟩, p5⟩ := entP_ok hp
   simp only [p3, BS.l, entCs] at hf
   simp only [List.length_nil, List.nil_append] at hR
   rw [if_neg (by omega)] at hR
   have ih := h24 b hb R k r [e] 1 (by simp) rfl (by simp) (by omega) (by omega) (by
    intro x hx
    rw [List.mem_singleton.1 hx]
    exact ⟨p1, p2, l, p3, by omega⟩) hR.symm
   simp only [List.map_cons, List.map_nil, Ent.av, p3, mk_av] at ih
   have gg:=trivial;repeat' first|simp (maxSteps:=2000000) (disch:=omega) only [gg,hf,lp_head,go_sem]|(refine br ?_ ?_<;>intro gg<;>try omega)|(apply And.intro;focus omega)|omega
end Go.Abs
namespace Go.Abs
open Am
set_option maxRecDepth 10000
theorem pad_whole (l : List UInt8) : ((padL l).length : Int) = wholeN l.length := by
 rw [padL_length]
 unfold padN wholeN
 omega
theorem rd_block {b : BS} {h : Hd} {body rest : List UInt8} (hb : b.l = encB h ++ (padL body ++ rest)) (hok : encOk h = true) (hs : h.size = body.length) :
  (rdH b).1 = h ∧ (rdH b).2.1.l = body ∧ (rdH b).2.2 = true ∧ (hdrR b).l = rest := by
 have hl := encB_length h
 have hp := pad_whole body
 have hp2 := padL_length body
 have hbl : b.l.length = 512 + (padL body).length + rest.length := by rw [hb]; simp [hl]; omega
 have h0 : (b.sl 0 512).l = encB h := by
  rw [BS.sl_l, hb]
  simp only [List.drop_zero, Nat.sub_zero]
  exact List.take_left' hl
 have h1 : (b.sl 512 b.l.length).l = padL body ++ rest := by
  rw [BS.sl_l, List.take_of_length_le (by simp), hb]
  exact List.drop_left' hl
 have hd := decOk_encB hok
 have hdh := decH_encB hok
 have c1 : ¬ (b.l.length < 512 ∨ decOk (b.sl 0 512).l = false) := by
  rw [h0, hd]
  simp
  omega
 have c2 : wholeN h.size ≤ (b.sl 512 b.l.length).l.length := by
  rw [h1, List.length_append, hs]
  omega
 refine ⟨?_, ?_, ?_, ?_⟩
 ·unfold rdH
  rw [if_neg c1, h0, hdh, if_pos c2]
 ·unfold rdH
  rw [if_neg c1, h0, hdh, if_pos c2]
  simp only []
  rw [BS.sl_l, h1, hs]
  simp only [List.drop_zero, Nat.sub_zero, Int.toNat_natCast]
  unfold padL
  rw [List.append_assoc]
  exact List.take_left' rfl
 ·unfold rdH
  rw [if_neg c1, h0, hdh, if_pos c2]
 ·unfold hdrR
  rw [if_neg (by omega), h0, hd, if_neg (by simp), hdh, if_pos c2, BS.sl_l, h1, hs, List.take_of_length_le (by simp)]
  refine List.drop_left' ?_
  omega
def rdEnt (e : Ent) : Ent := { e with data := .mk false false e.data.l }
theorem kind_type {k : Int} (h : k = 1 ∨ k = 2 ∨ k = 3 ∨ k = 4) : kindB (typeB k) = k ∧ typeB k ≠ 120 := by
 rcases h with rfl | rfl | rfl | rfl <;> decide
theorem told_back {e : Ent} (hf : FieldsOk e) (d : BS) : toldE ⟨if (splitN e.path).2.2 then e.path else paxB, e.kind, e.mode, if idB e.uid then e.uid else 0, if idB e.gid then e.gid else 0, if timeB e.time then e.time else 0, if linkE e.link then e.link else paxB, d⟩ (recsE e) = (⟨e.path, e.kind, e.mode, e.uid, e.gid, e.time, e.link, d⟩, true) := by
 have g := atoiV_itoa (n := e.gid) (by have := hf.gid; omega) (by have := hf.gid; omega)
 have u := atoiV_itoa (n := e.uid) (by have := hf.uid; omega) (by have := hf.uid; omega)
 have t := atoiV_itoa (n := e.time) (by have := hf.time; omega) (by have := hf.time; omega)
 unfold recsE rst3 rst4 rst5 rst6 rst7
 cases idB e.gid <;> cases linkE e.link <;> cases timeB e.time <;> cases (splitN e.path).2.2 <;> cases idB e.uid <;> simp [recIf, toldE, tellE, gidB, linkpathB, mtimeB, pathB, uidB, g, u, t]
theorem entP_piece {b : BS} {n : Nat} {e : Ent} {rest : List UInt8} (hb : b.l = pieceL n e ++ rest) (hok : pieceOk n e) (hf : FieldsOk e) : ∃ r : BS, entP b = some (rdEnt e, r) ∧ r.l = rest := by
 have hk : e.kind = 1 ∨ e.kind = 2 ∨ e.kind = 3 ∨ e.kind = 4 := by
  rcases hf.kinds with h | h | h | h
  ·exact .inl h.1
  ·exact .inr (.inl h.1)
  ·exact .inr (.inr (.inl h.1))
  ·exact .inr (.inr (.inr h.1))
 obtain ⟨k1, k2⟩ := kind_type hk
 have hsz : (hdrE e (recsE e)).size = e.data.l.length := by rw [hdrE_eq]
 have hty : (hdrE e (recsE e)).type = typeB e.kind := by rw [hdrE_eq]
 have hmk : mkE (hdrE e (recsE e)) = ⟨if (splitN e.path).2.2 then e.path else paxB, e.kind, e.mode, if idB e.uid then e.uid else 0, if idB e.gid then e.gid else 0, if timeB e.time then e.time else 0, if linkE e.link then e.link else paxB, .nil⟩ := by
  unfold mkE
  rw [hdrE_eq]
  simp only [k1]
 have htold := told_back hf .nil
 obtain ⟨ok1, ok2⟩ := hok
 by_cases hr : recsE e = []
 ·have hp : pieceL n e = encB (hdrE e (recsE e)) ++ padL e.data.l := by
   unfold pieceL preE
   rw [if_pos hr, List.nil_append]
  rw [hp, List.append_assoc] at hb
  obtain ⟨r1, r2, r3, r4⟩ := rd_block hb ok1 hsz
  refine ⟨hdrR b, ?_, r4⟩
  unfold entP
  rw [if_neg (by rw [r3]; simp), r1, hty, if_neg k2, r2, hmk]
  rw [hr] at htold
  simp only [toldE, Prod.mk.injEq, and_true] at htold
  rw [htold]
  rfl
 ·obtain ⟨o1, o2⟩ := ok2 hr
  obtain ⟨body, hbo⟩ := Option.isSome_iff_exists.1 o1
  have hbe : bodyE e = body := by unfold bodyE; rw [hbo]; rfl
  have hp : pieceL n e = encB (hdX n body) ++ (padL body ++ (encB (hdrE e (recsE e)) ++ padL e.data.l)) := by
   unfold pieceL preE
   rw [if_neg hr, hbe]
   simp
  rw [hbe] at o2
  have hb1 : b.l = encB (hdX n body) ++ (padL body ++ (encB (hdrE e (recsE e)) ++ (padL e.data.l ++ rest))) := by
   rw [hb, hp]
   simp
  obtain ⟨r1, r2, r3, r4⟩ := rd_block hb1 o2 rfl
  obtain ⟨q1, q2, q3, q4⟩ := rd_block r4 ok1 hsz
  refine ⟨hdrR (hdrR b), ?_, q4⟩
  unfold entP
  rw [if_neg (by rw [r3]; simp), r1, if_pos (show (hdX n body).type = 120 from rfl), r2, paxD_paxE hbo]
  simp only []
  rw [if_neg (by rw [q3]; simp), q1, hmk, htold, q2]
  rfl
theorem readP_out : ∀ (t : List Ent) (i k : Nat) (b : BS) (acc : List Ent), b.l = outL i t → PiecesOk i t → (∀ e ∈ t, FieldsOk e) → b.l.length ≤ k → acc.length + t.length ≤ 200 → readP k b acc = some (acc ++ t.map rdEnt)
 | [], i, k, b, acc, hb, _, _, _, _ => by
  simp only [outL] at hb
  cases k with
  | zero => simp [readP]
  | succ k => simp [readP, hb]
 | e :: t, i, k, b, acc, hb, hp, hf, hk, hl => by
  obtain ⟨h1, h2, h3, h4⟩ := hp
  simp only [outL] at hb
  have hpl := pieceL_le h2 h3
  have hbl : b.l.length = (pieceL i e).length + (outL (i + 1) t).length := by rw [hb, List.length_append]
  obtain ⟨r, hr1, hr2⟩ := entP_piece hb h3 (hf e (by simp))
  obtain ⟨k, rfl⟩ : ∃ j, k = j + 1 := ⟨k - 1, by omega⟩
  have hne : b.l ≠ [] := by
   intro hh
   rw [hh] at hbl
   simp at hbl
   omega
  simp only [List.length_cons] at hl
  unfold readP
  rw [if_neg hne, hr1]
  simp only []
  rw [if_neg (by omega), readP_out t (i + 1) k r _ hr2 h4 (fun x hx => hf x (by simp [hx])) (by rw [hr2]; omega) (by simp; omega)]
  simp
theorem entryE_rd (c : Ck) {e f : Ent} (h1 : f.path = e.path) (h2 : f.kind = e.kind) (h3 : f.mode = e.mode) (h4 : f.uid = e.uid) (h5 : f.gid = e.gid) (h6 : f.time = e.time) (h7 : f.link = e.link) (h8 : f.data.l = e.data.l) : entryE c f = entryE c e := by
 have hf : fieldsB f = fieldsB e := by
  unfold fieldsB
  rw [h2, h3, h4, h5, h6, h7, h8]
 unfold entryE
 rw [hf, h1, h2, h7, h8]
def SameE (e f : Ent) : Prop := f.path = e.path ∧ f.kind = e.kind ∧ f.mode = e.mode ∧ f.uid = e.uid ∧ f.gid = e.gid ∧ f.time = e.time ∧ f.link = e.link ∧ f.data.l = e.data.l
theorem entryE_same {c : Ck} {e f : Ent} (h : SameE e f) : entryE c f = entryE c e := entryE_rd c h.1 h.2.1 h.2.2.1 h.2.2.2.1 h.2.2.2.2.1 h.2.2.2.2.2.1 h.2.2.2.2.2.2.1 h.2.2.2.2.2.2.2
theorem checkL_map (g : Ent → Ent) (hg : ∀ e, SameE e (g e)) : ∀ (t : List Ent) (c : Ck) (i : Int), checkL c i (t.map g) = checkL c i t
 | [], c, i => rfl
 | e :: t, c, i => by
  simp only [List.map_cons, checkL]
  rw [entryE_same (hg e), checkL_map g hg t]
theorem checkT_map (g : Ent → Ent) (hg : ∀ e, SameE e (g e)) (t : List Ent) : checkT (t.map g) = checkT t := by
 unfold checkT
 rw [List.length_map, checkL_map g hg]
theorem same_cp (e : Ent) : SameE e e.cp := ⟨rfl, rfl, rfl, rfl, rfl, rfl, rfl, cp_l⟩
theorem same_rd (e : Ent) : SameE e (rdEnt e) := ⟨rfl, rfl, rfl, rfl, rfl, rfl, rfl, rfl⟩
theorem outL_rd : ∀ (t : List Ent) (i : Nat), outL i (t.map rdEnt) = outL i t
 | [], _ => rfl
 | e :: t, i => by
  simp only [List.map_cons, outL]
  rw [outL_rd t]
  rfl
theorem writeL_rd (t : List Ent) : writeL (t.map rdEnt) = writeL t := by
 unfold writeL
 rw [outL_rd]
theorem readE_writeL (c tmp : Bool) {t : List Ent} (h : (checkT t).2 = 0) : readE (.mk c tmp (writeL t)) = some (t.map rdEnt) := by
 obtain ⟨hl, hg⟩ := checkT_good h
 have hp : PiecesOk 0 t := piecesOk_of t 0 (by omega) hg
 have hf : ∀ e ∈ t, FieldsOk e := fun e he => fields_ok (hg e he).2
 have hwl : (writeL t).length = (outL 0 t).length + 1024 := by
  unfold writeL
  rw [List.length_append, zeros1024_length]
 unfold readE
 rw [if_neg (show ¬ (BS.mk c tmp (writeL t)).l.length < 1024 by rw [mk_l]; omega)]
 show finR (writeL t) (readP (writeL t).length ((BS.mk c tmp (writeL t)).sl 0 ((writeL t).length - 1024)) []) = _
 have hb : ((BS.mk c tmp (writeL t)).sl 0 ((writeL t).length - 1024)).l = outL 0 t := by
  rw [BS.sl_l]
  simp only [BS.l, List.drop_zero, Nat.sub_zero]
  unfold writeL
  rw [List.length_append, zeros1024_length]
  exact List.take_left' (by omega)
 rw [readP_out t 0 (writeL t).length _ [] hb hp hf (by rw [hb]; omega) (by simpa using hl)]
 simp only [List.nil_append, finR]
 rw [checkT_map Ent.cp same_cp, checkT_map rdEnt same_rd, writeL_rd, if_pos ⟨h, rfl⟩]
end Go.Abs
namespace Go.Abs
open Am
set_option maxRecDepth 10000
theorem sl_own_both {sz id z off len : Nat} {k k' : IntKind} {i j : Int} : aSlice sz (.own id z off len false) (some (.int k i)) (some (.int k' j)) none = if 0 ≤ i ∧ i ≤ j ∧ j ≤ len ∧ z = sz then some (.own id z (off + i.toNat) (j.toNat - i.toNat) false) else none := by
 by_cases h0 : 0 ≤ i
 ·by_cases h1 : 0 ≤ j
  ·rw [sl_own (a := i.toNat) (c := j.toNat) (by simp [natOr, toNat?, h0]) (by simp [natOr, toNat?, h1])]
   simp only [true_or, and_true]
   have : (i.toNat ≤ j.toNat ∧ j.toNat ≤ len ∧ z = sz) = (0 ≤ i ∧ i ≤ j ∧ j ≤ len ∧ z = sz) := by
    apply propext
    constructor
    ·rintro ⟨a, b, c⟩; exact ⟨h0, by omega, by omega, c⟩
    ·rintro ⟨a, b, c, d⟩; exact ⟨by omega, by omega, d⟩
   exact (ite_congr this (fun _ => rfl) (fun _ => rfl))
  ·have hf : ¬ (0 ≤ i ∧ i ≤ j ∧ j ≤ len ∧ z = sz) := by omega
   rw [if_neg hf]
   simp [aSlice, bounds, natOr, toNat?, h1, h0]
 ·simp [aSlice, bounds, natOr, toNat?, h0]
theorem ldE_head {e : AVal} {r : List AVal} {o sz : Nat} {agg : Bool} {h : Heap} : ldE (e :: r) 0 o sz agg h = (part e.cells o sz agg).map (·, h) := rfl
end Go.Abs
namespace Go.Abs
open Am
set_option maxRecDepth 100000
def helloL : List UInt8 := [104, 101, 108, 108, 111]
def eA : Ent := ⟨[97], 2, 0, 0, 0, 0, [], .mk false false helloL⟩
def wA : List UInt8 := writeL [eA]
theorem checkA : (checkT [eA]).2 = 0 := by decide +kernel
theorem recsA : recsE eA = [] := by
 unfold recsE rst3 rst4 rst5 rst6 rst7
 have h1 : idB eA.gid = true := idB_iff.2 ⟨by decide, by decide⟩
 have h2 : linkE eA.link = true := rfl
 have h3 : timeB eA.time = true := timeB_iff.2 ⟨by decide, by decide⟩
 have h4 : (splitN eA.path).2.2 = true := by decide
 have h5 : idB eA.uid = true := idB_iff.2 ⟨by decide, by decide⟩
 rw [h1, h2, h3, h4, h5]
 rfl
theorem wA_eq : wA = encB (hdrE eA []) ++ (helloL ++ (List.replicate 507 0 ++ zeros1024)) := by
 unfold wA writeL outL pieceL preE
 rw [recsA, if_pos rfl]
 simp only [outL, List.nil_append, List.append_nil, List.append_assoc]
 rfl
theorem lenA : wA.length = 2048 := by
 rw [wA_eq]
 simp only [List.length_append, encB_length, zeros1024_length, List.length_replicate]
 rfl
theorem readA (c t : Bool) : readE (.mk c t wA) = some [rdEnt eA] := readE_writeL c t checkA
end Go.Abs
namespace Go.Abs
def l16_0 : ACode := (.seq (.seq (rg [mv 6 4, mv 7 0, oo 8 (.len 1 (.t 7)), oo 9 (.bin .lss .other false (.t 6) (.t 8))]) (.cond (.t 9) .skip (.exit 0))) (.seq (.block 1 (.seq (rg [mv 12 0, mv 13 4, oo 14 (.ixa 8 (.t 12) (.t 13)), oo 15 (.ld 8 true (.t 14)), oo 5 (.alloc [(.str []), (.int .i64 0), (.int .i64 0), (.int .i64 0), (.int .i64 0), (.int .i64 0), (.str []), (.lit (.slice none 0 0))]), ⟨none, (.st 8 (.t 5) (.t 15)), none⟩]) (.seq (rg [oo 16 (.bslice 1 0 [(.int .u8 0)] []), oo 17 (.fa 7 (.t 5)), oo 18 (.ld 1 false (.t 17)), oo 19 (.app 1 1 (.t 16) (.t 18)), oo 20 (.fa 7 (.t 5)), ⟨none, (.st 1 (.t 20) (.t 19)), none⟩]) (rg [mv 21 3, oo 22 (.ld 8 true (.t 5)), oo 23 (.bslice 8 1 [(.str []), (.int .i64 0), (.int .i64 0), (.int .i64 0), (.int .i64 0), (.int .i64 0), (.str []), (.lit (.slice none 0 0))] [(.t 22)]), oo 24 (.app 96 8 (.t 21) (.t 23)), mv 3 24])))) (rg [mv 10 4, oo 11 (.bin .add .other true (.t 10) (ci 1)), mv 4 11])))
def r16_0 : ACode := (.seq (rg [mv 25 3, mv 2 25]) .ret)
def b16 : AFn := ⟨1, 26, [(2, none)], (.seq (rg [oo 2 (.mov (.c (.lit (.slice none 0 0))))]) (.seq (rg [oo 3 (.mov (.c (.lit (.slice none 0 0))))]) (.seq (.seq (rg [oo 4 (.mov (ci 0))]) (.block 0 (.loop [0, 2, 3, 4] l16_0))) r16_0)))⟩
theorem fn16 : AA.fn 16 = some b16 := by kernel_rfl
theorem np16 : AA.prim 16 = none := rfl
def l125_0 : ACode := (.seq (.seq (rg [mv 6 5, mv 7 0, oo 8 (.len 0 (.t 7)), oo 9 (.bin .leq .other false (.t 6) (.t 8))]) (.cond (.t 9) .skip (.exit 0))) (.seq (.block 1 (.seq (rg [mv 12 5, mv 13 0, oo 14 (.len 0 (.t 13)), oo 15 (.bin .eql .other false (.t 12) (.t 14)), mv 16 15, og 17 (.mov (.t 0)) 16 false, og 18 (.mov (.t 5)) 16 false, og 19 (.ixs (.t 17) (.t 18)) 16 false, og 20 (.bin .eql .other true (.t 19) (.c (.int .u8 47))) 16 false, oo 21 (.pick (.t 16) (.c (.bool true)) (.t 20))]) (.cond (.t 21) (.seq (rg [mv 22 3, mv 23 0, mv 24 4, mv 25 5, oo 26 (.slct (.t 23) (some (.t 24)) (some (.t 25))), oo 27 (.bslice 1 1 [(.str [])] [(.t 26)]), oo 28 (.app 16 1 (.t 22) (.t 27)), mv 3 28]) (rg [mv 29 5, oo 30 (.bin .add .other true (.t 29) (ci 1)), mv 4 30])) .skip))) (rg [mv 10 5, oo 11 (.bin .add .other true (.t 10) (ci 1)), mv 5 11])))
def r125_0 : ACode := (.seq (rg [mv 31 3, mv 2 31]) .ret)
def b125 : AFn := ⟨1, 32, [(2, none)], (.seq (rg [oo 2 (.mov (.c (.lit (.slice none 0 0))))]) (.seq (rg [oo 3 (.mov (.c (.lit (.slice none 0 0))))]) (.seq (rg [oo 4 (.mov (ci 0))]) (.seq (.seq (rg [oo 5 (.mov (ci 0))]) (.block 0 (.loop [0, 2, 3, 4, 5] l125_0))) r125_0))))⟩
theorem fn125 : AA.fn 125 = some b125 := by kernel_rfl
theorem np125 : AA.prim 125 = none := rfl
def l160_0 : ACode := (.seq (.seq (rg [mv 58 8, mv 59 5, oo 60 (.bin .lss .other false (.t 58) (.t 59))]) (.cond (.t 60) .skip (.exit 3))) (.seq (.block 4 (.seq (.seq (rg [mv 63 0, mv 64 3, mv 65 8, oo 66 (.bin .add .other false (.t 64) (.t 65)), oo 67 (.ixs (.t 63) (.t 66)), mv 68 6, oo 69 (.bin .lss .other false (.t 67) (.t 68)), mv 70 69, og 71 (.mov (.t 0)) 70 false, og 72 (.mov (.t 3)) 70 false, og 73 (.mov (.t 8)) 70 false, og 74 (.bin .add .other false (.t 72) (.t 73)) 70 false, og 75 (.ixs (.t 71) (.t 74)) 70 false, og 76 (.mov (.t 7)) 70 false, og 77 (.bin .gtr .other false (.t 75) (.t 76)) 70 false, oo 78 (.pick (.t 70) (.c (.bool true)) (.t 77))]) (.cond (.t 78) (.seq (rg [oo 2 (.mov (.c (.bool false)))]) .ret) .skip)) (.seq (rg [oo 6 (.mov (.c (.int .u8 128)))]) (rg [oo 7 (.mov (.c (.int .u8 191)))])))) (rg [mv 61 8, oo 62 (.bin .add .other true (.t 61) (ci 1)), mv 8 62])))
def r160_0 : ACode := (rg [mv 79 3, mv 80 5, oo 81 (.bin .add .other false (.t 79) (.t 80)), mv 3 81])
def l160_1 : ACode := (.seq (.seq (rg [mv 9 3, mv 10 0, oo 11 (.len 0 (.t 10)), oo 12 (.bin .lss .other false (.t 9) (.t 11))]) (.cond (.t 12) .skip (.exit 0))) (.block 1 (.seq (rg [mv 13 0, mv 14 3, oo 15 (.ixs (.t 13) (.t 14)), mv 4 15]) (.seq (rg [oo 5 (.mov (ci 0))]) (.seq (rg [oo 6 (.mov (.c (.int .u8 128)))]) (.seq (rg [oo 7 (.mov (.c (.int .u8 191)))]) (.seq (.block 2 (.seq (rg [mv 17 4, oo 18 (.bin .lss .other true (.t 17) (.c (.int .u8 128))), mv 16 18]) (.cond (.t 16) (rg [oo 5 (.mov (ci 1))]) (.seq (rg [mv 20 4, oo 21 (.bin .geq .other true (.t 20) (.c (.int .u8 194))), mv 22 21, og 23 (.mov (.t 4)) 22 true, og 24 (.bin .leq .other true (.t 23) (.c (.int .u8 223))) 22 true, oo 25 (.pick (.t 22) (.t 24) (.c (.bool false))), mv 19 25]) (.cond (.t 19) (rg [oo 5 (.mov (ci 2))]) (.seq (rg [mv 27 4, oo 28 (.bin .geq .other true (.t 27) (.c (.int .u8 224))), mv 29 28, og 30 (.mov (.t 4)) 29 true, og 31 (.bin .leq .other true (.t 30) (.c (.int .u8 239))) 29 true, oo 32 (.pick (.t 29) (.t 31) (.c (.bool false))), mv 26 32]) (.cond (.t 26) (.seq (rg [oo 5 (.mov (ci 3))]) (.seq (.seq (rg [mv 33 4, oo 34 (.bin .eql .other true (.t 33) (.c (.int .u8 224)))]) (.cond (.t 34) (rg [oo 6 (.mov (.c (.int .u8 160)))]) .skip)) (.seq (rg [mv 35 4, oo 36 (.bin .eql .other true (.t 35) (.c (.int .u8 237)))]) (.cond (.t 36) (rg [oo 7 (.mov (.c (.int .u8 159)))]) .skip)))) (.seq (rg [mv 38 4, oo 39 (.bin .geq .other true (.t 38) (.c (.int .u8 240))), mv 40 39, og 41 (.mov (.t 4)) 40 true, og 42 (.bin .leq .other true (.t 41) (.c (.int .u8 244))) 40 true, oo 43 (.pick (.t 40) (.t 42) (.c (.bool false))), mv 37 43]) (.cond (.t 37) (.seq (rg [oo 5 (.mov (ci 4))]) (.seq (.seq (rg [mv 44 4, oo 45 (.bin .eql .other true (.t 44) (.c (.int .u8 240)))]) (.cond (.t 45) (rg [oo 6 (.mov (.c (.int .u8 144)))]) .skip)) (.seq (rg [mv 46 4, oo 47 (.bin .eql .other true (.t 46) (.c (.int .u8 244)))]) (.cond (.t 47) (rg [oo 7 (.mov (.c (.int .u8 143)))]) .skip)))) .skip))))))))) (.seq (.seq (rg [mv 48 5, oo 49 (.bin .eql .other true (.t 48) (ci 0)), mv 50 49, og 51 (.mov (.t 3)) 50 false, og 52 (.mov (.t 5)) 50 false, og 53 (.bin .add .other false (.t 51) (.t 52)) 50 false, og 54 (.mov (.t 0)) 50 false, og 55 (.len 0 (.t 54)) 50 false, og 56 (.bin .gtr .other false (.t 53) (.t 55)) 50 false, oo 57 (.pick (.t 50) (.c (.bool true)) (.t 56))]) (.cond (.t 57) (.seq (rg [oo 2 (.mov (.c (.bool false)))]) .ret) .skip)) (.seq (.seq (rg [oo 8 (.mov (ci 1))]) (.block 3 (.loop [0, 2, 3, 5, 6, 7, 8] l160_0))) r160_0)))))))))
def r160_1 : ACode := (.seq (rg [oo 2 (.mov (.c (.bool true)))]) .ret)
def b160 : AFn := ⟨1, 82, [(2, none)], (.seq (rg [oo 2 (.mov (.c (.bool false)))]) (.seq (.seq (rg [oo 3 (.mov (ci 0))]) (.block 0 (.loop [0, 2, 3] l160_1))) r160_1))⟩
theorem fn160 : AA.fn 160 = some b160 := by kernel_rfl
theorem np160 : AA.prim 160 = none := rfl
def l124_0 : ACode := (.seq (.seq (rg [mv 15 5, mv 16 0, oo 17 (.len 0 (.t 16)), oo 18 (.bin .lss .other false (.t 15) (.t 17))]) (.cond (.t 18) .skip (.exit 0))) (.seq (.block 1 (.seq (rg [mv 21 0, mv 22 5, oo 23 (.ixs (.t 21) (.t 22)), oo 24 (.bin .eql .other true (.t 23) (.c (.int .u8 0)))]) (.cond (.t 24) (.seq (rg [oo 4 (.mov (.c (.bool false)))]) .ret) .skip))) (rg [mv 19 5, oo 20 (.bin .add .other true (.t 19) (ci 1)), mv 5 20])))
def r124_0 : ACode := (.seq (rg [mv 25 0, cl 26 160 [(.t 25)], mv 4 26]) .ret)
def b124 : AFn := ⟨2, 27, [(4, none)], (.seq (rg [oo 4 (.mov (.c (.bool false)))]) (.seq (.seq (rg [mv 6 0, oo 7 (.len 0 (.t 6)), oo 8 (.bin .lss .other true (.t 7) (ci 1)), mv 9 8, og 10 (.mov (.t 0)) 9 false, og 11 (.len 0 (.t 10)) 9 false, og 12 (.mov (.t 1)) 9 false, og 13 (.bin .gtr .other false (.t 11) (.t 12)) 9 false, oo 14 (.pick (.t 9) (.c (.bool true)) (.t 13))]) (.cond (.t 14) (.seq (rg [oo 4 (.mov (.c (.bool false)))]) .ret) .skip)) (.seq (.seq (rg [oo 5 (.mov (ci 0))]) (.block 0 (.loop [0, 4, 5] l124_0))) r124_0)))⟩
theorem fn124 : AA.fn 124 = some b124 := by kernel_rfl
theorem np124 : AA.prim 124 = none := rfl
def b159 : AFn := ⟨1, 19, [(2, none)], (.seq (rg [oo 2 (.mov (.c (.bool false)))]) (.seq (rg [mv 3 0, cl 4 124 [(.t 3), (ci 120)], mv 5 4, og 6 (.mov (.t 0)) 5 true, og 7 (.bin .neq .other true (.t 6) (.c (.str [46]))) 5 true, oo 8 (.pick (.t 5) (.t 7) (.c (.bool false))), mv 9 8, og 10 (.mov (.t 0)) 9 true, og 11 (.bin .neq .other true (.t 10) (.c (.str [46, 46]))) 9 true, oo 12 (.pick (.t 9) (.t 11) (.c (.bool false))), mv 13 12, og 14 (.mov (.t 0)) 13 true, og 15 (.call (.c (.func (.func 125) [])) [(.t 14)]) 13 true, og 16 (.len 1 (.t 15)) 13 true, og 17 (.bin .eql .other true (.t 16) (ci 1)) 13 true, oo 18 (.pick (.t 13) (.t 17) (.c (.bool false))), mv 2 18]) .ret))⟩
theorem fn159 : AA.fn 159 = some b159 := by kernel_rfl
theorem np159 : AA.prim 159 = none := rfl
def l122_0 : ACode := (.seq (.seq (rg [mv 10 4, mv 11 3, oo 12 (.len 1 (.t 11)), oo 13 (.bin .lss .other false (.t 10) (.t 12))]) (.cond (.t 13) .skip (.exit 0))) (.seq (.block 1 (.seq (rg [mv 16 3, mv 17 4, oo 18 (.ixa 1 (.t 16) (.t 17)), oo 19 (.ld 1 false (.t 18)), cl 20 159 [(.t 19)], oo 21 (.un .not (.t 20))]) (.cond (.t 21) (.seq (rg [oo 2 (.mov (.c (.lit (.slice none 0 0))))]) .ret) .skip))) (rg [mv 14 4, oo 15 (.bin .add .other true (.t 14) (ci 1)), mv 4 15])))
def r122_0 : ACode := (.seq (rg [mv 22 3, mv 2 22]) .ret)
def b122 : AFn := ⟨1, 23, [(2, none)], (.seq (rg [oo 2 (.mov (.c (.lit (.slice none 0 0))))]) (.seq (.seq (rg [mv 5 0, oo 6 (.len 0 (.t 5)), oo 7 (.bin .gtr .other true (.t 6) (ci 400))]) (.cond (.t 7) (.seq (rg [oo 2 (.mov (.c (.lit (.slice none 0 0))))]) .ret) .skip)) (.seq (rg [mv 8 0, cl 9 125 [(.t 8)], mv 3 9]) (.seq (.seq (rg [oo 4 (.mov (ci 0))]) (.block 0 (.loop [2, 3, 4] l122_0))) r122_0))))⟩
theorem fn122 : AA.fn 122 = some b122 := by kernel_rfl
theorem np122 : AA.prim 122 = none := rfl
def b75 : AFn := ⟨1, 7, [(2, none)], (.seq (rg [oo 2 (.mov (.c (.bool false)))]) (.seq (rg [mv 3 0, cl 4 122 [(.t 3)], oo 5 (.len 1 (.t 4)), oo 6 (.bin .gtr .other true (.t 5) (ci 0)), mv 2 6]) .ret))⟩
theorem fn75 : AA.fn 75 = some b75 := by kernel_rfl
theorem np75 : AA.prim 75 = none := rfl
def l123_0 : ACode := (.seq (.seq (rg [mv 7 5, mv 8 0, oo 9 (.len 1 (.t 8)), oo 10 (.bin .lss .other false (.t 7) (.t 9))]) (.cond (.t 10) .skip (.exit 0))) (.seq (.block 1 (.seq (.seq (rg [mv 13 0, mv 14 5, oo 15 (.ixa 1 (.t 13) (.t 14)), oo 16 (.ld 1 false (.t 15)), cl 17 159 [(.t 16)], oo 18 (.un .not (.t 17))]) (.cond (.t 18) (.seq (rg [oo 2 (.mov (.c (.str []))), oo 3 (.mov (ci 12))]) .ret) .skip)) (.seq (.seq (rg [mv 19 5, oo 20 (.bin .gtr .other true (.t 19) (ci 0))]) (.cond (.t 20) (rg [mv 21 4, oo 22 (.bslice 1 1 [(.int .u8 0)] [(.c (.int .u8 47))]), oo 23 (.app 1 1 (.t 21) (.t 22)), mv 4 23]) .skip)) (.seq (rg [mv 24 4, mv 25 0, mv 26 5, oo 27 (.ixa 1 (.t 25) (.t 26)), oo 28 (.ld 1 false (.t 27)), oo 29 (.app 1 1 (.t 24) (.t 28)), mv 4 29]) (.seq (rg [mv 30 4, oo 31 (.len 1 (.t 30)), oo 32 (.bin .gtr .other true (.t 31) (ci 400))]) (.cond (.t 32) (.seq (rg [oo 2 (.mov (.c (.str []))), oo 3 (.mov (ci 12))]) .ret) .skip)))))) (rg [mv 11 5, oo 12 (.bin .add .other true (.t 11) (ci 1)), mv 5 12])))
def r123_0 : ACode := (.seq (.seq (rg [mv 33 0, oo 34 (.len 1 (.t 33)), oo 35 (.bin .eql .other true (.t 34) (ci 0))]) (.cond (.t 35) (.seq (rg [oo 2 (.mov (.c (.str []))), oo 3 (.mov (ci 12))]) .ret) .skip)) (.seq (rg [mv 36 4, oo 37 (.cvbs (.t 36)), mv 2 37, oo 3 (.mov (ci 0))]) .ret))
def b123 : AFn := ⟨1, 38, [(2, none), (3, none)], (.seq (rg [oo 2 (.mov (.c (.str []))), oo 3 (.mov (ci 0))]) (.seq (rg [oo 6 (.bslice 1 0 [(.int .u8 0)] []), mv 4 6]) (.seq (.seq (rg [oo 5 (.mov (ci 0))]) (.block 0 (.loop [0, 2, 3, 4, 5] l123_0))) r123_0)))⟩
theorem fn123 : AA.fn 123 = some b123 := by kernel_rfl
theorem np123 : AA.prim 123 = none := rfl
def b76 : AFn := ⟨1, 22, [(2, none), (3, none)], (.seq (rg [oo 2 (.mov (.c (.str []))), oo 3 (.mov (.c (.bool false)))]) (.seq (rg [mv 7 0, cl 8 122 [(.t 7)], mv 4 8]) (.seq (.seq (rg [mv 9 4, oo 10 (.len 1 (.t 9)), oo 11 (.bin .lss .other true (.t 10) (ci 2))]) (.cond (.t 11) (.seq (rg [oo 2 (.mov (.c (.str []))), oo 3 (.mov (.c (.bool false)))]) .ret) .skip)) (.seq (rg [mv 13 4, mv 14 4, oo 15 (.len 1 (.t 14)), oo 16 (.bin .sub .other true (.t 15) (ci 1)), oo 17 (.slc 1 (.t 13) none (some (.t 16)) none), cl 18 123 [(.t 17)], mv 12 18, oo 19 (.ext (.t 12) 0), oo 20 (.ext (.t 12) 1), mv 5 19, mv 6 20]) (.seq (rg [mv 21 5, mv 2 21, oo 3 (.mov (.c (.bool true)))]) .ret)))))⟩
theorem fn76 : AA.fn 76 = some b76 := by kernel_rfl
theorem np76 : AA.prim 76 = none := rfl
def b77 : AFn := ⟨1, 94, [(2, none)], (.seq (rg [oo 1 (.box (.t 0)), oo 2 (.mov (.c (.bool false)))]) (.seq (.seq (rg [oo 3 (.fa 2 (.t 1)), oo 4 (.ld 1 false (.t 3)), oo 5 (.bin .lss .other true (.t 4) (ci 0)), mv 6 5, og 7 (.fa 2 (.t 1)) 6 false, og 8 (.ld 1 false (.t 7)) 6 false, og 9 (.bin .gtr .other true (.t 8) (ci 4095)) 6 false, oo 10 (.pick (.t 6) (.c (.bool true)) (.t 9)), mv 11 10, og 12 (.fa 3 (.t 1)) 11 false, og 13 (.ld 1 false (.t 12)) 11 false, og 14 (.bin .lss .other true (.t 13) (ci 0)) 11 false, oo 15 (.pick (.t 11) (.c (.bool true)) (.t 14)), mv 16 15, og 17 (.fa 3 (.t 1)) 16 false, og 18 (.ld 1 false (.t 17)) 16 false, og 19 (.bin .gtr .other true (.t 18) (ci 1099511627776)) 16 false, oo 20 (.pick (.t 16) (.c (.bool true)) (.t 19)), mv 21 20, og 22 (.fa 4 (.t 1)) 21 false, og 23 (.ld 1 false (.t 22)) 21 false, og 24 (.bin .lss .other true (.t 23) (ci 0)) 21 false, oo 25 (.pick (.t 21) (.c (.bool true)) (.t 24)), mv 26 25, og 27 (.fa 4 (.t 1)) 26 false, og 28 (.ld 1 false (.t 27)) 26 false, og 29 (.bin .gtr .other true (.t 28) (ci 1099511627776)) 26 false, oo 30 (.pick (.t 26) (.c (.bool true)) (.t 29)), mv 31 30, og 32 (.fa 5 (.t 1)) 31 false, og 33 (.ld 1 false (.t 32)) 31 false, og 34 (.bin .lss .other true (.t 33) (.c (.int .i64 (-1099511627776)))) 31 false, oo 35 (.pick (.t 31) (.c (.bool true)) (.t 34)), mv 36 35, og 37 (.fa 5 (.t 1)) 36 false, og 38 (.ld 1 false (.t 37)) 36 false, og 39 (.bin .gtr .other true (.t 38) (ci 1099511627776)) 36 false, oo 40 (.pick (.t 36) (.c (.bool true)) (.t 39))]) (.cond (.t 40) (.seq (rg [oo 2 (.mov (.c (.bool false)))]) .ret) .skip)) (.seq (.seq (rg [oo 41 (.fa 1 (.t 1)), oo 42 (.ld 1 false (.t 41)), oo 43 (.bin .eql .other true (.t 42) (ci 2))]) (.cond (.t 43) (.seq (rg [oo 44 (.fa 6 (.t 1)), oo 45 (.ld 1 false (.t 44)), oo 46 (.bin .eql .other true (.t 45) (.c (.str []))), mv 47 46, og 48 (.fa 7 (.t 1)) 47 true, og 49 (.ld 1 false (.t 48)) 47 true, og 50 (.len 1 (.t 49)) 47 true, og 51 (.bin .leq .other true (.t 50) (ci 65536)) 47 true, oo 52 (.pick (.t 47) (.t 51) (.c (.bool false))), mv 2 52]) .ret) .skip)) (.seq (.seq (rg [oo 53 (.fa 7 (.t 1)), oo 54 (.ld 1 false (.t 53)), oo 55 (.len 1 (.t 54)), oo 56 (.bin .gtr .other true (.t 55) (ci 0))]) (.cond (.t 56) (.seq (rg [oo 2 (.mov (.c (.bool false)))]) .ret) .skip)) (.seq (.seq (rg [oo 57 (.fa 1 (.t 1)), oo 58 (.ld 1 false (.t 57))]) (.block 0 (.seq (rg [oo 60 (.bin .eql .other true (.t 58) (ci 1)), mv 59 60]) (.cond (.t 59) (.seq (rg [oo 61 (.fa 6 (.t 1)), oo 62 (.ld 1 false (.t 61)), oo 63 (.bin .eql .other true (.t 62) (.c (.str []))), mv 2 63]) .ret) (.seq (rg [oo 65 (.bin .eql .other true (.t 58) (ci 3)), mv 64 65]) (.cond (.t 64) (.seq (rg [oo 66 (.fa 6 (.t 1)), oo 67 (.ld 1 false (.t 66)), cl 68 124 [(.t 67), (ci 400)], mv 2 68]) .ret) (.seq (rg [oo 70 (.bin .eql .other true (.t 58) (ci 4)), mv 69 70]) (.cond (.t 69) (.seq (rg [oo 71 (.fa 6 (.t 1)), oo 72 (.ld 1 false (.t 71)), cl 73 75 [(.t 72)], mv 74 73, og 75 (.fa 2 (.t 1)) 74 true, og 76 (.ld 1 false (.t 75)) 74 true, og 77 (.bin .eql .other true (.t 76) (ci 0)) 74 true, oo 78 (.pick (.t 74) (.t 77) (.c (.bool false))), mv 79 78, og 80 (.fa 3 (.t 1)) 79 true, og 81 (.ld 1 false (.t 80)) 79 true, og 82 (.bin .eql .other true (.t 81) (ci 0)) 79 true, oo 83 (.pick (.t 79) (.t 82) (.c (.bool false))), mv 84 83, og 85 (.fa 4 (.t 1)) 84 true, og 86 (.ld 1 false (.t 85)) 84 true, og 87 (.bin .eql .other true (.t 86) (ci 0)) 84 true, oo 88 (.pick (.t 84) (.t 87) (.c (.bool false))), mv 89 88, og 90 (.fa 5 (.t 1)) 89 true, og 91 (.ld 1 false (.t 90)) 89 true, og 92 (.bin .eql .other true (.t 91) (ci 0)) 89 true, oo 93 (.pick (.t 89) (.t 92) (.c (.bool false))), mv 2 93]) .ret) .skip)))))))) (.seq (rg [oo 2 (.mov (.c (.bool false)))]) .ret))))))⟩
theorem fn77 : AA.fn 77 = some b77 := by kernel_rfl
theorem np77 : AA.prim 77 = none := rfl
def l78_0 : ACode := (.seq (.seq (rg [mv 12 7, mv 13 5, oo 14 (.len 1 (.t 13)), oo 15 (.bin .lss .other false (.t 12) (.t 14)), mv 16 15, og 17 (.mov (.t 7)) 16 true, og 18 (.mov (.t 6)) 16 true, og 19 (.len 1 (.t 18)) 16 true, og 20 (.bin .lss .other false (.t 17) (.t 19)) 16 true, oo 21 (.pick (.t 16) (.t 20) (.c (.bool false)))]) (.cond (.t 21) .skip (.exit 0))) (.seq (.block 1 (.seq (.seq (.reg true [(3, 4), (3, 5), (3, 6), (0, 7), (1, 7), (2, 7), (3, 7)] [mv 24 5, mv 25 7, oo 26 (.ixa 1 (.t 24) (.t 25)), oo 27 (.ld 1 false (.t 26)), mv 28 6, mv 29 7, oo 30 (.ixa 1 (.t 28) (.t 29)), oo 31 (.ld 1 false (.t 30)), oo 32 (.bin .lss .other false (.t 27) (.t 31))]) (.cond (.t 32) (.seq (rg [oo 4 (.mov (.c (.int .i64 (-1))))]) .ret) .skip)) (.seq (.reg true [(3, 4), (3, 5), (3, 6), (0, 7), (1, 7), (2, 7), (3, 7)] [mv 33 5, mv 34 7, oo 35 (.ixa 1 (.t 33) (.t 34)), oo 36 (.ld 1 false (.t 35)), mv 37 6, mv 38 7, oo 39 (.ixa 1 (.t 37) (.t 38)), oo 40 (.ld 1 false (.t 39)), oo 41 (.bin .gtr .other false (.t 36) (.t 40))]) (.cond (.t 41) (.seq (rg [oo 4 (.mov (ci 1))]) .ret) .skip)))) (rg [mv 22 7, oo 23 (.bin .add .other true (.t 22) (ci 1)), mv 7 23])))
def r78_0 : ACode := (.seq (.seq (rg [mv 42 5, oo 43 (.len 1 (.t 42)), mv 44 6, oo 45 (.len 1 (.t 44)), oo 46 (.bin .lss .other false (.t 43) (.t 45))]) (.cond (.t 46) (.seq (rg [oo 4 (.mov (.c (.int .i64 (-1))))]) .ret) .skip)) (.seq (.seq (rg [mv 47 5, oo 48 (.len 1 (.t 47)), mv 49 6, oo 50 (.len 1 (.t 49)), oo 51 (.bin .gtr .other false (.t 48) (.t 50))]) (.cond (.t 51) (.seq (rg [oo 4 (.mov (ci 1))]) .ret) .skip)) (.seq (rg [oo 4 (.mov (ci 0))]) .ret)))
def b78 : AFn := ⟨2, 52, [(4, none)], (.seq (rg [oo 4 (.mov (ci 0))]) (.seq (rg [mv 8 0, cl 9 125 [(.t 8)], mv 5 9]) (.seq (rg [mv 10 1, cl 11 125 [(.t 10)], mv 6 11]) (.seq (.seq (rg [oo 7 (.mov (ci 0))]) (.block 0 (.loop [4, 5, 6, 7] l78_0))) r78_0))))⟩
theorem fn78 : AA.fn 78 = some b78 := by kernel_rfl
theorem np78 : AA.prim 78 = none := rfl
def l79_0 : ACode := (.seq (.seq (rg [mv 8 7, mv 9 1, oo 10 (.bin .lss .other false (.t 8) (.t 9))]) (.cond (.t 10) .skip (.exit 0))) (.seq (.block 1 (.seq (rg [mv 13 0, mv 14 7, oo 15 (.ixa 8 (.t 13) (.t 14)), oo 16 (.fa 0 (.t 15)), oo 17 (.ld 1 false (.t 16)), mv 18 2, oo 19 (.bin .eql .other false (.t 17) (.t 18))]) (.cond (.t 19) (.seq (rg [mv 20 0, mv 21 7, oo 22 (.ixa 8 (.t 20) (.t 21)), oo 23 (.fa 1 (.t 22)), oo 24 (.ld 1 false (.t 23)), mv 6 24]) .ret) .skip))) (rg [mv 11 7, oo 12 (.bin .add .other true (.t 11) (ci 1)), mv 7 12])))
def r79_0 : ACode := (.seq (rg [oo 6 (.mov (ci 0))]) .ret)
def b79 : AFn := ⟨3, 25, [(6, none)], (.seq (rg [oo 6 (.mov (ci 0))]) (.seq (.seq (rg [oo 7 (.mov (ci 0))]) (.block 0 (.loop [0, 1, 2, 6, 7] l79_0))) r79_0))⟩
theorem fn79 : AA.fn 79 = some b79 := by kernel_rfl
theorem np79 : AA.prim 79 = none := rfl
def l41_0 : ACode := (.seq (.seq (rg [mv 15 5, mv 16 0, oo 17 (.len 1 (.t 16)), oo 18 (.bin .lss .other false (.t 15) (.t 17))]) (.cond (.t 18) .skip (.exit 0))) (.seq (.block 1 (.seq (rg [mv 21 0, mv 22 5, oo 23 (.ixa 8 (.t 21) (.t 22)), oo 24 (.ld 8 true (.t 23)), oo 6 (.alloc [(.str []), (.int .i64 0), (.int .i64 0), (.int .i64 0), (.int .i64 0), (.int .i64 0), (.str []), (.lit (.slice none 0 0))]), ⟨none, (.st 8 (.t 6) (.t 24)), none⟩]) (.seq (.seq (rg [oo 25 (.fa 0 (.t 6)), oo 26 (.ld 1 false (.t 25)), cl 27 75 [(.t 26)], oo 28 (.un .not (.t 27))]) (.cond (.t 28) (.seq (rg [mv 29 5, mv 2 29, oo 3 (.mov (ci 12))]) .ret) .skip)) (.seq (rg [oo 31 (.fa 0 (.t 6)), oo 32 (.ld 1 false (.t 31)), cl 33 76 [(.t 32)], mv 30 33, oo 34 (.ext (.t 30) 0), oo 35 (.ext (.t 30) 1), mv 7 34, mv 8 35]) (.seq (rg [oo 36 (.ld 8 true (.t 6)), cl 37 77 [(.t 36)], oo 38 (.un .not (.t 37)), mv 9 38]) (.seq (.reg true [(10, 11), (5, 12), (6, 12), (7, 12), (8, 12), (9, 12), (10, 12)] [mv 39 9, mv 40 39, og 41 (.mov (.t 5)) 40 false, og 42 (.bin .gtr .other true (.t 41) (ci 0)) 40 false, og 43 (.mov (.t 42)) 40 false, og 44 (.mov (.t 0)) 43 true, og 45 (.mov (.t 5)) 43 true, og 46 (.bin .sub .other true (.t 45) (ci 1)) 43 true, og 47 (.ixa 8 (.t 44) (.t 46)) 43 true, og 48 (.fa 0 (.t 47)) 43 true, og 49 (.ld 1 false (.t 48)) 43 true, og 50 (.fa 0 (.t 6)) 43 true, og 51 (.ld 1 false (.t 50)) 43 true, og 52 (.call (.c (.func (.func 78) [])) [(.t 49), (.t 51)]) 43 true, og 53 (.bin .neq .other true (.t 52) (.c (.int .i64 (-1)))) 43 true, og 54 (.pick (.t 43) (.t 53) (.c (.bool false))) 40 false, oo 55 (.pick (.t 40) (.c (.bool true)) (.t 54)), mv 9 55]) (.seq (rg [mv 56 9, mv 57 56, og 58 (.mov (.t 8)) 57 false, og 59 (.mov (.t 58)) 57 false, og 60 (.mov (.t 0)) 59 true, og 61 (.mov (.t 5)) 59 true, og 62 (.mov (.t 7)) 59 true, og 63 (.call (.c (.func (.func 79) [])) [(.t 60), (.t 61), (.t 62)]) 59 true, og 64 (.bin .neq .other true (.t 63) (ci 1)) 59 true, og 65 (.pick (.t 59) (.t 64) (.c (.bool false))) 57 false, oo 66 (.pick (.t 57) (.c (.bool true)) (.t 65)), mv 9 66]) (.seq (rg [mv 67 9, mv 68 67, og 69 (.fa 1 (.t 6)) 68 false, og 70 (.ld 1 false (.t 69)) 68 false, og 71 (.bin .eql .other true (.t 70) (ci 4)) 68 false, og 72 (.mov (.t 71)) 68 false, og 73 (.mov (.t 0)) 72 true, og 74 (.mov (.t 5)) 72 true, og 75 (.fa 6 (.t 6)) 72 true, og 76 (.ld 1 false (.t 75)) 72 true, og 77 (.call (.c (.func (.func 79) [])) [(.t 73), (.t 74), (.t 76)]) 72 true, og 78 (.bin .neq .other true (.t 77) (ci 2)) 72 true, og 79 (.pick (.t 72) (.t 78) (.c (.bool false))) 68 false, oo 80 (.pick (.t 68) (.c (.bool true)) (.t 79)), mv 9 80]) (.seq (.seq (rg [mv 81 9]) (.cond (.t 81) (.seq (rg [mv 82 5, mv 2 82, oo 3 (.mov (ci 13))]) .ret) .skip)) (.seq (rg [mv 83 4, oo 84 (.fa 7 (.t 6)), oo 85 (.ld 1 false (.t 84)), oo 86 (.len 1 (.t 85)), oo 87 (.bin .add .other false (.t 83) (.t 86)), mv 4 87]) (.seq (rg [mv 88 4, oo 89 (.bin .gtr .other true (.t 88) (ci 1048576))]) (.cond (.t 89) (.seq (rg [mv 90 5, mv 2 90, oo 3 (.mov (ci 18))]) .ret) .skip)))))))))))) (rg [mv 19 5, oo 20 (.bin .add .other true (.t 19) (ci 1)), mv 5 20])))
def r41_0 : ACode := (.seq (rg [oo 2 (.mov (.c (.int .i64 (-1)))), oo 3 (.mov (ci 0))]) .ret)
def b41 : AFn := ⟨1, 91, [(2, none), (3, none)], (.seq (rg [oo 2 (.mov (ci 0)), oo 3 (.mov (ci 0))]) (.seq (.seq (rg [mv 10 0, oo 11 (.len 1 (.t 10)), oo 12 (.bin .gtr .other true (.t 11) (ci 200))]) (.cond (.t 12) (.seq (rg [mv 13 0, oo 14 (.len 1 (.t 13)), mv 2 14, oo 3 (.mov (ci 19))]) .ret) .skip)) (.seq (rg [oo 4 (.mov (ci 0))]) (.seq (.seq (rg [oo 5 (.mov (ci 0))]) (.block 0 (.loop [0, 2, 3, 4, 5] l41_0))) r41_0))))⟩
theorem fn41 : AA.fn 41 = some b41 := by kernel_rfl
theorem np41 : AA.prim 41 = none := rfl
end Go.Abs
namespace Go.Abs
open Am
set_option maxRecDepth 10000
theorem split_mid {c : UInt8} : ∀ (a r : List UInt8), (∀ x ∈ a, x ≠ c) → splitOn c (a ++ c :: r) = a :: splitOn c r
 | [], r, _ => by simp [splitOn]
 | x :: a, r, h => by
  have ih := split_mid a r fun y hy => h y (by simp [hy])
  have hx : x ≠ c := h x (by simp)
  simp [splitOn, hx, ih]
theorem split_end {c : UInt8} : ∀ (a : List UInt8), (∀ x ∈ a, x ≠ c) → splitOn c a = [a]
 | [], _ => rfl
 | x :: a, h => by
  have ih := split_end a fun y hy => h y (by simp [hy])
  have hx : x ≠ c := h x (by simp)
  simp [splitOn, hx, ih]
theorem dt_eq {s pre a rest : List UInt8} (h : s = pre ++ (a ++ rest)) : List.take (pre.length + a.length - pre.length) (List.drop pre.length s) = a := by
 rw [h, List.drop_left' rfl, Nat.add_sub_cancel_left, List.take_left' rfl]
set_option maxHeartbeats 2000000 in
theorem h125o (s : List UInt8) (hs : s.length ≤ 1000000) (r0 : List (List UInt8)) : ∀ (rest a pre : List UInt8) (done : List (List UInt8)) (f i : Int) (q : Nat), s = pre ++ (a ++ rest) → f = pre.length → i = pre.length + a.length → (∀ x ∈ a, x ≠ 47) → q = done.length → done.length ≤ pre.length → r0 = done ++ splitOn 47 (a ++ rest) →
  HD AA 0 [0, 2, 3, 4, 5] l125_0 ⟨[.str s, .junk, .lit (.slice none 0 0), .own 0 1 0 q false, .int .i64 f, .int .i64 i, .junk, .junk, .junk, .junk, .junk, .junk, .junk, .junk, .junk, .junk, .junk, .junk, .junk, .junk, .junk, .junk, .junk, .junk, .junk, .junk, .junk, .junk, .junk, .junk, .junk, .junk], [(0, .row (done.map .str) 1)], 1⟩ [.blk 0, .code r125_0] (Fin [(2, none)] 0 (.own 0 1 0 r0.length false) [(0, .row (r0.map .str) 1)])
 | [], a, pre, done, f, i, q, h1, h2, h3, h4, h5, h6, h7 => by
  have hl : s.length = pre.length + a.length := by rw [h1]; simp
  have hd := dt_eq h1
  have ef : f.toNat = pre.length := by omega
  have ei : i.toNat = pre.length + a.length := by omega
  rw [List.append_nil, split_end a h4] at h7
  have et : (done.map AVal.str).take q = done.map .str := List.take_of_length_le (by rw [List.length_map]; omega)
  have hd1 : decide (i = (s.length : Int)) = true := decide_eq_true (by omega)
  refine hd_of (by unfold l125_0; rfl) ?_
  have gg:=trivial;repeat' first|simp (maxSteps:=2000000) (disch:=omega) only [gg,hd1,ef,ei,hd,et,lp_head,go_sem]|(refine br ?_ ?_<;>intro gg<;>try omega)|(apply And.intro;focus omega)|omega
  refine hd_of (by unfold l125_0; rfl) ?_
  rw [h7]
  have gg:=trivial;repeat' first|simp (maxSteps:=2000000) (disch:=omega) only [gg,r125_0,go_sem]|(refine br ?_ ?_<;>intro gg<;>try omega)|(apply And.intro;focus omega)|omega
  all_goals simp [h5]
 | x :: rest, a, pre, done, f, i, q, h1, h2, h3, h4, h5, h6, h7 => by
  have hl : s.length = pre.length + (a.length + (rest.length + 1)) := by rw [h1]; simp
  have hd := dt_eq h1
  have ef : f.toNat = pre.length := by omega
  have ei : i.toNat = pre.length + a.length := by omega
  have hd1 : decide (i = (s.length : Int)) = false := decide_eq_false (by omega)
  have hg : s[i.toNat]? = some x := by
   rw [ei, h1, ← List.append_assoc, List.getElem?_append_right (by simp)]
   simp
  rw [ei] at hg
  have et : (done.map AVal.str).take q = done.map .str := List.take_of_length_le (by rw [List.length_map]; omega)
  by_cases hx : x = 47
  ·subst hx
   rw [split_mid a rest h4] at h7
   have hx2 : ((47 : UInt8).toNat : Int) = 47 := rfl
   have ih := h125o s hs r0 rest [] (pre ++ (a ++ [47])) (done ++ [a]) (i + 1) (i + 1) (q + 1) (by rw [h1]; simp) (by simp; omega) (by simp; omega) (by simp) (by simp [h5]) (by simp; omega) (by rw [h7]; simp)
   simp only [List.map_append, List.map_cons, List.map_nil] at ih
   refine hd_of (by unfold l125_0; rfl) ?_
   have gg:=trivial;repeat' first|simp (maxSteps:=2000000) (disch:=omega) only [gg,hd1,ef,ei,hd,hg,et,hx2,lp_head,go_sem]|(refine br ?_ ?_<;>intro gg<;>try omega)|(apply And.intro;focus omega)|omega
  ·have hx2 : ¬ (x.toNat : Int) = 47 := by
    intro hh
    exact hx ((ty_eq x 47 (by omega)).mp hh)
   have ih := h125o s hs r0 rest (a ++ [x]) pre done f (i + 1) q (by rw [h1]; simp) h2 (by simp; omega) (by
    intro y hy
    rcases List.mem_append.1 hy with hy | hy
    ·exact h4 y hy
    ·rw [List.mem_singleton.1 hy]; exact hx) h5 h6 (by rw [h7]; simp)
   refine hd_of (by unfold l125_0; rfl) ?_
   have gg:=trivial;repeat' first|simp (maxSteps:=2000000) (disch:=omega) only [gg,hd1,ei,hg,hx2,lp_head,go_sem]|(refine br ?_ ?_<;>intro gg<;>try omega)|(apply And.intro;focus omega)|omega
set_option maxHeartbeats 2000000 in
theorem h125n (s : List UInt8) (hs : s.length ≤ 1000000) (r0 : List (List UInt8)) : ∀ (rest a : List UInt8) (i : Int), s = a ++ rest → i = a.length → (∀ x ∈ a, x ≠ 47) → r0 = splitOn 47 (a ++ rest) →
  HD AA 0 [0, 2, 3, 4, 5] l125_0 ⟨[.str s, .junk, .lit (.slice none 0 0), .lit (.slice none 0 0), .int .i64 0, .int .i64 i, .junk, .junk, .junk, .junk, .junk, .junk, .junk, .junk, .junk, .junk, .junk, .junk, .junk, .junk, .junk, .junk, .junk, .junk, .junk, .junk, .junk, .junk, .junk, .junk, .junk, .junk], [], 0⟩ [.blk 0, .code r125_0] (Fin [(2, none)] 0 (.own 0 1 0 r0.length false) [(0, .row (r0.map .str) 1)])
 | [], a, i, h1, h3, h4, h7 => by
  have hl : s.length = a.length := by rw [h1]; simp
  have hsa : s = a := by rw [h1]; simp
  have hd : List.take s.length s = s := List.take_length
  have ei : i.toNat = s.length := by omega
  rw [List.append_nil, split_end a h4, ← hsa] at h7
  have hd1 : decide (i = (s.length : Int)) = true := decide_eq_true (by omega)
  refine hd_of (by unfold l125_0; rfl) ?_
  have gg:=trivial;repeat' first|simp (maxSteps:=2000000) (disch:=omega) only [gg,hd1,ei,hd,Nat.sub_zero,List.drop_zero,lp_head,go_sem]|(refine br ?_ ?_<;>intro gg<;>try omega)|(apply And.intro;focus omega)|omega
  refine hd_of (by unfold l125_0; rfl) ?_
  rw [h7]
  have gg:=trivial;repeat' first|simp (maxSteps:=2000000) (disch:=omega) only [gg,r125_0,go_sem]|(refine br ?_ ?_<;>intro gg<;>try omega)|(apply And.intro;focus omega)|omega
 | x :: rest, a, i, h1, h3, h4, h7 => by
  have hl : s.length = a.length + (rest.length + 1) := by rw [h1]; simp
  have hd : List.take a.length s = a := by rw [h1, List.take_left' rfl]
  have ei : i.toNat = a.length := by omega
  have hd1 : decide (i = (s.length : Int)) = false := decide_eq_false (by omega)
  have hg : s[a.length]? = some x := by
   rw [h1, List.getElem?_append_right (by omega)]
   simp
  by_cases hx : x = 47
  ·subst hx
   rw [split_mid a rest h4] at h7
   have hx2 : ((47 : UInt8).toNat : Int) = 47 := rfl
   have ih := h125o s hs r0 rest [] (a ++ [47]) [a] (i + 1) (i + 1) 1 (by rw [h1]; simp) (by simp; omega) (by simp; omega) (by simp) rfl (by simp) (by rw [h7]; simp)
   simp only [List.map_cons, List.map_nil] at ih
   refine hd_of (by unfold l125_0; rfl) ?_
   have gg:=trivial;repeat' first|simp (maxSteps:=2000000) (disch:=omega) only [gg,hd1,ei,hd,hg,hx2,Nat.sub_zero,List.drop_zero,lp_head,go_sem]|(refine br ?_ ?_<;>intro gg<;>try omega)|(apply And.intro;focus omega)|omega
  ·have hx2 : ¬ (x.toNat : Int) = 47 := by
    intro hh
    exact hx ((ty_eq x 47 (by omega)).mp hh)
   have ih := h125n s hs r0 rest (a ++ [x]) (i + 1) (by rw [h1]; simp) (by simp; omega) (by
    intro y hy
    rcases List.mem_append.1 hy with hy | hy
    ·exact h4 y hy
    ·rw [List.mem_singleton.1 hy]; exact hx) (by rw [h7]; simp)
   refine hd_of (by unfold l125_0; rfl) ?_
   have gg:=trivial;repeat' first|simp (maxSteps:=2000000) (disch:=omega) only [gg,hd1,ei,hg,hx2,lp_head,go_sem]|(refine br ?_ ?_<;>intro gg<;>try omega)|(apply And.intro;focus omega)|omega
theorem s125 (s : List UInt8) (hs : s.length ≤ 1000000) : callT AA 125 [.str s] [] = some (.own 0 1 0 (splitOn 47 s).length false, [(0, .row ((splitOn 47 s).map .str) 1)]) := by
 have hh := h125n s hs (splitOn 47 s) s [] 0 rfl rfl (by simp) rfl
 refine enter fn125 np125 rfl ?_
 have gg:=trivial;repeat' first|simp (maxSteps:=2000000) (disch:=omega) only [gg,b125,lp_head,go_sem]|(refine br ?_ ?_<;>intro gg<;>try omega)|(apply And.intro;focus omega)|omega
end Go.Abs
namespace Go.Abs
open Am Lib
set_option maxRecDepth 10000
def utfT (c : Nat) : Nat × Int × Int :=
 if c < 128 then (1, 128, 191) else
 if 194 ≤ c ∧ c ≤ 223 then (2, 128, 191) else
 if c = 224 then (3, 160, 191) else
 if c = 237 then (3, 128, 159) else
 if 224 ≤ c ∧ c ≤ 239 then (3, 128, 191) else
 if c = 240 then (4, 144, 191) else
 if c = 244 then (4, 128, 143) else
 if 240 ≤ c ∧ c ≤ 244 then (4, 128, 191) else (0, 128, 191)
def contB : Int → Int → List UInt8 → Bool
 | _, _, [] => true
 | lo, hi, b :: r => if (b.toNat : Int) < lo ∨ hi < b.toNat then false else contB 128 191 r
def utfF : Nat → List UInt8 → Bool
 | 0, _ => true
 | _ + 1, [] => true
 | k + 1, c :: r => if (utfT c.toNat).1 = 0 ∨ r.length + 1 < (utfT c.toNat).1 then false else
  if contB (utfT c.toNat).2.1 (utfT c.toNat).2.2 (r.take ((utfT c.toNat).1 - 1)) = false then false else utfF k (r.drop ((utfT c.toNat).1 - 1))
theorem utfT_le (c : Nat) : (utfT c).1 ≤ 4 := by
 unfold utfT
 repeat' split
 all_goals simp
theorem utf_first (c : Nat) (h : 128 ≤ c) (h2 : c < 256) : ((utfT c).1 = 0 ∧ firstT c % 8 = 1) ∨ ((utfT c).1 = firstT c % 8 ∧ ((utfT c).1 = 2 ∨ (utfT c).1 = 3 ∨ (utfT c).1 = 4) ∧ (utfT c).2.1 = (accLo (firstT c / 16) : Int) ∧ (utfT c).2.2 = (accHi (firstT c / 16) : Int)) := by
 have h3 : ∀ c : _root_.Fin 256, 128 ≤ c.val → ((utfT c.val).1 = 0 ∧ firstT c.val % 8 = 1) ∨ ((utfT c.val).1 = firstT c.val % 8 ∧ ((utfT c.val).1 = 2 ∨ (utfT c.val).1 = 3 ∨ (utfT c.val).1 = 4) ∧ (utfT c.val).2.1 = (accLo (firstT c.val / 16) : Int) ∧ (utfT c.val).2.2 = (accHi (firstT c.val / 16) : Int)) := by decide
 exact h3 ⟨c, h2⟩ h
theorem ut1 {c : Nat} (h : (c : Int) < 128) : utfT c = (1, 128, 191) := by unfold utfT; rw [if_pos (by omega)]
theorem ut2 {c : Nat} (h : 194 ≤ (c : Int)) (h2 : (c : Int) ≤ 223) : utfT c = (2, 128, 191) := by unfold utfT; rw [if_neg (by omega), if_pos (by omega)]
theorem ut3 {c : Nat} (h : (c : Int) = 224) : utfT c = (3, 160, 191) := by unfold utfT; rw [if_neg (by omega), if_neg (by omega), if_pos (by omega)]
theorem ut4 {c : Nat} (h : (c : Int) = 237) : utfT c = (3, 128, 159) := by unfold utfT; rw [if_neg (by omega), if_neg (by omega), if_neg (by omega), if_pos (by omega)]
theorem ut5 {c : Nat} (h : 224 ≤ (c : Int)) (h2 : (c : Int) ≤ 239) (h3 : ¬ (c : Int) = 224) (h4 : ¬ (c : Int) = 237) : utfT c = (3, 128, 191) := by unfold utfT; rw [if_neg (by omega), if_neg (by omega), if_neg (by omega), if_neg (by omega), if_pos (by omega)]
theorem ut6 {c : Nat} (h : (c : Int) = 240) : utfT c = (4, 144, 191) := by unfold utfT; rw [if_neg (by omega), if_neg (by omega), if_neg (by omega), if_neg (by omega), if_neg (by omega), if_pos (by omega)]
theorem ut7 {c : Nat} (h : (c : Int) = 244) : utfT c = (4, 128, 143) := by unfold utfT; rw [if_neg (by omega), if_neg (by omega), if_neg (by omega), if_neg (by omega), if_neg (by omega), if_neg (by omega), if_pos (by omega)]
theorem ut8 {c : Nat} (h : 240 ≤ (c : Int)) (h2 : (c : Int) ≤ 244) (h3 : ¬ (c : Int) = 240) (h4 : ¬ (c : Int) = 244) : utfT c = (4, 128, 191) := by unfold utfT; rw [if_neg (by omega), if_neg (by omega), if_neg (by omega), if_neg (by omega), if_neg (by omega), if_neg (by omega), if_neg (by omega), if_pos (by omega)]
theorem ut9 {c : Nat} (h : 128 ≤ (c : Int)) (h2 : ¬ (194 ≤ (c : Int) ∧ (c : Int) ≤ 223)) (h3 : ¬ (224 ≤ (c : Int) ∧ (c : Int) ≤ 239)) (h4 : ¬ (240 ≤ (c : Int) ∧ (c : Int) ≤ 244)) : utfT c = (0, 128, 191) := by unfold utfT; rw [if_neg (by omega), if_neg (by omega), if_neg (by omega), if_neg (by omega), if_neg (by omega), if_neg (by omega), if_neg (by omega), if_neg (by omega)]
theorem utf_valid : ∀ (k : Nat) (s : List UInt8), s.length ≤ k → utfF k s = Lib.validD s
 | 0, s, h => by
  have : s = [] := List.length_eq_zero_iff.1 (by omega)
  subst this; rfl
 | k + 1, [], _ => rfl
 | k + 1, c :: r, h => by
  rw [List.length_cons] at h
  by_cases hc : c.toNat < 128
  ·have h1 : utfT c.toNat = (1, 128, 191) := by unfold utfT; rw [if_pos hc]
   rw [validD_cons c r hc, ← utf_valid k r (by omega), utfF, h1]
   simp [contB]
  ·rw [validD_lead (c :: r) (by simp) (by simpa using hc)]
   have hd : ((c :: r).getD 0 0).toNat = c.toNat := rfl
   rw [hd, utfF]
   rcases utf_first c.toNat (by omega) c.toNat_lt with ⟨h1, h2⟩ | ⟨h1, h2, h3, h4⟩
   ·rw [h1, h2, if_pos (Or.inl rfl)]
    rfl
   ·rw [← h1, h3, h4]
    generalize accLo (firstT c.toNat / 16) = lo
    generalize accHi (firstT c.toNat / 16) = hi
    generalize (utfT c.toNat).1 = n at h2
    rcases h2 with rfl | rfl | rfl
    ·match r, h with
     | [], _ => simp [checkN]
     | a :: r, h =>
      have ih := utf_valid k r (by simp at h; omega)
      have e1 : (((a.toNat : Int) < lo ∨ (hi : Int) < a.toNat)) ↔ (a.toNat < lo ∨ hi < a.toNat) := by omega
      have hz : ¬ (2 = 0 ∨ (a :: r).length + 1 < 2) := by simp
      rw [if_neg hz]
      simp only [contB, checkN, List.length_cons, List.getD_cons_succ, List.getD_cons_zero, Nat.add_sub_cancel, List.take_succ_cons, List.take_zero, List.drop_succ_cons, List.drop_zero, e1, Nat.reduceSub]
      by_cases h5 : a.toNat < lo ∨ hi < a.toNat
      ·have h6 : r.length + 1 + 1 < 2 ∨ a.toNat < lo ∨ hi < a.toNat := by omega
       simp only [if_pos h5, if_pos h6, if_true]
      ·have h6 : ¬ (r.length + 1 + 1 < 2 ∨ a.toNat < lo ∨ hi < a.toNat) := by omega
       simp only [if_neg h5, if_neg h6, if_true, ih, Bool.true_eq_false, if_false, List.drop_succ_cons, List.drop_zero]
    ·match r, h with
     | [], _ => simp [checkN]
     | [a], _ => simp [checkN]
     | a :: b :: r, h =>
      have ih := utf_valid k r (by simp at h; omega)
      have e1 : (((a.toNat : Int) < lo ∨ (hi : Int) < a.toNat)) ↔ (a.toNat < lo ∨ hi < a.toNat) := by omega
      have e2 : (((b.toNat : Int) < 128 ∨ (191 : Int) < b.toNat)) ↔ (b.toNat < 128 ∨ 191 < b.toNat) := by omega
      have hz : ¬ (3 = 0 ∨ (a :: b :: r).length + 1 < 3) := by simp
      rw [if_neg hz]
      simp only [contB, checkN, List.length_cons, List.getD_cons_succ, List.getD_cons_zero, Nat.add_sub_cancel, List.take_succ_cons, List.take_zero, List.drop_succ_cons, List.drop_zero, e1, e2, Nat.reduceSub, Nat.reduceEqDiff, if_false]
      by_cases h5 : a.toNat < lo ∨ hi < a.toNat
      ·have h6 : r.length + 1 + 1 + 1 < 3 ∨ a.toNat < lo ∨ hi < a.toNat ∨ b.toNat < 128 ∨ 191 < b.toNat := by omega
       simp only [if_pos h5, if_pos h6, if_true]
      ·by_cases h7 : b.toNat < 128 ∨ 191 < b.toNat
       ·have h6 : r.length + 1 + 1 + 1 < 3 ∨ a.toNat < lo ∨ hi < a.toNat ∨ b.toNat < 128 ∨ 191 < b.toNat := by omega
        simp only [if_neg h5, if_pos h7, if_pos h6, if_true]
       ·have h6 : ¬ (r.length + 1 + 1 + 1 < 3 ∨ a.toNat < lo ∨ hi < a.toNat ∨ b.toNat < 128 ∨ 191 < b.toNat) := by omega
        simp only [if_neg h5, if_neg h7, if_neg h6, if_true, ih, Bool.true_eq_false, if_false, List.drop_succ_cons, List.drop_zero]
    ·match r, h with
     | [], _ => simp [checkN]
     | [a], _ => simp [checkN]
     | [a, b], _ => simp [checkN]
     | a :: b :: d :: r, h =>
      have ih := utf_valid k r (by simp at h; omega)
      have e1 : (((a.toNat : Int) < lo ∨ (hi : Int) < a.toNat)) ↔ (a.toNat < lo ∨ hi < a.toNat) := by omega
      have e2 : (((b.toNat : Int) < 128 ∨ (191 : Int) < b.toNat)) ↔ (b.toNat < 128 ∨ 191 < b.toNat) := by omega
      have e3 : (((d.toNat : Int) < 128 ∨ (191 : Int) < d.toNat)) ↔ (d.toNat < 128 ∨ 191 < d.toNat) := by omega
      have hz : ¬ (4 = 0 ∨ (a :: b :: d :: r).length + 1 < 4) := by simp
      rw [if_neg hz]
      simp only [contB, checkN, List.length_cons, List.getD_cons_succ, List.getD_cons_zero, Nat.add_sub_cancel, List.take_succ_cons, List.take_zero, List.drop_succ_cons, List.drop_zero, e1, e2, e3, Nat.reduceSub, Nat.reduceEqDiff, if_false]
      by_cases h5 : a.toNat < lo ∨ hi < a.toNat
      ·have h6 : r.length + 1 + 1 + 1 + 1 < 4 ∨ a.toNat < lo ∨ hi < a.toNat ∨ b.toNat < 128 ∨ 191 < b.toNat ∨ d.toNat < 128 ∨ 191 < d.toNat := by omega
       simp only [if_pos h5, if_pos h6, if_true]
      ·by_cases h7 : b.toNat < 128 ∨ 191 < b.toNat
       ·have h6 : r.length + 1 + 1 + 1 + 1 < 4 ∨ a.toNat < lo ∨ hi < a.toNat ∨ b.toNat < 128 ∨ 191 < b.toNat ∨ d.toNat < 128 ∨ 191 < d.toNat := by omega
        simp only [if_neg h5, if_pos h7, if_pos h6, if_true]
       ·by_cases h8 : d.toNat < 128 ∨ 191 < d.toNat
        ·have h6 : r.length + 1 + 1 + 1 + 1 < 4 ∨ a.toNat < lo ∨ hi < a.toNat ∨ b.toNat < 128 ∨ 191 < b.toNat ∨ d.toNat < 128 ∨ 191 < d.toNat := by omega
         simp only [if_neg h5, if_neg h7, if_pos h8, if_pos h6, if_true]
        ·have h6 : ¬ (r.length + 1 + 1 + 1 + 1 < 4 ∨ a.toNat < lo ∨ hi < a.toNat ∨ b.toNat < 128 ∨ 191 < b.toNat ∨ d.toNat < 128 ∨ 191 < d.toNat) := by omega
         simp only [if_neg h5, if_neg h7, if_neg h8, if_neg h6, if_true, ih, Bool.true_eq_false, if_false, List.drop_succ_cons, List.drop_zero]
set_option maxHeartbeats 4000000 in
theorem h160i (s : List UInt8) (hs : s.length ≤ 1000000) (i : Int) (n : Nat) (v : Bool) (h0 : 0 ≤ i) (h9 : n ≤ 4) : ∀ (cs tail pre : List UInt8) (lo hi k : Int), s = pre ++ (cs ++ tail) → i + k = pre.length → 0 ≤ k → k + cs.length = n → (contB lo hi cs = false → v = false) → (contB lo hi cs = true → HD AA 0 [0, 2, 3] l160_1 ⟨[.str s, .junk, .bool false, .int .i64 (i + n), .junk, .junk, .junk, .junk, .junk, .junk, .junk, .junk, .junk, .junk, .junk, .junk, .junk, .junk, .junk, .junk, .junk, .junk, .junk, .junk, .junk, .junk, .junk, .junk, .junk, .junk, .junk, .junk, .junk, .junk, .junk, .junk, .junk, .junk, .junk, .junk, .junk, .junk, .junk, .junk, .junk, .junk, .junk, .junk, .junk, .junk, .junk, .junk, .junk, .junk, .junk, .junk, .junk, .junk, .junk, .junk, .junk, .junk, .junk, .junk, .junk, .junk, .junk, .junk, .junk, .junk, .junk, .junk, .junk, .junk, .junk, .junk, .junk, .junk, .junk, .junk, .junk, .junk], [], 0⟩ [.blk 0, .code r160_1] (Fin [(2, none)] 0 (.bool v) [])) →
  HD AA 0 [0, 2, 3, 5, 6, 7, 8] l160_0 ⟨[.str s, .junk, .bool false, .int .i64 i, .junk, .int .i64 n, .int .u8 lo, .int .u8 hi, .int .i64 k, .junk, .junk, .junk, .junk, .junk, .junk, .junk, .junk, .junk, .junk, .junk, .junk, .junk, .junk, .junk, .junk, .junk, .junk, .junk, .junk, .junk, .junk, .junk, .junk, .junk, .junk, .junk, .junk, .junk, .junk, .junk, .junk, .junk, .junk, .junk, .junk, .junk, .junk, .junk, .junk, .junk, .junk, .junk, .junk, .junk, .junk, .junk, .junk, .junk, .junk, .junk, .junk, .junk, .junk, .junk, .junk, .junk, .junk, .junk, .junk, .junk, .junk, .junk, .junk, .junk, .junk, .junk, .junk, .junk, .junk, .junk, .junk, .junk], [], 0⟩ [.blk 3, .code r160_0, .blk 1, .loop [0, 2, 3] l160_1, .blk 0, .code r160_1] (Fin [(2, none)] 0 (.bool v) [])
 | [], tail, pre, lo, hi, k, h1, h2, h3, h4, h5, h6 => by
  have h7 := h6 rfl
  have h8 : k = n := by simpa using h4
  have hl : s.length = pre.length + tail.length := by rw [h1]; simp
  refine hd_of (by unfold l160_0; rfl) ?_
  have gg:=trivial;repeat' first|simp (maxSteps:=2000000) (disch:=omega) only [gg,r160_0,lp_head,go_sem]|(refine br ?_ ?_<;>intro gg<;>try omega)|(apply And.intro;focus omega)|omega
 | b :: cs, tail, pre, lo, hi, k, h1, h2, h3, h4, h5, h6 => by
  have hl : s.length = pre.length + (cs.length + 1 + tail.length) := by rw [h1]; simp; omega
  rw [List.length_cons] at h4
  have hb := b.toNat_lt
  have ei : (i + k).toNat = pre.length := by omega
  have hxi : s[(i + k).toNat]? = some b := by
   rw [ei, h1, List.getElem?_append_right (by omega)]
   simp
  have hk : ¬ ((b.toNat : Int) < lo ∨ hi < b.toNat) → HD AA 0 [0, 2, 3, 5, 6, 7, 8] l160_0 ⟨[.str s, .junk, .bool false, .int .i64 i, .junk, .int .i64 n, .int .u8 128, .int .u8 191, .int .i64 (k + 1), .junk, .junk, .junk, .junk, .junk, .junk, .junk, .junk, .junk, .junk, .junk, .junk, .junk, .junk, .junk, .junk, .junk, .junk, .junk, .junk, .junk, .junk, .junk, .junk, .junk, .junk, .junk, .junk, .junk, .junk, .junk, .junk, .junk, .junk, .junk, .junk, .junk, .junk, .junk, .junk, .junk, .junk, .junk, .junk, .junk, .junk, .junk, .junk, .junk, .junk, .junk, .junk, .junk, .junk, .junk, .junk, .junk, .junk, .junk, .junk, .junk, .junk, .junk, .junk, .junk, .junk, .junk, .junk, .junk, .junk, .junk, .junk, .junk], [], 0⟩ [.blk 3, .code r160_0, .blk 1, .loop [0, 2, 3] l160_1, .blk 0, .code r160_1] (Fin [(2, none)] 0 (.bool v) []) := by
   intro hn
   have e : contB lo hi (b :: cs) = contB 128 191 cs := by rw [contB, if_neg hn]
   rw [e] at h5 h6
   exact h160i s hs i n v h0 h9 cs tail (pre ++ [b]) 128 191 (k + 1) (by rw [h1]; simp) (by simp; omega) (by omega) (by omega) h5 h6
  have hv : ((b.toNat : Int) < lo ∨ hi < b.toNat) → v = false := fun hn => h5 (by rw [contB, if_pos hn])
  refine hd_of (by unfold l160_0; rfl) ?_
  have gg:=trivial;repeat' first|simp (maxSteps:=2000000) (disch:=omega) only [gg,hxi,lp_head,go_sem]|(refine br ?_ ?_<;>intro gg<;>try omega)|(apply And.intro;focus omega)|omega
  all_goals first
   | exact hk (by omega)
   |(rw [hv (by omega)])
set_option maxHeartbeats 4000000 in
theorem t160 (s : List UInt8) (hs : s.length ≤ 1000000) (i : Int) (c : UInt8) (v : Bool) (h0 : 0 ≤ i) (hxi : s[i.toNat]? = some c) (hl : i < s.length) (K1 : ∀ n lo hi, utfT c.toNat = (n, lo, hi) → n = 0 ∨ (s.length : Int) < i + n → v = false) (K : ∀ (n : Nat) (lo hi : Int), utfT c.toNat = (n, lo, hi) → 1 ≤ n → i + n ≤ s.length → HD AA 0 [0, 2, 3, 5, 6, 7, 8] l160_0 ⟨[.str s, .junk, .bool false, .int .i64 i, .junk, .int .i64 n, .int .u8 lo, .int .u8 hi, .int .i64 1, .junk, .junk, .junk, .junk, .junk, .junk, .junk, .junk, .junk, .junk, .junk, .junk, .junk, .junk, .junk, .junk, .junk, .junk, .junk, .junk, .junk, .junk, .junk, .junk, .junk, .junk, .junk, .junk, .junk, .junk, .junk, .junk, .junk, .junk, .junk, .junk, .junk, .junk, .junk, .junk, .junk, .junk, .junk, .junk, .junk, .junk, .junk, .junk, .junk, .junk, .junk, .junk, .junk, .junk, .junk, .junk, .junk, .junk, .junk, .junk, .junk, .junk, .junk, .junk, .junk, .junk, .junk, .junk, .junk, .junk, .junk, .junk, .junk], [], 0⟩ [.blk 3, .code r160_0, .blk 1, .loop [0, 2, 3] l160_1, .blk 0, .code r160_1] (Fin [(2, none)] 0 (.bool v) [])) :
  HD AA 0 [0, 2, 3] l160_1 ⟨[.str s, .junk, .bool false, .int .i64 i, .junk, .junk, .junk, .junk, .junk, .junk, .junk, .junk, .junk, .junk, .junk, .junk, .junk, .junk, .junk, .junk, .junk, .junk, .junk, .junk, .junk, .junk, .junk, .junk, .junk, .junk, .junk, .junk, .junk, .junk, .junk, .junk, .junk, .junk, .junk, .junk, .junk, .junk, .junk, .junk, .junk, .junk, .junk, .junk, .junk, .junk, .junk, .junk, .junk, .junk, .junk, .junk, .junk, .junk, .junk, .junk, .junk, .junk, .junk, .junk, .junk, .junk, .junk, .junk, .junk, .junk, .junk, .junk, .junk, .junk, .junk, .junk, .junk, .junk, .junk, .junk, .junk, .junk], [], 0⟩ [.blk 0, .code r160_1] (Fin [(2, none)] 0 (.bool v) []) := by
 have hc := c.toNat_lt
 dsimp only at K
 refine hd_of (by unfold l160_1; rfl) ?_
 have gg:=trivial;repeat' first|simp (maxSteps:=2000000) (disch:=omega) only [gg,hxi,lp_head,go_sem]|(refine br ?_ ?_<;>intro gg<;>try omega)|(apply And.intro;focus omega)|omega
 all_goals first
   |(have hK := K _ _ _ (ut1 (by omega)) (by omega) (by omega); exact hK)
   |(have hK := K _ _ _ (ut2 (by omega) (by omega)) (by omega) (by omega); exact hK)
   |(have hK := K _ _ _ (ut3 (by omega)) (by omega) (by omega); exact hK)
   |(have hK := K _ _ _ (ut4 (by omega)) (by omega) (by omega); exact hK)
   |(have hK := K _ _ _ (ut5 (by omega) (by omega) (by omega) (by omega)) (by omega) (by omega); exact hK)
   |(have hK := K _ _ _ (ut6 (by omega)) (by omega) (by omega); exact hK)
   |(have hK := K _ _ _ (ut7 (by omega)) (by omega) (by omega); exact hK)
   |(have hK := K _ _ _ (ut8 (by omega) (by omega) (by omega) (by omega)) (by omega) (by omega); exact hK)
   | rw [K1 _ _ _ (ut1 (by omega)) (by omega)]
   | rw [K1 _ _ _ (ut2 (by omega) (by omega)) (by omega)]
   | rw [K1 _ _ _ (ut3 (by omega)) (by omega)]
   | rw [K1 _ _ _ (ut4 (by omega)) (by omega)]
   | rw [K1 _ _ _ (ut5 (by omega) (by omega) (by omega) (by omega)) (by omega)]
   | rw [K1 _ _ _ (ut6 (by omega)) (by omega)]
   | rw [K1 _ _ _ (ut7 (by omega)) (by omega)]
   | rw [K1 _ _ _ (ut8 (by omega) (by omega) (by omega) (by omega)) (by omega)]
   | rw [K1 _ _ _ (ut9 (by omega) (by omega) (by omega) (by omega)) (by omega)]
set_option maxHeartbeats 4000000 in
theorem h160 (s : List UInt8) (hs : s.length ≤ 1000000) (v : Bool) : ∀ (k : Nat) (rest pre : List UInt8) (i : Int), s = pre ++ rest → i = pre.length → rest.length ≤ k → v = utfF k rest →
  HD AA 0 [0, 2, 3] l160_1 ⟨[.str s, .junk, .bool false, .int .i64 i, .junk, .junk, .junk, .junk, .junk, .junk, .junk, .junk, .junk, .junk, .junk, .junk, .junk, .junk, .junk, .junk, .junk, .junk, .junk, .junk, .junk, .junk, .junk, .junk, .junk, .junk, .junk, .junk, .junk, .junk, .junk, .junk, .junk, .junk, .junk, .junk, .junk, .junk, .junk, .junk, .junk, .junk, .junk, .junk, .junk, .junk, .junk, .junk, .junk, .junk, .junk, .junk, .junk, .junk, .junk, .junk, .junk, .junk, .junk, .junk, .junk, .junk, .junk, .junk, .junk, .junk, .junk, .junk, .junk, .junk, .junk, .junk, .junk, .junk, .junk, .junk, .junk, .junk], [], 0⟩ [.blk 0, .code r160_1] (Fin [(2, none)] 0 (.bool v) [])
 | k, [], pre, i, h1, h2, h3, h4 => by
  have hv : v = true := by rw [h4]; cases k <;> rfl
  have hl : s.length = pre.length := by rw [h1]; simp
  subst hv
  refine hd_of (by unfold l160_1; rfl) ?_
  have gg:=trivial;repeat' first|simp (maxSteps:=2000000) (disch:=omega) only [gg,r160_1,go_sem]|(refine br ?_ ?_<;>intro gg<;>try omega)|(apply And.intro;focus omega)|omega
 | k + 1, c :: r, pre, i, h1, h2, h3, h4 => by
  rw [List.length_cons] at h3
  have hl : s.length = pre.length + (r.length + 1) := by rw [h1]; simp
  have ei : i.toNat = pre.length := by omega
  have hg : s[i.toNat]? = some c := by
   rw [ei, h1, List.getElem?_append_right (by omega)]
   simp
  have hle := utfT_le c.toNat
  refine t160 s hs i c v (by omega) hg (by omega) ?_ ?_
  ·intro n lo hi hu hn
   rw [h4, utfF, hu, if_pos (by dsimp only; omega)]
  ·intro n lo hi hu h5 h6
   rw [utfF, hu, if_neg (by dsimp only; omega)] at h4
   dsimp only at h4
   rw [hu] at hle
   dsimp only at hle
   have e1 : r.take (n - 1) ++ r.drop (n - 1) = r := List.take_append_drop _ _
   have e2 : (r.take (n - 1)).length = n - 1 := by rw [List.length_take]; omega
   have e3 : (r.drop (n - 1)).length ≤ k := by rw [List.length_drop]; omega
   refine h160i s hs i n v (by omega) hle (r.take (n - 1)) (r.drop (n - 1)) (pre ++ [c]) lo hi 1 ?_ ?_ (by omega) (by omega) ?_ ?_
   ·rw [e1, h1]; simp
   ·rw [List.length_append]; simp; omega
   ·intro h7
    rw [h4, if_pos h7]
   ·intro h7
    rw [h7] at h4
    refine h160 s hs v k (r.drop (n - 1)) (pre ++ c :: r.take (n - 1)) (i + n) ?_ ?_ e3 (by simpa using h4)
    ·rw [List.append_assoc, List.cons_append, e1, h1]
    ·rw [List.length_append, List.length_cons, e2]; omega
theorem s160 (s : List UInt8) (hs : s.length ≤ 1000000) : callT AA 160 [.str s] [] = some (.bool (Lib.validD s), []) := by
 have hh := h160 s hs (Lib.validD s) s.length s [] 0 rfl rfl (Nat.le_refl _) (utf_valid _ s (Nat.le_refl _)).symm
 refine enter fn160 np160 rfl ?_
 have gg:=trivial;repeat' first|simp (maxSteps:=2000000) (disch:=omega) only [gg,b160,lp_head,go_sem]|(refine br ?_ ?_<;>intro gg<;>try omega)|(apply And.intro;focus omega)|omega
end Go.Abs
namespace Go.Abs
open Am Lib
set_option maxRecDepth 10000
def noz : List UInt8 → Bool
 | [] => true
 | x :: r => decide (x ≠ 0) && noz r
theorem noz_index : ∀ s : List UInt8, noz s = decide (indexByte s 0 < 0)
 | [] => by simp [noz, indexByte]
 | x :: r => by
  have ih := noz_index r
  have hge := indexByte_ge r 0
  have e : indexByte (x :: r) 0 = if x = 0 then 0 else if indexByte r 0 = -1 then -1 else indexByte r 0 + 1 := by
   rw [indexByte]
   simp
  rw [noz, ih, e]
  by_cases hx : x = 0
  ·simp [hx]
  ·rw [if_neg hx]
   by_cases h : indexByte r 0 < 0
   ·have h1 : indexByte r 0 = -1 := by omega
    simp [h1, hx]
   ·have h1 : ¬ indexByte r 0 = -1 := by omega
    have h2 : ¬ indexByte r 0 + 1 < 0 := by omega
    simp [h1, h, h2]
set_option maxHeartbeats 2000000 in
theorem h124 (s : List UInt8) (hs : s.length ≤ 1000000) (v : Bool) : ∀ (rest pre : List UInt8) (i : Int), s = pre ++ rest → i = pre.length → v = (noz rest && validD s) →
  HD AA 0 [0, 4, 5] l124_0 ⟨[.str s, .junk, .junk, .junk, .bool false, .int .i64 i, .junk, .junk, .junk, .junk, .junk, .junk, .junk, .junk, .junk, .junk, .junk, .junk, .junk, .junk, .junk, .junk, .junk, .junk, .junk, .junk, .junk], [], 0⟩ [.blk 0, .code r124_0] (Fin [(4, none)] 0 (.bool v) [])
 | [], pre, i, h1, h2, h4 => by
  have hl : s.length = pre.length := by rw [h1]; simp
  have hv : v = validD s := by rw [h4]; rfl
  subst hv
  refine hd_of (by unfold l124_0; rfl) ?_
  have gg:=trivial;repeat' first|simp (maxSteps:=2000000) (disch:=omega) only [gg,r124_0,s160,hs,go_sem]|(refine br ?_ ?_<;>intro gg<;>try omega)|(apply And.intro;focus omega)|omega
 | c :: r, pre, i, h1, h2, h4 => by
  have hl : s.length = pre.length + (r.length + 1) := by rw [h1]; simp
  have ei : i.toNat = pre.length := by omega
  have hxi : s[i.toNat]? = some c := by
   rw [ei, h1, List.getElem?_append_right (by omega)]
   simp
  by_cases hc : c = 0
  ·subst hc
   have hv : v = false := by rw [h4]; rfl
   subst hv
   have hc2 : ((0 : UInt8).toNat : Int) = 0 := rfl
   refine hd_of (by unfold l124_0; rfl) ?_
   have gg:=trivial;repeat' first|simp (maxSteps:=2000000) (disch:=omega) only [gg,hxi,hc2,go_sem]|(refine br ?_ ?_<;>intro gg<;>try omega)|(apply And.intro;focus omega)|omega
  ·have hc2 : ¬ (c.toNat : Int) = 0 := by
    intro hh
    exact hc ((ty_eq c 0 (by omega)).mp hh)
   have ih := h124 s hs v r (pre ++ [c]) (i + 1) (by rw [h1]; simp) (by simp; omega) (by rw [h4, noz]; simp [hc])
   refine hd_of (by unfold l124_0; rfl) ?_
   have gg:=trivial;repeat' first|simp (maxSteps:=2000000) (disch:=omega) only [gg,hxi,hc2,lp_head,go_sem]|(refine br ?_ ?_<;>intro gg<;>try omega)|(apply And.intro;focus omega)|omega
theorem s124 (s : List UInt8) (most : Int) (hs : s.length ≤ 1000000) : callT AA 124 [.str s, .int .i64 most] [] = some (.bool (textB s most), []) := by
 have hh := h124 s hs (noz s && validD s) s [] 0 rfl rfl rfl
 have he : textB s most = (decide (s ≠ []) && decide ((s.length : Int) ≤ most) && (noz s && validD s)) := by
  unfold textB
  rw [noz_index, Bool.and_assoc, Bool.and_comm (validD s)]
 rw [he]
 refine enter fn124 np124 rfl ?_
 rcases Nat.eq_zero_or_pos s.length with h0 | h0
 ·have : s = [] := List.length_eq_zero_iff.1 h0
  subst this
  have gg:=trivial;repeat' first|simp (maxSteps:=2000000) (disch:=omega) only [gg,b124,lp_head,go_sem]|(refine br ?_ ?_<;>intro gg<;>try omega)|(apply And.intro;focus omega)|omega
  all_goals simp
 ·have h3 : s ≠ [] := by intro hh; subst hh; simp at h0
  have h4 : decide (s ≠ []) = true := decide_eq_true h3
  rw [h4]
  by_cases h5 : (s.length : Int) ≤ most
  ·rw [decide_eq_true h5]
   have gg:=trivial;repeat' first|simp (maxSteps:=2000000) (disch:=omega) only [gg,b124,lp_head,go_sem]|(refine br ?_ ?_<;>intro gg<;>try omega)|(apply And.intro;focus omega)|omega
  ·rw [decide_eq_false h5]
   have gg:=trivial;repeat' first|simp (maxSteps:=2000000) (disch:=omega) only [gg,b124,lp_head,go_sem]|(refine br ?_ ?_<;>intro gg<;>try omega)|(apply And.intro;focus omega)|omega
theorem split_len : ∀ (c : UInt8) (s : List UInt8), 1 ≤ (splitOn c s).length := by
 intro c s
 by_cases h : indexByte s c < 0
 ·rw [(split_none h).1]; simp
 ·rw [(split_some (by omega)).1]; simp
theorem split_one (s : List UInt8) : decide (((splitOn 47 s).length : Int) = 1) = decide (indexByte s 47 < 0) := by
 apply decide_eq_decide.2
 by_cases h : indexByte s 47 < 0
 ·rw [(split_none h).1]; simp [h]
 ·rw [(split_some (by omega)).1]
  have := split_len 47 (s.drop ((indexByte s 47).toNat + 1))
  simp [h]
  omega
theorem s159 (s : List UInt8) (hs : s.length ≤ 1000000) : callT AA 159 [.str s] [] = some (.bool (partB s), []) := by
 refine enter fn159 np159 rfl ?_
 have gg:=trivial;repeat' first|simp (maxSteps:=2000000) (disch:=omega) only [gg,b159,s124,s125,hs,go_sem]|(refine br ?_ ?_<;>intro gg<;>try omega)|(apply And.intro;focus omega)|omega
 all_goals unfold partB
 ·simp [*, split_one]
 all_goals simp [*]
end Go.Abs
