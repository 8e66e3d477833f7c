import Derived.Test.YtambgnjkakdoeaaGreatDoorChunks10
/- PART OF A PROOF (texts joined by a program): F34 Q2 F35 Q3 F36 F37 N5 B7 L2 F110 F111 F112 F113. -/
set_option linter.unusedVariables false
set_option linter.unusedSimpArgs false
set_option linter.unusedSectionVars false
namespace Go.Abs
open Am
set_option maxRecDepth 10000
theorem good_le {s : List UInt8} (h : goodB s = true) : s.length ≤ 400 := by
 unfold goodB at h
 simp only [Bool.and_eq_true, decide_eq_true_eq] at h
 exact h.1
theorem good_ne {s : List UInt8} (h : goodB s = true) : s ≠ [] := by
 rintro rfl
 have : goodB [] = false := by decide
 rw [this] at h
 cases h
theorem text_ne {s : List UInt8} {n : Int} (h : textB s n = true) : s ≠ [] ∧ (s.length : Int) ≤ n := by
 unfold textB at h
 simp only [Bool.and_eq_true, decide_eq_true_eq] at h
 exact ⟨h.1.1.1, h.1.1.2⟩
theorem meta_le {n least : Int} (h : metaB n least = true) : least ≤ n ∧ n ≤ 1099511627776 := by
 unfold metaB at h
 simpa using h
/-- what good fields are -/
structure FieldsOk (e : Ent) : Prop where
 mode : 0 ≤ e.mode ∧ e.mode ≤ 4095
 uid : 0 ≤ e.uid ∧ e.uid ≤ 1099511627776
 gid : 0 ≤ e.gid ∧ e.gid ≤ 1099511627776
 time : -1099511627776 ≤ e.time ∧ e.time ≤ 1099511627776
 link : e.link.length ≤ 400
 data : e.data.l.length ≤ 65536
 kinds : (e.kind = 1 ∧ e.link = [] ∧ e.data.l.length = 0) ∨ (e.kind = 2 ∧ e.link = []) ∨ (e.kind = 3 ∧ e.link ≠ [] ∧ e.data.l.length = 0) ∨ (e.kind = 4 ∧ e.link ≠ [] ∧ e.data.l.length = 0)
theorem fields_ok {e : Ent} (h : fieldsB e = true) : FieldsOk e := by
 unfold fieldsB at h
 by_cases c1 : e.mode < 0 ∨ 4095 < e.mode
 ·rw [if_pos c1] at h; cases h
 rw [if_neg c1] at h
 by_cases c2 : metaB e.uid 0 = false ∨ metaB e.gid 0 = false ∨ metaB e.time (-1099511627776) = false
 ·rw [if_pos c2] at h; cases h
 rw [if_neg c2] at h
 have m1 : metaB e.uid 0 = true := by
  cases hm : metaB e.uid 0 with
  | true => rfl
  | false => exact (c2 (.inl hm)).elim
 have m2 : metaB e.gid 0 = true := by
  cases hm : metaB e.gid 0 with
  | true => rfl
  | false => exact (c2 (.inr (.inl hm))).elim
 have m3 : metaB e.time (-1099511627776) = true := by
  cases hm : metaB e.time (-1099511627776) with
  | true => rfl
  | false => exact (c2 (.inr (.inr hm))).elim
 have m1 := meta_le m1
 have m2 := meta_le m2
 have m3 := meta_le m3
 have key : e.link.length ≤ 400 ∧ e.data.l.length ≤ 65536 ∧ ((e.kind = 1 ∧ e.link = [] ∧ e.data.l.length = 0) ∨ (e.kind = 2 ∧ e.link = []) ∨ (e.kind = 3 ∧ e.link ≠ [] ∧ e.data.l.length = 0) ∨ (e.kind = 4 ∧ e.link ≠ [] ∧ e.data.l.length = 0)) := by
  by_cases k1 : e.kind = 1
  ·rw [if_pos k1] at h
   simp only [Bool.and_eq_true, decide_eq_true_eq] at h
   exact ⟨by rw [h.1]; simp, by omega, .inl ⟨k1, h.1, h.2⟩⟩
  rw [if_neg k1] at h
  by_cases k2 : e.kind = 2
  ·rw [if_pos k2] at h
   simp only [Bool.and_eq_true, decide_eq_true_eq] at h
   exact ⟨by rw [h.1]; simp, by omega, .inr (.inl ⟨k2, h.1⟩)⟩
  rw [if_neg k2] at h
  by_cases k3 : e.kind = 3
  ·rw [if_pos k3] at h
   simp only [Bool.and_eq_true, decide_eq_true_eq] at h
   have ht := text_ne h.1
   exact ⟨by omega, by omega, .inr (.inr (.inl ⟨k3, ht.1, h.2⟩))⟩
  rw [if_neg k3] at h
  by_cases k4 : e.kind = 4
  ·rw [if_pos k4] at h
   simp only [Bool.and_eq_true, decide_eq_true_eq] at h
   exact ⟨good_le h.1.1.1.1.1, by omega, .inr (.inr (.inr ⟨k4, good_ne h.1.1.1.1.1, h.1.1.1.1.2⟩))⟩
  rw [if_neg k4] at h
  cases h
 exact ⟨by omega, by omega, by omega, by omega, key.1, key.2.1, key.2.2⟩
theorem entryE_good {c : Ck} {e : Ent} (h : (entryE c e).1 = 0) : goodB e.path = true ∧ fieldsB e = true := by
 unfold entryE at h
 by_cases g1 : goodB e.path = false
 ·rw [if_pos g1] at h; simp at h
 rw [if_neg g1] at h
 by_cases g2 : fieldsB e = false
 ·rw [if_pos g2] at h; simp at h
 exact ⟨by simpa using g1, by simpa using g2⟩
theorem checkL_good : ∀ (t : List Ent) (c : Ck) (i : Int), 0 ≤ i → (checkL c i t).2 = 0 → ∀ e ∈ t, goodB e.path = true ∧ fieldsB e = true
 | [], _, _, _, _, e, he => by cases he
 | e :: r, c, i, hi, h, x, hx => by
  unfold checkL at h
  by_cases g : (entryE c e).1 = 0
  ·rw [if_pos g] at h
   rcases List.mem_cons.1 hx with rfl | hx
   ·exact entryE_good g
   ·exact checkL_good r _ (i + 1) (by omega) h x hx
  ·rw [if_neg g] at h
   exact (g h).elim
theorem checkT_good {t : List Ent} (h : (checkT t).2 = 0) : t.length ≤ 200 ∧ ∀ e ∈ t, goodB e.path = true ∧ fieldsB e = true := by
 unfold checkT at h
 by_cases c : 200 < t.length
 ·rw [if_pos c] at h; simp at h
 ·rw [if_neg c] at h
  exact ⟨by omega, checkL_good t _ 0 (by omega) h⟩
theorem hdrE_eq (e : Ent) : hdrE e (recsE e) = ⟨if (splitN e.path).2.2 then e.path else paxB, e.mode, if idB e.uid then e.uid else 0, if idB e.gid then e.gid else 0, e.data.l.length, if timeB e.time then e.time else 0, typeB e.kind, if linkE e.link then e.link else paxB⟩ := by
 unfold hdrE recsE rst3 rst4 rst5 rst6 rst7
 cases idB e.gid <;> cases linkE e.link <;> cases timeB e.time <;> cases (splitN e.path).2.2 <;> cases idB e.uid <;> simp [recIf, setR, hdE, gidB, linkpathB, mtimeB, pathB, uidB]
theorem split_paxB : (splitN paxB).2.2 = true := by decide
theorem link_paxB : linkB paxB = true := by unfold linkB; decide
theorem linkE_ne {l : List UInt8} (h : l ≠ []) : linkE l = linkB l := by
 unfold linkE
 simp [h]
theorem idB_zero : idB 0 = true := idB_iff.2 (by omega)
theorem timeB_zero : timeB 0 = true := timeB_iff.2 (by omega)
theorem encOk_hdrE {e : Ent} (h : FieldsOk e) : encOk (hdrE e (recsE e)) = true := by
 rw [hdrE_eq]
 unfold encOk fitsB
 simp only [Bool.and_eq_true]
 refine ⟨?_, ⟨⟨⟨⟨?_, ?_⟩, ?_⟩, ?_⟩, ?_⟩, ?_⟩
 ·split
  ·assumption
  ·exact split_paxB
 ·exact idB_iff.2 (by have := h.mode; omega)
 ·split
  ·assumption
  ·exact idB_zero
 ·split
  ·assumption
  ·exact idB_zero
 ·exact timeB_iff.2 (by have := h.data; omega)
 ·split
  ·assumption
  ·exact timeB_zero
 ·rcases h.kinds with ⟨k, hl, hd⟩ | ⟨k, hl⟩ | ⟨k, hl, hd⟩ | ⟨k, hl, hd⟩
  ·have hn : linkE ([] : List UInt8) = true := rfl
   simp [k, hl, hd, typeB, hn]
  ·have hn : linkE ([] : List UInt8) = true := rfl
   simp [k, hl, typeB, hn]
  ·rw [linkE_ne hl]
   cases hb : linkB e.link <;> simp [k, hd, typeB, hb, link_paxB]
  ·rw [linkE_ne hl]
   cases hb : linkB e.link <;> simp [k, hd, typeB, hb, link_paxB]
theorem paxE_some : ∀ (rs : List Rcd) (p : Option Rcd) (out : List UInt8), (∀ r ∈ rs, lineOk r.key r.value = true ∧ (lineB r.key r.value).length ≤ 600) → (match p with | none => rs | some p => p :: rs).Pairwise (fun a b : Rcd => Op.bytesLess a.key b.key = true) → out.length + 600 * rs.length ≤ 65536 → (paxE p out rs).isSome = true
 | [], _, _, _, _, _ => rfl
 | r :: rs, p, out, h1, h2, h3 => by
  obtain ⟨g1, g2⟩ := h1 r (by simp)
  simp only [List.length_cons] at h3
  have hs : paxStep p out r = true := by
   unfold paxStep
   simp only [Bool.and_eq_true, decide_eq_true_eq]
   refine ⟨⟨g1, ?_⟩, by omega⟩
   cases p with
   | none => rfl
   | some p => exact (List.pairwise_cons.1 h2).1 r (by simp)
  unfold paxE
  rw [if_pos hs]
  refine paxE_some rs (some r) _ (fun x hx => h1 x (by simp [hx])) ?_ ?_
  ·cases p with
   | none => exact h2
   | some p => exact (List.pairwise_cons.1 h2).2
  ·rw [List.length_append]
   omega
theorem lineOk_short {k v : List UInt8} (hk : kwB k = true) (hv : v.length ≤ 400) : lineOk k v = true ∧ (lineB k v).length ≤ 600 := by
 have hkl : k.length ≤ 100 := by
  unfold kwB at hk
  simp only [Bool.and_eq_true, decide_eq_true_eq] at hk
  exact hk.1.2
 have h1 := restP_length (k := k) (v := v)
 have h2 := paxLen_le (rest := ((restP k v).length : Int)) (by omega) (by omega)
 have h3 := lineB_length hkl (v := v) (by omega)
 unfold lineOk
 refine ⟨?_, by omega⟩
 simp only [Bool.and_eq_true, decide_eq_true_eq]
 exact ⟨⟨hk, by omega⟩, by omega⟩
theorem recs_keys (e : Ent) : ((recsE e).map Rcd.key).Pairwise (fun a b => Op.bytesLess a b = true) := by
 unfold recsE rst3 rst4 rst5 rst6 rst7
 cases idB e.gid <;> cases linkE e.link <;> cases timeB e.time <;> cases (splitN e.path).2.2 <;> cases idB e.uid <;> simp only [recIf, if_true, if_false, List.nil_append, List.cons_append, List.map_cons, List.map_nil, Bool.false_eq_true] <;> decide
theorem recs_short {e : Ent} (hf : FieldsOk e) (hp : e.path.length ≤ 400) : ∀ r ∈ recsE e, kwB r.key = true ∧ r.value.length ≤ 400 := by
 have k1 : kwB gidB = true := by decide
 have k2 : kwB linkpathB = true := by decide
 have k3 : kwB mtimeB = true := by decide
 have k4 : kwB pathB = true := by decide
 have k5 : kwB uidB = true := by decide
 have v1 := itoa_le (n := e.gid) (by have := hf.gid; omega) (by have := hf.gid; omega)
 have v3 := itoa_le (n := e.time) (by have := hf.time; omega) (by have := hf.time; omega)
 have v5 := itoa_le (n := e.uid) (by have := hf.uid; omega) (by have := hf.uid; omega)
 have v2 := hf.link
 have key : ∀ (f : Bool) (k v : List UInt8), kwB k = true → v.length ≤ 400 → ∀ r ∈ recIf f k v, kwB r.key = true ∧ r.value.length ≤ 400 := by
  intro f k v hk hv r hr
  unfold recIf at hr
  cases f with
  | true => simp at hr
  | false => simp at hr; subst hr; exact ⟨hk, hv⟩
 intro r hr
 unfold recsE rst3 rst4 rst5 rst6 rst7 at hr
 simp only [List.mem_append] at hr
 rcases hr with hr | hr | hr | hr | hr
 ·exact key _ _ _ k1 (by omega) r hr
 ·exact key _ _ _ k2 (by omega) r hr
 ·exact key _ _ _ k3 (by omega) r hr
 ·exact key _ _ _ k4 (by omega) r hr
 ·exact key _ _ _ k5 (by omega) r hr
theorem recs_some {e : Ent} (hf : FieldsOk e) (hp : e.path.length ≤ 400) : (paxE none [] (recsE e)).isSome = true := by
 refine paxE_some _ none [] (fun r hr => ?_) ?_ ?_
 ·obtain ⟨h1, h2⟩ := recs_short hf hp r hr
  exact lineOk_short h1 h2
 ·exact List.pairwise_map.1 (recs_keys e)
 ·have := recsE_length e
  simp
  omega
theorem dec_digit {u : Nat} : ∀ c ∈ Lib.decDigits u, 48 ≤ c.toNat ∧ c.toNat ≤ 57 := by
 intro c hc
 rw [Lib.decDigits_eq] at hc
 obtain ⟨t, _, rfl⟩ := List.mem_map.1 hc
 unfold Lib.dg
 have h : (UInt8.ofNat (48 + u / 10 ^ (Lib.nDigits u - 1 - t) % 10)).toNat = 48 + u / 10 ^ (Lib.nDigits u - 1 - t) % 10 := UInt8.toNat_ofNat_of_lt' (by simp [UInt8.size]; omega)
 rw [h]
 omega
theorem itoa_nat (n : Nat) : Lib.itoa n = Lib.decDigits n := by
 unfold Lib.itoa
 rw [if_neg (by omega)]
 rfl
theorem split_num (n : Nat) (hn : n < 201) : (splitN ([112, 97, 120, 47] ++ Lib.itoa n)).2.2 = true := by
 have h1 := itoa_le (n := (n : Int)) (by omega) (by omega)
 have ha : asciiB ([112, 97, 120, 47] ++ Lib.itoa n) = true := by
  unfold asciiB
  rw [List.all_append, itoa_nat]
  simp only [Bool.and_eq_true]
  refine ⟨rfl, List.all_eq_true.2 fun c hc => ?_⟩
  have := dec_digit c hc
  unfold okByte
  simp only [decide_eq_true_eq]
  omega
 unfold splitN
 rw [if_neg (by rw [ha]; simp), if_pos (by simp; omega)]
theorem encOk_hdX {n : Nat} (hn : n < 201) {body : List UInt8} (hb : body.length ≤ 65536) : encOk (hdX n body) = true := by
 unfold encOk hdX fitsB
 simp only [Bool.and_eq_true]
 refine ⟨split_num n hn, ⟨⟨⟨⟨idB_zero, idB_zero⟩, idB_zero⟩, timeB_iff.2 (by omega)⟩, timeB_zero⟩, ?_⟩
 simp
theorem entB_of {e : Ent} (hf : FieldsOk e) (hp : e.path.length ≤ 400) : EntB e := by
 have := hf.gid; have := hf.uid; have := hf.time; have := hf.link
 refine ⟨?_, ?_, ?_, ?_, ?_, ?_, ?_, ?_⟩ <;> omega
theorem pieceOk_of {e : Ent} (hf : FieldsOk e) (hp : e.path.length ≤ 400) {n : Nat} (hn : n < 201) : pieceOk n e := by
 refine ⟨encOk_hdrE hf, fun _ => ⟨recs_some hf hp, encOk_hdX hn ?_⟩⟩
 unfold bodyE
 obtain ⟨o, ho⟩ := Option.isSome_iff_exists.1 (recs_some hf hp)
 rw [ho]
 exact paxE_le _ _ _ _ (by simp) ho
theorem piecesOk_of : ∀ (t : List Ent) (i : Nat), i + t.length ≤ 200 → (∀ e ∈ t, goodB e.path = true ∧ fieldsB e = true) → PiecesOk i t
 | [], _, _, _ => trivial
 | e :: r, i, h, hg => by
  obtain ⟨g1, g2⟩ := hg e (by simp)
  have hf := fields_ok g2
  have hp := good_le g1
  simp only [List.length_cons] at h
  exact ⟨entB_of hf hp, by have := hf.data; omega, pieceOk_of hf hp (by omega), piecesOk_of r (i + 1) (by omega) fun x hx => hg x (by simp [hx])⟩
theorem fieldsB_cp {e : Ent} : fieldsB e.cp = fieldsB e := by
 unfold fieldsB
 show (if e.mode < 0 ∨ 4095 < e.mode then false else _) = _
 have : e.cp.data.l = e.data.l := cp_l
 rw [this]
 rfl
theorem checkT_pieces {t : List Ent} (h : (checkT (t.map Ent.cp)).2 = 0) : PiecesOk 0 t := by
 obtain ⟨h1, h2⟩ := checkT_good h
 rw [List.length_map] at h1
 refine piecesOk_of t 0 (by omega) fun e he => ?_
 have := h2 e.cp (List.mem_map_of_mem he)
 rw [fieldsB_cp] at this
 exact this
end Go.Abs
namespace Go.Abs
open Am
set_option maxRecDepth 10000
theorem parse_app : ∀ (a b : List UInt8) (acc u : Nat), Lib.parseUint10 acc a = .ok u → Lib.parseUint10 acc (a ++ b) = Lib.parseUint10 u b
 | [], b, acc, u, h => by
  simp only [Lib.parseUint10] at h
  cases h
  rfl
 | c :: a, b, acc, u, h => by
  simp only [Lib.parseUint10, List.cons_append] at h ⊢
  by_cases c1 : 48 ≤ c.toNat ∧ c.toNat ≤ 57
  ·rw [if_pos c1] at h ⊢
   by_cases c2 : 1844674407370955162 ≤ acc
   ·rw [if_pos c2] at h; cases h
   rw [if_neg c2] at h ⊢
   by_cases c3 : 18446744073709551616 ≤ acc * 10 + (c.toNat - 48)
   ·rw [if_pos c3] at h; cases h
   rw [if_neg c3] at h ⊢
   exact parse_app a b _ u h
  ·rw [if_neg c1] at h; cases h
theorem dg_toNat {k : Nat} (h : k < 10) : (UInt8.ofNat (48 + k)).toNat = 48 + k := UInt8.toNat_ofNat_of_lt' (by simp [UInt8.size]; omega)
theorem parse_dec (u : Nat) : u < 9223372036854775808 → Lib.parseUint10 0 (Lib.decDigits u) = .ok u := by
 induction u using Nat.strongRecOn with
 | _ u ih =>
  intro hu
  by_cases h : u < 10
  ·rw [Lib.decDigits, dif_pos h]
   simp only [Lib.parseUint10]
   rw [dg_toNat h, if_pos (by omega), if_neg (by omega), if_neg (by omega)]
   simp
  ·rw [Lib.decDigits, dif_neg h, parse_app _ _ _ _ (ih (u / 10) (by omega) (by omega))]
   simp only [Lib.parseUint10]
   rw [dg_toNat (by omega), if_pos (by omega), if_neg (by omega), if_neg (by omega)]
   congr 1
   omega
theorem dec_ne (u : Nat) : Lib.decDigits u ≠ [] := by
 intro h
 have := congrArg List.length h
 rw [Lib.decDigits_length] at this
 have := Lib.nDigits_pos u
 simp at *
 omega
theorem atoi_itoa {n : Int} (h1 : -9223372036854775808 ≤ n) (h2 : n ≤ 9223372036854775807) : Lib.atoiAll (Lib.itoa n) = .ok n := by
 unfold Lib.itoa
 by_cases hn : n < 0
 ·rw [if_pos hn]
  unfold Lib.atoiAll
  simp only []
  have h45 : (45 : UInt8).toNat = 45 := rfl
  rw [h45, if_pos (by omega)]
  unfold Lib.parseMag
  rw [if_neg (dec_ne _)]
  by_cases hm : n = -9223372036854775808
  ·subst hm
   have : Lib.parseUint10 0 (Lib.decDigits (-9223372036854775808 : Int).natAbs) = .ok 9223372036854775808 := by
    have e : (-9223372036854775808 : Int).natAbs = 9223372036854775808 := rfl
    rw [e, Lib.decDigits, dif_neg (by omega), parse_app _ _ _ _ (parse_dec (9223372036854775808 / 10) (by omega))]
    simp only [Lib.parseUint10]
    rw [dg_toNat (by omega), if_pos (by omega), if_neg (by omega), if_neg (by omega)]
   rw [this]
   rfl
  ·rw [parse_dec _ (by omega)]
   simp only []
   rw [if_neg (by simp), if_neg (by omega), if_pos trivial]
   congr 1
   omega
 ·rw [if_neg hn]
  obtain ⟨c, r, hc⟩ : ∃ c r, Lib.decDigits n.toNat = c :: r := List.exists_cons_of_ne_nil (dec_ne _)
  have hd := dec_digit (u := n.toNat) c (by rw [hc]; simp)
  have hp := parse_dec n.toNat (by omega)
  rw [hc] at hp ⊢
  unfold Lib.atoiAll
  simp only []
  rw [if_neg (by omega)]
  unfold Lib.parseMag
  rw [if_neg (by simp), hp]
  simp only []
  rw [if_neg (by omega), if_neg (by omega), if_neg (by omega)]
  congr 1
  omega
theorem atoiV_itoa {n : Int} (h1 : -9223372036854775808 ≤ n) (h2 : n ≤ 9223372036854775807) : atoiV (Lib.itoa n) = n ∧ atoiOk (Lib.itoa n) = true := by
 unfold atoiV atoiOk
 rw [atoi_itoa h1 h2]
 exact ⟨rfl, rfl⟩
theorem lenF_fix (rest : Int) (hr : 0 ≤ rest) (hr' : rest ≤ 1000000) : ∀ (k : Nat) (n d : Int), n = rest + d → 7 ≤ d + k → 1 ≤ d → d ≤ 7 → d ≤ digs n → lenF rest k n = rest + digs (lenF rest k n)
 | 0, n, d, h1, h2, h3, h4, h5 => by
  have h6 := digs_le7 (a := n) (by omega) (by omega)
  unfold lenF
  omega
 | k + 1, n, d, h1, h2, h3, h4, h5 => by
  have h6 := digs_le7 (a := n) (by omega) (by omega)
  unfold lenF
  by_cases hn : n = rest + digs n
  ·rw [if_pos hn]
   exact hn
  ·rw [if_neg hn]
   have hm := digs_mono (a := n) (b := rest + digs n) (by omega) (by omega)
   exact lenF_fix rest hr hr' k (rest + digs n) (digs n) rfl (by omega) (by omega) h6 hm
theorem paxLen_fix {rest : Int} (hr : 0 ≤ rest) (hr' : rest ≤ 1000000) : paxLen rest = rest + digs (paxLen rest) :=
 lenF_fix rest hr hr' 6 (rest + 1) 1 rfl (by omega) (by omega) (by omega) (digs_pos (by omega))
theorem lineB_len {k v : List UInt8} (h : (restP k v).length ≤ 1000000) : ((lineB k v).length : Int) = paxLen (restP k v).length := by
 have := paxLen_fix (rest := ((restP k v).length : Int)) (by omega) (by omega)
 unfold lineB
 rw [List.length_append]
 unfold digs at this
 omega
theorem indexByte_app (c : UInt8) : ∀ (a r : List UInt8), (∀ x ∈ a, x ≠ c) → Lib.indexByte (a ++ c :: r) c = a.length
 | [], r, _ => by simp [Lib.indexByte]
 | x :: a, r, h => by
  have hx : x ≠ c := h x (by simp)
  have ih := indexByte_app c a r fun y hy => h y (by simp [hy])
  simp only [List.cons_append, Lib.indexByte]
  have hb : (x == c) = false := by simpa using hx
  rw [hb, ih]
  simp
theorem kw_ne {k : List UInt8} (hk : kwB k = true) : ∀ x ∈ k, x ≠ 61 := by
 unfold kwB at hk
 simp only [Bool.and_eq_true] at hk
 intro x hx
 have := List.all_eq_true.1 hk.2 x hx
 unfold kwByte at this
 simp only [Bool.and_eq_true, decide_eq_true_eq] at this
 rintro rfl
 exact this.2 rfl
theorem firstP_line {k v r : List UInt8} (h : lineOk k v = true) : firstP (lineB k v ++ r) = ((⟨k, v⟩ : Rcd), ((lineB k v).length : Int)) := by
 have hlo := h
 unfold lineOk at h
 simp only [Bool.and_eq_true, decide_eq_true_eq] at h
 obtain ⟨⟨hk, hv⟩, hp⟩ := h
 have hkl : k.length ≤ 100 := by
  unfold kwB at hk
  simp only [Bool.and_eq_true, decide_eq_true_eq] at hk
  exact hk.1.2
 have hrl := restP_length (k := k) (v := v)
 have hN := lineB_len (k := k) (v := v) (by omega)
 have hpl := paxLen_le (rest := ((restP k v).length : Int)) (by omega) (by omega)
 generalize hNN : paxLen ((restP k v).length : Int) = N at *
 have hat := atoiV_itoa (n := N) (by omega) (by omega)
 have hdig : ∀ c ∈ Lib.itoa N, c ≠ 32 := by
  intro c hc
  have e : Lib.itoa N = Lib.decDigits N.toNat := by
   rw [← itoa_nat]
   congr 1
   omega
  rw [e] at hc
  have := dec_digit c hc
  rintro rfl
  simp at this
 have hl : lineB k v = Lib.itoa N ++ restP k v := by unfold lineB; rw [hNN]
 have hlen : (lineB k v).length = (Lib.itoa N).length + (restP k v).length := by rw [hl, List.length_append]
 have hD : fstD (lineB k v ++ r) = Lib.itoa N := by
  unfold fstD
  rw [hl, List.append_assoc, aheadOf_app 32 _ _ hdig]
  simp [restP, aheadOf]
 have hFN : fstN (lineB k v ++ r) = N := by
  unfold fstN
  rw [hD]
  exact hat.1
 have hR : fstR (lineB k v ++ r) = k ++ 61 :: (v ++ [10]) := by
  unfold fstR
  rw [hFN, hD, hl]
  have e : Lib.itoa N ++ restP k v ++ r = (Lib.itoa N ++ [32]) ++ ((k ++ 61 :: (v ++ [10])) ++ r) := by simp [restP]
  rw [e]
  refine dt_mid (by simp) ?_
  simp only [List.length_append, List.length_cons, List.length_nil] at *
  omega
 have hix : Lib.indexByte (k ++ 61 :: (v ++ [10])) 61 = k.length := indexByte_app 61 k _ (kw_ne hk)
 have hc : cutB 61 (k ++ 61 :: (v ++ [10])) = (k, v ++ [10], true) := by
  unfold cutB
  rw [hix, if_pos (by omega)]
  have e : ((k.length : Int)).toNat = k.length := by omega
  rw [e, List.take_left' rfl, show k ++ 61 :: (v ++ [10]) = (k ++ [61]) ++ (v ++ [10]) by simp, List.drop_left' (by simp)]
 have hs : hasSuf (v ++ [10]) [10] = true := by simp [hasSuf]
 have hV : fstV (lineB k v ++ r) = v := by
  unfold fstV cutSuf
  rw [hR, hc]
  simp only []
  rw [if_pos hs]
  simp
 have hK : fstK (lineB k v ++ r) = k := by
  unfold fstK
  rw [hR, hc]
 have hi : 0 ≤ Lib.indexByte (lineB k v ++ r) 32 := by
  have : Lib.indexByte (lineB k v ++ r) 32 = (Lib.itoa N).length := by
   rw [hl]
   have e : Lib.itoa N ++ restP k v ++ r = Lib.itoa N ++ 32 :: ((k ++ [61] ++ v ++ [10]) ++ r) := by simp [restP]
   rw [e]
   exact indexByte_app 32 _ _ hdig
  omega
 have hok1 : fstOk1 (lineB k v ++ r) = true := by
  unfold fstOk1
  rw [hFN, hD, hat.2, List.length_append]
  simp only [Bool.and_eq_true, decide_eq_true_eq]
  refine ⟨⟨⟨hi, trivial⟩, ?_⟩, ?_⟩ <;> omega
 have hok : fstOk (lineB k v ++ r) = true := by
  unfold fstOk
  rw [hok1, hK, hV, hFN, hR, hc]
  simp only [Bool.true_and, Bool.and_eq_true, decide_eq_true_eq]
  refine ⟨⟨hs, hlo⟩, ?_⟩
  rw [List.take_left' (by omega)]
 unfold firstP
 rw [if_pos hok, hK, hV, hFN, hN]
theorem dec_enc : ∀ (rs : List Rcd) (p : Option Rcd) (out o : List UInt8), paxE p out rs = some o → ∃ L, o = out ++ L ∧ ∀ (k : Nat) (acc : List Rcd), L.length ≤ k → decP k p acc L = some (acc ++ rs)
 | [], p, out, o, h => by
  unfold paxE at h
  cases h
  refine ⟨[], by simp, fun k acc _ => ?_⟩
  cases k <;> simp [decP]
 | r :: rs, p, out, o, h => by
  unfold paxE at h
  by_cases hs : paxStep p out r = true
  ·rw [if_pos hs] at h
   obtain ⟨L, h1, h2⟩ := dec_enc rs _ _ _ h
   unfold paxStep at hs
   simp only [Bool.and_eq_true, decide_eq_true_eq] at hs
   obtain ⟨⟨s1, s2⟩, s3⟩ := hs
   have hpos := lineB_pos (k := r.key) (v := r.value)
   refine ⟨lineB r.key r.value ++ L, by rw [h1, List.append_assoc], fun k acc hk => ?_⟩
   rw [List.length_append] at hk
   obtain ⟨k, rfl⟩ : ∃ j, k = j + 1 := ⟨k - 1, by omega⟩
   unfold decP
   have hne : lineB r.key r.value ++ L ≠ [] := by
    intro hh
    have := congrArg List.length hh
    rw [List.length_append] at this
    simp at this
    rw [this.1] at hpos
    cases hpos
   rw [if_neg hne, firstP_line s1]
   simp only []
   have ha : aftB p ⟨r.key, r.value⟩ = true := by
    cases p with
    | none => rfl
    | some p => exact s2
   rw [if_neg (fun h => by rcases h with h | h; (omega); (rw [ha] at h; cases h))]
   have e : (((lineB r.key r.value).length : Int)).toNat = (lineB r.key r.value).length := by omega
   rw [e, List.drop_left' rfl, h2 k _ (by omega)]
   simp
  ·rw [if_neg hs] at h
   cases h
/-- THERE AND BACK: records -/
theorem paxD_paxE {rs : List Rcd} {o : List UInt8} (h : paxE none [] rs = some o) : paxD o = some rs := by
 have hl := paxE_le _ _ _ _ (by simp) h
 obtain ⟨L, h1, h2⟩ := dec_enc rs none [] o h
 simp only [List.nil_append] at h1
 subst h1
 unfold paxD
 rw [if_neg (by omega), h2 _ [] (Nat.le_refl _)]
 simp
end Go.Abs
namespace Go.Abs
open Am
set_option maxRecDepth 10000
theorem sl_le (a : BS) (i j : Nat) : (a.sl i j).l.length ≤ a.l.length - i := by
 rw [BS.sl_l, List.length_take, List.length_drop]
 omega
theorem hdrR_lt {b : BS} (h : (rdH b).2.2 = true) : (hdrR b).l.length + 512 ≤ b.l.length := by
 unfold rdH at h
 by_cases c1 : b.l.length < 512 ∨ decOk (b.sl 0 512).l = false
 ·rw [if_pos c1] at h; cases h
 have c2 : ¬ b.l.length < 512 := fun hh => c1 (.inl hh)
 have c3 : ¬ decOk (b.sl 0 512).l = false := fun hh => c1 (.inr hh)
 unfold hdrR
 rw [if_neg c2, if_neg c3]
 have h1 := sl_le b 512 b.l.length
 split
 ·have h2 := sl_le (b.sl 512 b.l.length) (wholeN (decH (b.sl 0 512).l).size).toNat (b.sl 512 b.l.length).l.length
  omega
 ·omega
theorem decH_le (l : List UInt8) : (decH l).path.length ≤ 1000000 ∧ (decH l).link.length ≤ 1000000 := by
 have h1 := textF_le l 345 155
 have h2 := textF_le l 0 100
 have h3 := textF_le l 157 100
 unfold decH
 refine ⟨?_, by show (textF l 157 100).length ≤ _; omega⟩
 show (if textF l 345 155 = [] then textF l 0 100 else textF l 345 155 ++ [47] ++ textF l 0 100).length ≤ _
 split
 ·omega
 ·simp only [List.length_append, List.length_cons, List.length_nil]; omega
theorem rdH_le2 (b : BS) : (rdH b).1.path.length ≤ 1000000 ∧ (rdH b).1.link.length ≤ 1000000 := by
 unfold rdH
 split
 ·exact ⟨by decide, by decide⟩
 ·split <;> exact decH_le _
theorem tellE_le {e : Ent} {r : Rcd} (h1 : e.path.length ≤ 1000000) (h2 : e.link.length ≤ 1000000) (hr : RcdOk r) : (tellE e r).1.path.length ≤ 1000000 ∧ (tellE e r).1.link.length ≤ 1000000 := by
 have := hr.2
 unfold tellE
 repeat' split
 all_goals exact ⟨by first | exact h1 | exact hr.2, by first | exact h2 | exact hr.2⟩
theorem toldE_le : ∀ (rs : List Rcd) (e : Ent), e.path.length ≤ 1000000 → e.link.length ≤ 1000000 → (∀ r ∈ rs, RcdOk r) → (toldE e rs).1.path.length ≤ 1000000 ∧ (toldE e rs).1.link.length ≤ 1000000
 | [], e, h1, h2, _ => ⟨h1, h2⟩
 | r :: rs, e, h1, h2, h3 => by
  have ht := tellE_le h1 h2 (h3 r (by simp))
  unfold toldE
  split
  ·exact toldE_le rs _ ht.1 ht.2 fun x hx => h3 x (by simp [hx])
  ·exact ht
theorem entP_ok {b : BS} {e : Ent} {r : BS} (h : entP b = some (e, r)) : (e.path.length ≤ 1000000 ∧ e.link.length ≤ 1000000) ∧ (∃ l, e.data = .mk false false l ∧ l.length ≤ b.l.length) ∧ r.l.length + 512 ≤ b.l.length := by
 unfold entP at h
 by_cases c0 : (rdH b).2.2 = false
 ·rw [if_pos c0] at h; cases h
 rw [if_neg c0] at h
 have c0 : (rdH b).2.2 = true := by simpa using c0
 have hr := hdrR_lt c0
 by_cases c1 : (rdH b).1.type = 120
 ·rw [if_pos c1] at h
  cases c2 : paxD (rdH b).2.1.l with
  | none => rw [c2] at h; cases h
  | some rs =>
   rw [c2] at h
   simp only at h
   by_cases c3 : (rdH (hdrR b)).2.2 = false
   ·rw [if_pos c3] at h; cases h
   rw [if_neg c3] at h
   have c3 : (rdH (hdrR b)).2.2 = true := by simpa using c3
   have hr2 := hdrR_lt c3
   have hp := rdH_le2 (hdrR b)
   have ht := toldE_le rs (mkE (rdH (hdrR b)).1) hp.1 hp.2 (paxD_ok c2).1
   by_cases c4 : (toldE (mkE (rdH (hdrR b)).1) rs).2 = true
   ·rw [if_pos c4] at h
    cases h
    have := rdH_le (hdrR b)
    exact ⟨ht, ⟨_, rfl, by omega⟩, by omega⟩
   ·rw [if_neg c4] at h; cases h
 ·rw [if_neg c1] at h
  cases h
  have hp := rdH_le2 b
  exact ⟨hp, ⟨_, rfl, rdH_le b⟩, hr⟩
/-- the entries of blocks -/
def readP : Nat → BS → List Ent → Option (List Ent)
 | 0, _, acc => some acc
 | k + 1, b, acc => if b.l = [] then some acc else
  match entP b with
  | none => none
  | some (e, r) => if acc.length = 200 then none else readP k r (acc ++ [e])
/-- is this what was read? -/
def finR (l : List UInt8) : Option (List Ent) → Option (List Ent)
 | none => none
 | some t => if (checkT (t.map Ent.cp)).2 = 0 ∧ writeL t = l then some t else none
/-- an archive's tree -/
def readE (b : BS) : Option (List Ent) := if b.l.length < 1024 then none else finR b.l (readP b.l.length (b.sl 0 (b.l.length - 1024)) [])
def readV : Option (List Ent) → AVal
 | none => .tuple [.lit (.slice none 0 0), .iface 58 (.int .i64 16)]
 | some [] => .tuple [.lit (.slice none 0 0), .lit .nilIface]
 | some (e :: r) => .tuple [.own 0 8 0 (e :: r).length false, .lit .nilIface]
def readH : Option (List Ent) → Heap
 | none => []
 | some [] => []
 | some (e :: r) => [(0, .row ((e :: r).map Ent.av) 8)]
theorem readV_ne {t : List Ent} (h : t ≠ []) : readV (some t) = .tuple [.own 0 8 0 t.length false, .lit .nilIface] ∧ readH (some t) = [(0, .row (t.map Ent.av) 8)] := by
 cases t with
 | nil => exact (h rfl).elim
 | cons x y => exact ⟨rfl, rfl⟩
/-- entries as they are read -/
def RdE (e : Ent) : Prop := e.path.length ≤ 1000000 ∧ e.link.length ≤ 1000000 ∧ ∃ l, e.data = .mk false false l ∧ l.length ≤ 1000000
theorem rdE_ok {e : Ent} (h : RdE e) : EntOk e := by
 obtain ⟨h1, h2, l, h3, h4⟩ := h
 exact ⟨h2, h1, by rw [h3]; simp only [BS.l]; omega, by rw [h3]; rfl⟩
theorem w17no (c tmp : Bool) (t : List Ent) (hne : t ≠ []) (hl : t.length ≤ 1000000) (hq : ∀ e ∈ t, RdE e) (he : (checkT (t.map Ent.cp)).2 ≠ 0) :
  callT AA 17 [.view 8 (t.map Ent.av) c tmp] [] = some (.tuple [.lit (.slice none 0 0), .iface 58 (.int .i64 (checkT (t.map Ent.cp)).2)], []) := by
 cases t with
 | nil => exact (hne rfl).elim
 | cons e r =>
  have h := s17no c tmp e r hl (fun x hx => rdE_ok (hq x hx)) he (fun x hx => by
   obtain ⟨_, _, l, h3, h4⟩ := hq x hx
   rw [h3]
   simp only [BS.l]
   omega)
  unfold errV at h
  rw [if_neg he] at h
  exact h
theorem w17 (c tmp : Bool) (t : List Ent) (hne : t ≠ []) (hl : t.length ≤ 200) (hq : ∀ e ∈ t, RdE e) (he : (checkT (t.map Ent.cp)).2 = 0) :
  callT AA 17 [.view 8 (t.map Ent.av) c tmp] [] = some (.tuple [.own 0 1 0 (writeL t).length false, .lit .nilIface], [(0, .row ((writeL t).map .byte) 1)]) := by
 cases t with
 | nil => exact (hne rfl).elim
 | cons e r => exact s17 c tmp e r hl (fun x hx => rdE_ok (hq x hx)) he (checkT_pieces he)
set_option maxHeartbeats 4000000 in
theorem h24 (b0 : BS) (hb0 : b0.l.length ≤ 1000000) (R : Option (List Ent)) : ∀ (k : Nat) (b : BS) (acc : List Ent) (q : Nat), acc ≠ [] → q = acc.length → acc.length ≤ 200 → b.l.length ≤ k → b.l.length ≤ 1000000 → (∀ e ∈ acc, RdE e) → R = finR b0.l (readP k b acc) →
  HD AA 0 [0, 2, 3, 4, 5] l24_0 ⟨[b0.av, .junk, .lit (.slice none 0 0), .lit .nilIface, .ptr 0 0, .own 1 8 0 q false, .junk, .junk, .junk, .junk, .junk, .junk, .junk, .junk, .junk, .junk, .junk, .junk, .junk, .junk, .junk, .junk, .junk, .junk, .junk, .junk, .junk, .junk, .junk, .junk, .junk, .junk, .junk, .junk, .junk, .junk, .junk, .junk, .junk, .junk, .junk, .junk, .junk, .junk, .junk, .junk, .junk, .junk, .junk, .junk, .junk, .junk, .junk, .junk, .junk, .junk, .junk, .junk, .junk], [(0, .var [b.av]), (1, .row (acc.map Ent.av) 8)], 2⟩ [.blk 0, .code r24_0] (Fin [(2, none), (3, none)] 0 (readV R) (readH R))
 | k, b, acc, q, h0, h1, h2, h3, h4, h5, h6 => by
  have et : (acc.map Ent.av).take q = acc.map Ent.av := List.take_of_length_le (by simp; omega)
  by_cases hl : b.l = []
  ·have hl0 : b.l.length = 0 := by rw [hl]; rfl
   have hr : readP k b acc = some acc := by
    cases k with
    | zero => rfl
    | succ k => unfold readP; rw [if_pos hl]
   rw [hr] at h6
   simp only [finR] at h6
   refine hd_of (by unfold l24_0; rfl) ?_
   by_cases hc : (checkT (acc.map Ent.cp)).2 = 0
   ·have hw := w17 false true acc h0 h2 h5 hc
    have hwl : (writeL acc).length ≤ 1000000000 := by
     have := outL_le acc 0 (checkT_pieces hc)
     unfold writeL
     rw [List.length_append, zeros1024_length]
     omega
    generalize writeL acc = W at *
    have hs := fun c t => s62v W c t b0
    by_cases hd : W = b0.l
    ·rw [if_pos ⟨hc, hd⟩] at h6
     rw [h6, (readV_ne h0).1, (readV_ne h0).2]
     have gg:=trivial;repeat' first|simp (maxSteps:=2000000) (disch:=omega) only [gg,r24_0,et,hw,hs,decide_eq_true hd,go_sem]|(refine br ?_ ?_<;>intro gg<;>try omega)|(apply And.intro;focus omega)|omega
     simp [h1]
    ·rw [if_neg (fun h => hd h.2)] at h6
     rw [h6]
     unfold readV readH
     have gg:=trivial;repeat' first|simp (maxSteps:=2000000) (disch:=omega) only [gg,r24_0,et,hw,hs,decide_eq_false hd,go_sem]|(refine br ?_ ?_<;>intro gg<;>try omega)|(apply And.intro;focus omega)|omega
   ·have hw := w17no false true acc h0 (by omega) h5 hc
    rw [if_neg (fun h => hc h.1)] at h6
    rw [h6]
    unfold readV readH
    have gg:=trivial;repeat' first|simp (maxSteps:=2000000) (disch:=omega) only [gg,r24_0,et,hw,go_sem]|(refine br ?_ ?_<;>intro gg<;>try omega)|(apply And.intro;focus omega)|omega
  ·have hl0 : 0 < b.l.length := by
    cases hz : b.l with
    | nil => exact (hl hz).elim
    | cons x y => simp
   match k, h3, h6 with
   | 0, h3, h6 => omega
   | k + 1, h3, h6 =>
    have hf := s61f b h4
    unfold EntR at hf
    unfold readP at h6
    rw [if_neg hl] at h6
    refine hd_of (by unfold l24_0; rfl) ?_
    cases hp : entP b with
    | none =>
     rw [hp] at hf h6
     simp only [finR] at h6
     rw [h6]
     unfold readV readH
     rcases hf with ⟨e, r, hf⟩ | ⟨e, r, l, hf⟩
     ·simp only [entCs] at hf
      have gg:=trivial;repeat' first|simp (maxSteps:=2000000) (disch:=omega) only [gg,hf,lp_head,go_sem]|(refine br ?_ ?_<;>intro gg<;>try omega)|(apply And.intro;focus omega)|omega
     ·simp only [entCs] at hf
      have gg:=trivial;repeat' first|simp (maxSteps:=2000000) (disch:=omega) only [gg,hf,lp_head,go_sem]|(refine br ?_ ?_<;>intro gg<;>try omega)|(apply And.intro;focus omega)|omega
    | some er =>
     obtain ⟨e, r⟩ := er
     rw [hp] at hf h6
     obtain ⟨⟨p1, p2⟩, ⟨l, p3, p4⟩, p5⟩ := entP_ok hp
     simp only [p3, BS.l, entCs] at hf
     simp only at h6
     by_cases hq : acc.length = 200
     ·rw [if_pos hq] at h6
      simp only [finR] at h6
      rw [h6]
      unfold readV readH
      have gg:=trivial;repeat' first|simp (maxSteps:=2000000) (disch:=omega) only [gg,hf,lp_head,go_sem]|(refine br ?_ ?_<;>intro gg<;>try omega)|(apply And.intro;focus omega)|omega
     ·rw [if_neg hq] at h6
      have ih := h24 b0 hb0 R k r (acc ++ [e]) (q + 1) (by simp) (by simp [h1]) (by simp; omega) (by omega) (by omega) (by
       intro x hx
       rcases List.mem_append.1 hx with hx | hx
       ·exact h5 x hx
       ·rw [List.mem_singleton.1 hx]
        exact ⟨p1, p2, l, p3, by omega⟩) h6
      simp only [List.map_append, List.map_cons, List.map_nil, Ent.av, p3, mk_av] at ih et
      have gg:=trivial;repeat' first|simp (maxSteps:=2000000) (disch:=omega) only [gg,hf,et,lp_head,go_sem]|(refine br ?_ ?_<;>intro gg<;>try omega)|(apply And.intro;focus omega)|omega
set_option maxHeartbeats 4000000 in
theorem s24 (b : BS) (hb : b.l.length ≤ 1000000) : callT AA 24 [b.av] [] = some (readV (readE b), readH (readE b)) := by
 refine enter fn24 np24 rfl ?_
 generalize hR : readE b = R
 unfold readE at hR
 by_cases c0 : b.l.length < 1024
 ·rw [if_pos c0] at hR
  rw [← hR]
  unfold readV readH
  have gg:=trivial;repeat' first|simp (maxSteps:=2000000) (disch:=omega) only [gg,b24,go_sem]|(refine br ?_ ?_<;>intro gg<;>try omega)|(apply And.intro;focus omega)|omega
 rw [if_neg c0] at hR
 have e0 : ((b.l.length : Int) - 1024).toNat = b.l.length - 1024 := by omega
 have gg:=trivial;repeat' first|simp (maxSteps:=2000000) (disch:=omega) only [gg,b24,e0,lp_head,go_sem]|(refine br ?_ ?_<;>intro gg<;>try omega)|(apply And.intro;focus omega)|omega
 generalize hb1 : b.sl 0 (b.l.length - 1024) = b1 at *
 have hb2 : b1.l.length ≤ b.l.length := by
  have := sl_le b 0 (b.l.length - 1024)
  rw [hb1] at this
  omega
 obtain ⟨k, hk⟩ : ∃ k, b.l.length = k + 1 := ⟨b.l.length - 1, by omega⟩
 rw [hk] at hR
 unfold readP at hR
 refine hd_of (by unfold l24_0; rfl) ?_
 by_cases hl : b1.l = []
 ·have hl0 : b1.l.length = 0 := by rw [hl]; rfl
  rw [if_pos hl] at hR
  simp only [finR] at hR
  have hcn : (checkT (([] : List Ent).map Ent.cp)).2 = 0 := rfl
  have hwn : writeL [] = zeros1024 := rfl
  have hs := fun c t => s62v zeros1024 c t b
  have hz := zeros1024_take
  have hzl := zeros1024_length
  rw [hwn] at hR
  by_cases hd : zeros1024 = b.l
  ·rw [if_pos ⟨hcn, hd⟩] at hR
   rw [← hR]
   unfold readV readH
   have gg:=trivial;repeat' first|simp (maxSteps:=2000000) (disch:=omega) only [gg,r24_0,s17n,hs,decide_eq_true hd,hz,hzl,go_sem]|(refine br ?_ ?_<;>intro gg<;>try omega)|(apply And.intro;focus omega)|omega
  ·rw [if_neg (fun h => hd h.2)] at hR
   rw [← hR]
   unfold readV readH
   have gg:=trivial;repeat' first|simp (maxSteps:=2000000) (disch:=omega) only [gg,r24_0,s17n,hs,decide_eq_false hd,hz,hzl,go_sem]|(refine br ?_ ?_<;>intro gg<;>try omega)|(apply And.intro;focus omega)|omega
 ·have hl0 : 0 < b1.l.length := by
   cases hz : b1.l with
   | nil => exact (hl hz).elim
   | cons x y => simp
  rw [if_neg hl] at hR
  have hf := s61f b1 (by omega)
  unfold EntR at hf
  cases hp : entP b1 with
  | none =>
   rw [hp] at hf hR
   simp only [finR] at hR
   rw [← hR]
   unfold readV readH
   rcases hf with ⟨e, r, hf⟩ | ⟨e, r, l, hf⟩
   ·simp only [entCs] at hf
    have gg:=trivial;repeat' first|simp (maxSteps:=2000000) (disch:=omega) only [gg,hf,lp_head,go_sem]|(refine br ?_ ?_<;>intro gg<;>try omega)|(apply And.intro;focus omega)|omega
   ·simp only [entCs] at hf
    have gg:=trivial;repeat' first|simp (maxSteps:=2000000) (disch:=omega) only [gg,hf,lp_head,go_sem]|(refine br ?_ ?_<;>intro gg<;>try omega)|(apply And.intro;focus omega)|omega
  | some er =>
   obtain ⟨e, r⟩ := er
   rw [hp] at hf hR
   obtain ⟨⟨p1, p2⟩, ⟨l, p3, p4⟩, p5⟩ := entP_ok hp
   simp only [p3, BS.l, entCs] at hf
   simp only [List.length_nil, List.nil_append] at hR
   rw [if_neg (by omega)] at hR
   have ih := h24 b hb R k r [e] 1 (by simp) rfl (by simp) (by omega) (by omega) (by
    intro x hx
    rw [List.mem_singleton.1 hx]
    exact ⟨p1, p2, l, p3, by omega⟩) hR.symm
   simp only [List.map_cons, List.map_nil, Ent.av, p3, mk_av] at ih
   have gg:=trivial;repeat' first|simp (maxSteps:=2000000) (disch:=omega) only [gg,hf,lp_head,go_sem]|(refine br ?_ ?_<;>intro gg<;>try omega)|(apply And.intro;focus omega)|omega
end Go.Abs
namespace Go.Abs
open Am
set_option maxRecDepth 10000
theorem pad_whole (l : List UInt8) : ((padL l).length : Int) = wholeN l.length := by
 rw [padL_length]
 unfold padN wholeN
 omega
/-- a header and its bytes are read -/
theorem rd_block {b : BS} {h : Hd} {body rest : List UInt8} (hb : b.l = encB h ++ (padL body ++ rest)) (hok : encOk h = true) (hs : h.size = body.length) :
  (rdH b).1 = h ∧ (rdH b).2.1.l = body ∧ (rdH b).2.2 = true ∧ (hdrR b).l = rest := by
 have hl := encB_length h
 have hp := pad_whole body
 have hp2 := padL_length body
 have hbl : b.l.length = 512 + (padL body).length + rest.length := by rw [hb]; simp [hl]; omega
 have h0 : (b.sl 0 512).l = encB h := by
  rw [BS.sl_l, hb]
  simp only [List.drop_zero, Nat.sub_zero]
  exact List.take_left' hl
 have h1 : (b.sl 512 b.l.length).l = padL body ++ rest := by
  rw [BS.sl_l, List.take_of_length_le (by simp), hb]
  exact List.drop_left' hl
 have hd := decOk_encB hok
 have hdh := decH_encB hok
 have c1 : ¬ (b.l.length < 512 ∨ decOk (b.sl 0 512).l = false) := by
  rw [h0, hd]
  simp
  omega
 have c2 : wholeN h.size ≤ (b.sl 512 b.l.length).l.length := by
  rw [h1, List.length_append, hs]
  omega
 refine ⟨?_, ?_, ?_, ?_⟩
 ·unfold rdH
  rw [if_neg c1, h0, hdh, if_pos c2]
 ·unfold rdH
  rw [if_neg c1, h0, hdh, if_pos c2]
  simp only []
  rw [BS.sl_l, h1, hs]
  simp only [List.drop_zero, Nat.sub_zero, Int.toNat_natCast]
  unfold padL
  rw [List.append_assoc]
  exact List.take_left' rfl
 ·unfold rdH
  rw [if_neg c1, h0, hdh, if_pos c2]
 ·unfold hdrR
  rw [if_neg (by omega), h0, hd, if_neg (by simp), hdh, if_pos c2, BS.sl_l, h1, hs, List.take_of_length_le (by simp)]
  refine List.drop_left' ?_
  omega
/-- an entry as it is read -/
def rdEnt (e : Ent) : Ent := { e with data := .mk false false e.data.l }
theorem kind_type {k : Int} (h : k = 1 ∨ k = 2 ∨ k = 3 ∨ k = 4) : kindB (typeB k) = k ∧ typeB k ≠ 120 := by
 rcases h with rfl | rfl | rfl | rfl <;> decide
theorem told_back {e : Ent} (hf : FieldsOk e) (d : BS) : toldE ⟨if (splitN e.path).2.2 then e.path else paxB, e.kind, e.mode, if idB e.uid then e.uid else 0, if idB e.gid then e.gid else 0, if timeB e.time then e.time else 0, if linkE e.link then e.link else paxB, d⟩ (recsE e) = (⟨e.path, e.kind, e.mode, e.uid, e.gid, e.time, e.link, d⟩, true) := by
 have g := atoiV_itoa (n := e.gid) (by have := hf.gid; omega) (by have := hf.gid; omega)
 have u := atoiV_itoa (n := e.uid) (by have := hf.uid; omega) (by have := hf.uid; omega)
 have t := atoiV_itoa (n := e.time) (by have := hf.time; omega) (by have := hf.time; omega)
 unfold recsE rst3 rst4 rst5 rst6 rst7
 cases idB e.gid <;> cases linkE e.link <;> cases timeB e.time <;> cases (splitN e.path).2.2 <;> cases idB e.uid <;> simp [recIf, toldE, tellE, gidB, linkpathB, mtimeB, pathB, uidB, g, u, t]
/-- a piece is read -/
theorem entP_piece {b : BS} {n : Nat} {e : Ent} {rest : List UInt8} (hb : b.l = pieceL n e ++ rest) (hok : pieceOk n e) (hf : FieldsOk e) : ∃ r : BS, entP b = some (rdEnt e, r) ∧ r.l = rest := by
 have hk : e.kind = 1 ∨ e.kind = 2 ∨ e.kind = 3 ∨ e.kind = 4 := by
  rcases hf.kinds with h | h | h | h
  ·exact .inl h.1
  ·exact .inr (.inl h.1)
  ·exact .inr (.inr (.inl h.1))
  ·exact .inr (.inr (.inr h.1))
 obtain ⟨k1, k2⟩ := kind_type hk
 have hsz : (hdrE e (recsE e)).size = e.data.l.length := by rw [hdrE_eq]
 have hty : (hdrE e (recsE e)).type = typeB e.kind := by rw [hdrE_eq]
 have hmk : mkE (hdrE e (recsE e)) = ⟨if (splitN e.path).2.2 then e.path else paxB, e.kind, e.mode, if idB e.uid then e.uid else 0, if idB e.gid then e.gid else 0, if timeB e.time then e.time else 0, if linkE e.link then e.link else paxB, .nil⟩ := by
  unfold mkE
  rw [hdrE_eq]
  simp only [k1]
 have htold := told_back hf .nil
 obtain ⟨ok1, ok2⟩ := hok
 by_cases hr : recsE e = []
 ·have hp : pieceL n e = encB (hdrE e (recsE e)) ++ padL e.data.l := by
   unfold pieceL preE
   rw [if_pos hr, List.nil_append]
  rw [hp, List.append_assoc] at hb
  obtain ⟨r1, r2, r3, r4⟩ := rd_block hb ok1 hsz
  refine ⟨hdrR b, ?_, r4⟩
  unfold entP
  rw [if_neg (by rw [r3]; simp), r1, hty, if_neg k2, r2, hmk]
  rw [hr] at htold
  simp only [toldE, Prod.mk.injEq, and_true] at htold
  rw [htold]
  rfl
 ·obtain ⟨o1, o2⟩ := ok2 hr
  obtain ⟨body, hbo⟩ := Option.isSome_iff_exists.1 o1
  have hbe : bodyE e = body := by unfold bodyE; rw [hbo]; rfl
  have hp : pieceL n e = encB (hdX n body) ++ (padL body ++ (encB (hdrE e (recsE e)) ++ padL e.data.l)) := by
   unfold pieceL preE
   rw [if_neg hr, hbe]
   simp
  rw [hbe] at o2
  have hb1 : b.l = encB (hdX n body) ++ (padL body ++ (encB (hdrE e (recsE e)) ++ (padL e.data.l ++ rest))) := by
   rw [hb, hp]
   simp
  obtain ⟨r1, r2, r3, r4⟩ := rd_block hb1 o2 rfl
  obtain ⟨q1, q2, q3, q4⟩ := rd_block r4 ok1 hsz
  refine ⟨hdrR (hdrR b), ?_, q4⟩
  unfold entP
  rw [if_neg (by rw [r3]; simp), r1, if_pos (show (hdX n body).type = 120 from rfl), r2, paxD_paxE hbo]
  simp only []
  rw [if_neg (by rw [q3]; simp), q1, hmk, htold, q2]
  rfl
theorem readP_out : ∀ (t : List Ent) (i k : Nat) (b : BS) (acc : List Ent), b.l = outL i t → PiecesOk i t → (∀ e ∈ t, FieldsOk e) → b.l.length ≤ k → acc.length + t.length ≤ 200 → readP k b acc = some (acc ++ t.map rdEnt)
 | [], i, k, b, acc, hb, _, _, _, _ => by
  simp only [outL] at hb
  cases k with
  | zero => simp [readP]
  | succ k => simp [readP, hb]
 | e :: t, i, k, b, acc, hb, hp, hf, hk, hl => by
  obtain ⟨h1, h2, h3, h4⟩ := hp
  simp only [outL] at hb
  have hpl := pieceL_le h2 h3
  have hbl : b.l.length = (pieceL i e).length + (outL (i + 1) t).length := by rw [hb, List.length_append]
  obtain ⟨r, hr1, hr2⟩ := entP_piece hb h3 (hf e (by simp))
  obtain ⟨k, rfl⟩ : ∃ j, k = j + 1 := ⟨k - 1, by omega⟩
  have hne : b.l ≠ [] := by
   intro hh
   rw [hh] at hbl
   simp at hbl
   omega
  simp only [List.length_cons] at hl
  unfold readP
  rw [if_neg hne, hr1]
  simp only []
  rw [if_neg (by omega), readP_out t (i + 1) k r _ hr2 h4 (fun x hx => hf x (by simp [hx])) (by rw [hr2]; omega) (by simp; omega)]
  simp
theorem entryE_rd (c : Ck) {e f : Ent} (h1 : f.path = e.path) (h2 : f.kind = e.kind) (h3 : f.mode = e.mode) (h4 : f.uid = e.uid) (h5 : f.gid = e.gid) (h6 : f.time = e.time) (h7 : f.link = e.link) (h8 : f.data.l = e.data.l) : entryE c f = entryE c e := by
 have hf : fieldsB f = fieldsB e := by
  unfold fieldsB
  rw [h2, h3, h4, h5, h6, h7, h8]
 unfold entryE
 rw [hf, h1, h2, h7, h8]
/-- the same, their slices aside -/
def SameE (e f : Ent) : Prop := f.path = e.path ∧ f.kind = e.kind ∧ f.mode = e.mode ∧ f.uid = e.uid ∧ f.gid = e.gid ∧ f.time = e.time ∧ f.link = e.link ∧ f.data.l = e.data.l
theorem entryE_same {c : Ck} {e f : Ent} (h : SameE e f) : entryE c f = entryE c e := entryE_rd c h.1 h.2.1 h.2.2.1 h.2.2.2.1 h.2.2.2.2.1 h.2.2.2.2.2.1 h.2.2.2.2.2.2.1 h.2.2.2.2.2.2.2
theorem checkL_map (g : Ent → Ent) (hg : ∀ e, SameE e (g e)) : ∀ (t : List Ent) (c : Ck) (i : Int), checkL c i (t.map g) = checkL c i t
 | [], c, i => rfl
 | e :: t, c, i => by
  simp only [List.map_cons, checkL]
  rw [entryE_same (hg e), checkL_map g hg t]
theorem checkT_map (g : Ent → Ent) (hg : ∀ e, SameE e (g e)) (t : List Ent) : checkT (t.map g) = checkT t := by
 unfold checkT
 rw [List.length_map, checkL_map g hg]
theorem same_cp (e : Ent) : SameE e e.cp := ⟨rfl, rfl, rfl, rfl, rfl, rfl, rfl, cp_l⟩
theorem same_rd (e : Ent) : SameE e (rdEnt e) := ⟨rfl, rfl, rfl, rfl, rfl, rfl, rfl, rfl⟩
theorem outL_rd : ∀ (t : List Ent) (i : Nat), outL i (t.map rdEnt) = outL i t
 | [], _ => rfl
 | e :: t, i => by
  simp only [List.map_cons, outL]
  rw [outL_rd t]
  rfl
theorem writeL_rd (t : List Ent) : writeL (t.map rdEnt) = writeL t := by
 unfold writeL
 rw [outL_rd]
/-- THERE AND BACK: a tree's archive is read as that tree -/
theorem readE_writeL (c tmp : Bool) {t : List Ent} (h : (checkT t).2 = 0) : readE (.mk c tmp (writeL t)) = some (t.map rdEnt) := by
 obtain ⟨hl, hg⟩ := checkT_good h
 have hp : PiecesOk 0 t := piecesOk_of t 0 (by omega) hg
 have hf : ∀ e ∈ t, FieldsOk e := fun e he => fields_ok (hg e he).2
 have hwl : (writeL t).length = (outL 0 t).length + 1024 := by
  unfold writeL
  rw [List.length_append, zeros1024_length]
 unfold readE
 rw [if_neg (show ¬ (BS.mk c tmp (writeL t)).l.length < 1024 by rw [mk_l]; omega)]
 show finR (writeL t) (readP (writeL t).length ((BS.mk c tmp (writeL t)).sl 0 ((writeL t).length - 1024)) []) = _
 have hb : ((BS.mk c tmp (writeL t)).sl 0 ((writeL t).length - 1024)).l = outL 0 t := by
  rw [BS.sl_l]
  simp only [BS.l, List.drop_zero, Nat.sub_zero]
  unfold writeL
  rw [List.length_append, zeros1024_length]
  exact List.take_left' (by omega)
 rw [readP_out t 0 (writeL t).length _ [] hb hp hf (by rw [hb]; omega) (by simpa using hl)]
 simp only [List.nil_append, finR]
 rw [checkT_map Ent.cp same_cp, checkT_map rdEnt same_rd, writeL_rd, if_pos ⟨h, rfl⟩]
end Go.Abs
namespace Go.Abs
open Am
set_option maxRecDepth 10000
theorem sl_own_both {sz id z off len : Nat} {k k' : IntKind} {i j : Int} : aSlice sz (.own id z off len false) (some (.int k i)) (some (.int k' j)) none = if 0 ≤ i ∧ i ≤ j ∧ j ≤ len ∧ z = sz then some (.own id z (off + i.toNat) (j.toNat - i.toNat) false) else none := by
 by_cases h0 : 0 ≤ i
 ·by_cases h1 : 0 ≤ j
  ·rw [sl_own (a := i.toNat) (c := j.toNat) (by simp [natOr, toNat?, h0]) (by simp [natOr, toNat?, h1])]
   simp only [true_or, and_true]
   have : (i.toNat ≤ j.toNat ∧ j.toNat ≤ len ∧ z = sz) = (0 ≤ i ∧ i ≤ j ∧ j ≤ len ∧ z = sz) := by
    apply propext
    constructor
    ·rintro ⟨a, b, c⟩; exact ⟨h0, by omega, by omega, c⟩
    ·rintro ⟨a, b, c, d⟩; exact ⟨by omega, by omega, d⟩
   exact (ite_congr this (fun _ => rfl) (fun _ => rfl))
  ·have hf : ¬ (0 ≤ i ∧ i ≤ j ∧ j ≤ len ∧ z = sz) := by omega
   rw [if_neg hf]
   simp [aSlice, bounds, natOr, toNat?, h1, h0]
 ·simp [aSlice, bounds, natOr, toNat?, h0]
theorem ldE_head {e : AVal} {r : List AVal} {o sz : Nat} {agg : Bool} {h : Heap} : ldE (e :: r) 0 o sz agg h = (part e.cells o sz agg).map (·, h) := rfl
end Go.Abs
namespace Go.Abs
open Am
set_option maxRecDepth 100000
def helloL : List UInt8 := [104, 101, 108, 108, 111]
def eA : Ent := ⟨[97], 2, 0, 0, 0, 0, [], .mk false false helloL⟩
def wA : List UInt8 := writeL [eA]
theorem checkA : (checkT [eA]).2 = 0 := by decide +kernel
theorem recsA : recsE eA = [] := by
 unfold recsE rst3 rst4 rst5 rst6 rst7
 have h1 : idB eA.gid = true := idB_iff.2 ⟨by decide, by decide⟩
 have h2 : linkE eA.link = true := rfl
 have h3 : timeB eA.time = true := timeB_iff.2 ⟨by decide, by decide⟩
 have h4 : (splitN eA.path).2.2 = true := by decide
 have h5 : idB eA.uid = true := idB_iff.2 ⟨by decide, by decide⟩
 rw [h1, h2, h3, h4, h5]
 rfl
theorem wA_eq : wA = encB (hdrE eA []) ++ (helloL ++ (List.replicate 507 0 ++ zeros1024)) := by
 unfold wA writeL outL pieceL preE
 rw [recsA, if_pos rfl]
 simp only [outL, List.nil_append, List.append_nil, List.append_assoc]
 rfl
theorem lenA : wA.length = 2048 := by
 rw [wA_eq]
 simp only [List.length_append, encB_length, zeros1024_length, List.length_replicate]
 rfl
theorem readA (c t : Bool) : readE (.mk c t wA) = some [rdEnt eA] := readE_writeL c t checkA
end Go.Abs
namespace Go.Abs
open Go.Proofs Go.RowKit
set_option maxRecDepth 100000
def dotA : List UInt8 := [46, 47, 97]
def normP : List AVal → Option AVal
 | [.str s] => if s = dotA then some (.tuple [.str [97], .lit .nilIface]) else none
 | _ => none
noncomputable def AB : AProg := { AA with prim := fun g => if g = 128 then some normP else prims g }
theorem fn128_none : AA.fn 128 = none := by kernel_rfl
theorem callF_ext : ∀ {k g : Nat} {args : List AVal} {h : Heap} {x : AVal × Heap}, callF AA k g args h = some x → callF AB k g args h = some x
 | 0, _, _, _, _, h => by simp [callF] at h
 | k + 1, g, args, h, x, hx => by
  have hle : Calls.Le { moves := AA.moves, run := callF AA k } { moves := AB.moves, run := callF AB k } := ⟨rfl, fun _ _ _ _ h => callF_ext h⟩
  by_cases hg : g = 128
  ·subst hg
   unfold callF at hx
   have hp : AA.prim 128 = none := rfl
   rw [hp, fn128_none] at hx
   have hx : (none : Option (AVal × Heap)) = some x := hx
   cases hx
  ·have hp : AB.prim g = AA.prim g := by
    show (if g = 128 then some normP else prims g) = prims g
    rw [if_neg hg]
   unfold callF at hx ⊢
   rw [hp]
   cases hq : AA.prim g with
   | some p =>
    rw [hq] at hx
    exact hx
   | none =>
    rw [hq] at hx
    have hf : AB.fn g = AA.fn g := rfl
    rw [hf]
    simp only at hx ⊢
    cases hfn : AA.fn g with
    | none =>
     rw [hfn] at hx
     exact hx
    | some fn =>
     rw [hfn] at hx
     exact runFn_mono hle (Nat.le_refl _) hx
theorem callT_ext {g : Nat} {args : List AVal} {h : Heap} {x : AVal × Heap} (hx : callT AA g args h = some x) : callT AB g args h = some x := by
 obtain ⟨k, hk⟩ := callT_iff.1 hx
 exact callT_iff.2 ⟨k, callF_ext hk⟩
theorem join_a : callF AA 60 163 [.view 1 [.str [97]] false false] [] = some (.tuple [.str [97], .lit .nilIface], []) := by kernel_rfl
theorem norm_dotA : normRun [] (Am.splitOn 47 dotA) = some [[97]] := by decide
theorem join_calls (base : Nat) (W : World) (v : Value) (hG : GG (fun b => b < W.heap.size) W) (hr : W.ownsRow base 9 1 v 1 [sv [97]]) : Go.Calls Tryz.prog 163 #[v] W fun e W' => e = .returned (.tuple #[sv [97], .nilIface]) ∧ RowKit.Below W.heap.size W W' := by
 rcases hr.2 with ⟨_, h0⟩ | ⟨g, cap, cur, rfl, _, hg, hp1, _⟩
 ·cases h0
 have hc : W.cell? ⟨g, 0, none⟩ = some (sv [97]) := by
  have := hr.cellAt 0 (by omega)
  exact this
 have hrep : Rep (fun _ => none) (fun b => b < W.heap.size) (fun _ => False) W (.view 1 [.str [97]] false false) (.slice (some ⟨g, 0, none⟩) 1 cap) := by
  have hlt := (Array.getElem?_eq_some_iff.1 hg).1
  refine .view 1 [.str [97]] false false g 0 cap none (fun _ _ => sv [97]) (.inl rfl) hp1 (by simp) ?_ ?_ ?_ ?_ ?_
  ·intro i e _
   exact hlt
  ·intro i e he
   match i, he with
   | 0, he => cases he; rfl
   | i + 1, he => cases he
  ·intro i e he
   match i, he with
   | 0, he => cases he; rfl
   | i + 1, he => cases he
  ·intro i e j x he hx
   match i, he with
   | 0, he =>
    cases he
    match j, hx with
    | 0, hx => exact hc
    | j + 1, hx => cases hx
   | i + 1, he => cases he
  ·intro i e j x he hx
   match i, he with
   | 0, he =>
    cases he
    match j, hx with
    | 0, hx => cases hx; exact .str _
    | j + 1, hx => cases hx
   | i + 1, he => cases he
 refine (ev_calls Tryz.func163 (by kernel_rfl) (by kernel_rfl) (callT_iff.2 ⟨60, join_a⟩) (vals := #[.slice (some ⟨g, 0, none⟩) 1 cap]) hG rfl (by
  intro i c v hc' hv
  match i, hc', hv with
  | 0, hc', hv => cases hc'; cases hv; exact hrep
  | i + 1, hc', hv => cases hc')).mono fun e w' => ?_
 rintro ⟨v, _, _, rfl, h1, h2⟩
 obtain ⟨arr, rfl, hl, hh⟩ := h1.tuple_inv
 refine ⟨?_, h2⟩
 have a0 := hh 0 _ (arr[0]'(by rw [← hl]; simp)) rfl (Array.getElem?_eq_getElem _)
 have a1 := hh 1 _ (arr[1]'(by rw [← hl]; simp)) rfl (Array.getElem?_eq_getElem _)
 have e0 := a0.str_inv
 have e1 := a1.lit_inv
 congr 2
 apply Array.ext
 ·rw [← hl]; rfl
 ·intro i h1 h2
  have hi : i < 2 := by rw [← hl] at h1; simpa using h1
  match i, hi with
  | 0, _ => exact e0
  | 1, _ => exact e1
theorem norm_calls (w : World) (hG : GG (fun b => b < w.heap.size) w) : Go.Calls Tryz.prog 128 #[sv dotA] w fun e W' => e = .returned (.tuple #[sv [97], .nilIface]) ∧ RowKit.Below w.heap.size w W' := by
 have h := nm_128 (fun _ => ([97], 0)) dotA (by decide) (fun q hq base W v hG hr => by
  rw [norm_dotA] at hq
  cases hq
  exact join_calls base W v hG hr) w hG
 have e : nmRes (fun _ => ([97], 0)) dotA = ([97], 0) := by unfold nmRes; rw [norm_dotA]
 rw [e] at h
 exact h
theorem gg_lt {ι : Emb} {S T : Nat → Prop} {w : World} {F : Free} (hg : GG S w) (hi : Inv ι S T [] w F) : GG (fun b => b < w.heap.size) w := ⟨hg.pow, hg.utf, hg.synt, hg.rang, fun b hb => hi.s_lt b (hg.low b hb)⟩
theorem norm_ok {ι : Emb} {S T : Nat → Prop} {w : World} (hg : GG S w) (hi : Inv ι S T [] w (Free.above 0)) : CallOK Tryz.prog 128 #[sv dotA] w (Back ι S T [] w (.tuple [.str [97], .lit .nilIface]) []) := by
 refine call_enter Tryz.func128 (by kernel_rfl) (by kernel_rfl) ?_
 refine (norm_calls w (gg_lt hg hi)).mono ?_
 rintro e w' ⟨rfl, hb⟩
 refine back_of hi hb fun ι' S' T' w'' => .tuple _ _ rfl fun i c u hc hu => ?_
 match i with
 | 0 => simp at hc hu; subst hc; subst hu; exact .str _
 | 1 => simp at hc hu; subst hc; subst hu; exact .lit _
 | i + 2 => simp at hc
theorem ab_of : AB.Of gl0 Tryz.prog [58] GG := {
 mix := aa_of.mix
 stable := aa_of.stable
 glob := aa_of.glob
 fn := fun g afn h => aa_of.fn g afn h
 prim := fun g p hp args r hr ι S T w vals hg hi hl hv => by
  by_cases h : g = 128
  ·subst h
   have e : p = normP := by
    have : AB.prim 128 = some normP := rfl
    rw [this] at hp
    exact (Option.some.inj hp).symm
   subst e
   unfold normP at hr
   split at hr <;> try (simp at hr; done)
   split at hr <;> simp only [Option.some.injEq, reduceCtorEq] at hr
   subst hr
   rename_i s hs
   obtain ⟨v, rfl, h1⟩ := one_arg rfl hl hv
   rw [h1.str_inv, hs]
   exact norm_ok hg hi
  ·have hp' : AA.prim g = some p := by
    have : AB.prim g = prims g := if_neg h
    rw [this] at hp
    exact hp
   exact aa_of.prim g p hp' args r hr ι S T w vals hg hi hl hv
 primh := aa_of.primh }
theorem law_callsB {g : Nat} {fn : Func} (hf : Tryz.prog.funcs[g]? = some fn) (hb : fn.body.isSome = true) (hn : (fn.name == "runtime.NumGoroutine") = false) {args : List AVal} (hs : callT AB g args [] = some (.bool true, [])) {w : World} {vals : Array Value}
  (hG : GG (fun b => b < w.heap.size) w) (hl : args.length = vals.size) (hr : ∀ (i : Nat) (c : AVal) (v : Value), args[i]? = some c → vals[i]? = some v → Rep (fun _ => none) (fun b => b < w.heap.size) (fun _ => False) w c v) :
  Go.Calls Tryz.prog g vals w fun e w' => e = .returned (.bool true) ∧ RowKit.Below w.heap.size w w' := by
 have hi : Inv (fun _ => none) (fun b => b < w.heap.size) (fun _ => False) [] w (Free.above 0) := ⟨by simp, by simp, by simp, fun _ _ => rfl, fun _ h => h, fun _ h => h.elim⟩
 have h := callT_sound ab_of g args [] (.bool true) [] hs _ _ _ w vals hG hi hl hr
 obtain ⟨c, hc⟩ := Option.isSome_iff_exists.1 hb
 have hrun : (callFunc g vals).run Tryz.prog w = .ok (.enter g vals) w := by
  have hn : ¬ fn.name = "runtime.NumGoroutine" := by simpa using hn
  simp [callFunc, hf, hn, hc]
 unfold CallOK at h
 rw [hrun] at h
 refine Go.Calls.mono h fun e w' he => ?_
 cases e with
 | returned v =>
  obtain ⟨ι', S', n', h1, h2, h3⟩ := he
  rw [h1.bool_inv]
  exact ⟨rfl, h3.os, h3.tape, h3.output, h3.size, fun k hk => h3.frame k hk fun ⟨e, he, _⟩ => by cases he⟩
 | panicked c => exact he.elim
 | outgrown => exact he.elim
end Go.Abs
namespace Go.Abs
def b39 : AFn := ⟨0, 60, [(0, none)], (.seq (rg [oo 0 (.mov (.c (.bool false)))]) (.seq (rg [oo 8 (.bslice 1 5 [(.int .u8 0)] [(.c (.int .u8 104)), (.c (.int .u8 101)), (.c (.int .u8 108)), (.c (.int .u8 108)), (.c (.int .u8 111))]), oo 9 (.cvb (.t 8)), oo 10 (.build [(.str []), (.int .i64 0), (.int .i64 0), (.int .i64 0), (.int .i64 0), (.int .i64 0), (.str []), (.lit (.slice none 0 0))] [(0, (1, (.c (.str [46, 47, 97])))), (1, (1, (ci 2))), (7, (1, (.t 9)))]), oo 11 (.bslice 8 1 [(.str []), (.int .i64 0), (.int .i64 0), (.int .i64 0), (.int .i64 0), (.int .i64 0), (.str []), (.lit (.slice none 0 0))] [(.t 10)]), cl 12 49 [(.t 11)], mv 7 12, oo 13 (.ext (.t 7) 0), oo 14 (.ext (.t 7) 1), mv 1 13, mv 2 14]) (.seq (rg [mv 16 1, cl 17 17 [(.t 16)], mv 15 17, oo 18 (.ext (.t 15) 0), oo 19 (.ext (.t 15) 1), mv 3 18, mv 4 19]) (.seq (rg [mv 21 3, cl 22 24 [(.t 21)], mv 20 22, oo 23 (.ext (.t 20) 0), oo 24 (.ext (.t 20) 1), mv 5 23, mv 6 24]) (.seq (rg [mv 25 2, oo 26 (.bin .eql (.iface [58]) true (.t 25) (.c (.lit .nilIface))), mv 27 26, og 28 (.mov (.t 4)) 27 true, og 29 (.bin .eql (.iface [58]) true (.t 28) (.c (.lit .nilIface))) 27 true, oo 30 (.pick (.t 27) (.t 29) (.c (.bool false))), mv 31 30, og 32 (.mov (.t 6)) 31 true, og 33 (.bin .eql (.iface [58]) true (.t 32) (.c (.lit .nilIface))) 31 true, oo 34 (.pick (.t 31) (.t 33) (.c (.bool false))), mv 35 34, og 36 (.mov (.t 3)) 35 true, og 37 (.len 1 (.t 36)) 35 true, og 38 (.bin .eql .other true (.t 37) (ci 2048)) 35 true, oo 39 (.pick (.t 35) (.t 38) (.c (.bool false))), mv 40 39, og 41 (.mov (.t 5)) 40 true, og 42 (.len 1 (.t 41)) 40 true, og 43 (.bin .eql .other true (.t 42) (ci 1)) 40 true, oo 44 (.pick (.t 40) (.t 43) (.c (.bool false))), mv 45 44, og 46 (.mov (.t 5)) 45 true, og 47 (.ixa 8 (.t 46) (ci 0)) 45 true, og 48 (.fa 0 (.t 47)) 45 true, og 49 (.ld 1 false (.t 48)) 45 true, og 50 (.bin .eql .other true (.t 49) (.c (.str [97]))) 45 true, oo 51 (.pick (.t 45) (.t 50) (.c (.bool false))), mv 52 51, og 53 (.mov (.t 5)) 52 true, og 54 (.ixa 8 (.t 53) (ci 0)) 52 true, og 55 (.fa 7 (.t 54)) 52 true, og 56 (.ld 1 false (.t 55)) 52 true, og 57 (.cvbs (.t 56)) 52 true, og 58 (.bin .eql .other true (.t 57) (.c (.str [104, 101, 108, 108, 111]))) 52 true, oo 59 (.pick (.t 52) (.t 58) (.c (.bool false))), mv 0 59]) .ret)))))⟩
theorem fn39 : AA.fn 39 = some b39 := by kernel_rfl
def l13_0 : ACode := (.seq (rg [oo 82 (.bin .lss .other false (.t 81) (.t 80))]) (.seq (.cond (.t 82) .skip (.exit 0)) (.seq (.block 1 (.seq (rg [mv 83 81, oo 84 (.ixa 1 (.t 79) (.t 81)), oo 85 (.ld 1 false (.t 84)), mv 15 83, mv 16 85]) (.seq (rg [mv 86 14, mv 87 16, oo 88 (.bin .add .other false (.t 86) (.t 87)), mv 14 88]) (.seq (rg [mv 89 14, mv 90 13, oo 91 (.bin .leq .other false (.t 89) (.t 90)), mv 92 91, og 93 (.mov (.t 14)) 92 true, og 94 (.mov (.t 7)) 92 true, og 95 (.len 1 (.t 94)) 92 true, og 96 (.bin .lss .other false (.t 93) (.t 95)) 92 true, oo 97 (.pick (.t 92) (.t 96) (.c (.bool false))), mv 98 97, og 99 (.mov (.t 14)) 98 true, og 100 (.mov (.t 9)) 98 true, og 101 (.len 1 (.t 100)) 98 true, og 102 (.bin .lss .other false (.t 99) (.t 101)) 98 true, oo 103 (.pick (.t 98) (.t 102) (.c (.bool false))), mv 104 103, og 105 (.mov (.t 15)) 104 true, og 106 (.mov (.t 12)) 104 true, og 107 (.len 1 (.t 106)) 104 true, og 108 (.bin .geq .other false (.t 105) (.t 107)) 104 true, og 109 (.mov (.t 108)) 104 true, og 110 (.mov (.t 12)) 109 false, og 111 (.mov (.t 15)) 109 false, og 112 (.ixa 1 (.t 110) (.t 111)) 109 false, og 113 (.ld 1 false (.t 112)) 109 false, og 114 (.mov (.t 16)) 109 false, og 115 (.bin .neq .other false (.t 113) (.t 114)) 109 false, og 116 (.pick (.t 109) (.c (.bool true)) (.t 115)) 104 true, oo 117 (.pick (.t 104) (.t 116) (.c (.bool false)))]) (.cond (.t 117) (.seq (rg [oo 6 (.mov (.c (.bool false)))]) .ret) .skip))))) (rg [oo 118 (.bin .add .other true (.t 81) (ci 1)), mv 81 118]))))
def r13_0 : ACode := (.seq (rg [mv 119 14, mv 120 7, oo 121 (.len 1 (.t 120)), oo 122 (.bin .eql .other false (.t 119) (.t 121)), mv 6 122]) .ret)
def b13 : AFn := ⟨3, 123, [(6, none)], (.seq (rg [oo 3 (.box (.t 0)), oo 6 (.mov (.c (.bool false)))]) (.seq (.seq (rg [cl 17 39 [], oo 18 (.un .not (.t 17))]) (.cond (.t 18) (.seq (rg [oo 6 (.mov (.c (.bool false)))]) .ret) .skip)) (.seq (.seq (rg [mv 19 1, cl 20 40 [(.t 19)], oo 21 (.un .not (.t 20)), mv 22 21, og 23 (.mov (.t 2)) 22 false, og 24 (.call (.c (.func (.func 40) [])) [(.t 23)]) 22 false, og 25 (.un .not (.t 24)) 22 false, oo 26 (.pick (.t 22) (.c (.bool true)) (.t 25))]) (.cond (.t 26) (.seq (rg [oo 6 (.mov (.c (.bool true)))]) .ret) .skip)) (.seq (rg [mv 28 1, cl 29 17 [(.t 28)], mv 27 29, oo 30 (.ext (.t 27) 0), oo 31 (.ext (.t 27) 1), mv 7 30, mv 8 31]) (.seq (rg [mv 33 2, cl 34 17 [(.t 33)], mv 32 34, oo 35 (.ext (.t 32) 0), oo 36 (.ext (.t 32) 1), mv 9 35, mv 10 36]) (.seq (.seq (rg [mv 37 8, oo 38 (.bin .neq (.iface [58]) true (.t 37) (.c (.lit .nilIface))), mv 39 38, og 40 (.mov (.t 10)) 39 false, og 41 (.bin .neq (.iface [58]) true (.t 40) (.c (.lit .nilIface))) 39 false, oo 42 (.pick (.t 39) (.c (.bool true)) (.t 41))]) (.cond (.t 42) (.seq (rg [oo 6 (.mov (.c (.bool true)))]) .ret) .skip)) (.seq (rg [oo 44 (.ld 5 true (.t 3)), mv 45 7, cl 46 51 [(.t 44), (.t 45)], mv 43 46, oo 47 (.ext (.t 43) 0), oo 48 (.ext (.t 43) 1), mv 11 47, mv 8 48]) (.seq (rg [oo 50 (.ld 5 true (.t 3)), mv 51 9, cl 52 51 [(.t 50), (.t 51)], mv 49 52, oo 53 (.ext (.t 49) 0), oo 54 (.ext (.t 49) 1), mv 12 53, mv 10 54]) (.seq (.seq (rg [mv 55 8, oo 56 (.bin .neq (.iface [58]) true (.t 55) (.c (.lit .nilIface))), mv 57 56, og 58 (.mov (.t 10)) 57 false, og 59 (.bin .neq (.iface [58]) true (.t 58) (.c (.lit .nilIface))) 57 false, oo 60 (.pick (.t 57) (.c (.bool true)) (.t 59))]) (.cond (.t 60) (.seq (rg [mv 61 8, cl 62 19 [(.t 61)], mv 63 10, cl 64 19 [(.t 63)], oo 65 (.bin .eql .other false (.t 62) (.t 64)), mv 66 65, og 67 (.mov (.t 11)) 66 true, og 68 (.len 1 (.t 67)) 66 true, og 69 (.bin .eql .other true (.t 68) (ci 0)) 66 true, oo 70 (.pick (.t 66) (.t 69) (.c (.bool false))), mv 71 70, og 72 (.mov (.t 12)) 71 true, og 73 (.len 1 (.t 72)) 71 true, og 74 (.bin .eql .other true (.t 73) (ci 0)) 71 true, oo 75 (.pick (.t 71) (.t 74) (.c (.bool false))), mv 6 75]) .ret) .skip)) (.seq (rg [mv 76 7, mv 77 9, cl 78 52 [(.t 76), (.t 77)], mv 13 78]) (.seq (rg [oo 14 (.mov (ci 0))]) (.seq (.seq (rg [mv 79 11, oo 80 (.len 1 (.t 79)), oo 81 (.mov (ci 0))]) (.block 0 (.loop [6, 7, 9, 12, 13, 14, 79, 80, 81] l13_0))) r13_0))))))))))))⟩
theorem fn13 : AA.fn 13 = some b13 := by kernel_rfl
end Go.Abs
namespace Go.Abs
section
variable {e : EqK} {c : Bool} {k : IntKind} {x y : Int}
def xorZ (x y : Int) : Int := IntKind.u64.wrap ((BitVec.ofInt 64 x ^^^ BitVec.ofInt 64 y).toNat : Int)
def andZ (x y : Int) : Int := IntKind.u64.wrap ((BitVec.ofInt 64 x &&& BitVec.ofInt 64 y).toNat : Int)
def orZ (x y : Int) : Int := IntKind.u64.wrap ((BitVec.ofInt 64 x ||| BitVec.ofInt 64 y).toNat : Int)
def shlZ (x y : Int) : Int := IntKind.u64.wrap (x * 2 ^ (min y.toNat 64))
def shrZ (x y : Int) : Int := x.fdiv (2 ^ (min y.toNat 64))
theorem aBin_xorZ : aBin .xor e c (.int .u64 x) (.int .u64 y) = some (.int .u64 (xorZ x y)) := by
 simp only [aBin, intOp, if_true]
 rfl
theorem aBin_andZ : aBin .and e c (.int .u64 x) (.int .u64 y) = some (.int .u64 (andZ x y)) := by
 simp only [aBin, intOp, if_true]
 rfl
theorem aBin_orZ : aBin .or e c (.int .u64 x) (.int .u64 y) = some (.int .u64 (orZ x y)) := by
 simp only [aBin, intOp, if_true]
 rfl
theorem aBin_shlZ (h : 0 ≤ y) : aBin .shl e c (.int .u64 x) (.int k y) = some (.int .u64 (shlZ x y)) := by
 simp only [aBin, intOp]
 exact if_neg (by omega)
theorem aBin_shrZ (h : 0 ≤ y) : aBin .shr e c (.int .u64 x) (.int k y) = some (.int .u64 (shrZ x y)) := by
 simp only [aBin, intOp]
 exact if_neg (by omega)
def andI (x y : Int) : Int := IntKind.i64.wrap ((BitVec.ofInt 64 x &&& BitVec.ofInt 64 y).toNat : Int)
theorem aBin_andI : aBin .and e c (.int .i64 x) (.int .i64 y) = some (.int .i64 (andI x y)) := by
 simp only [aBin, intOp, if_true]
 rfl
theorem aBin_shrI (h : 0 ≤ y) : aBin .shr e c (.int .i64 x) (.int k y) = some (.int .i64 (shrZ x y)) := by
 simp only [aBin, intOp]
 exact if_neg (by omega)
theorem wrap64 (z : Int) : 0 ≤ IntKind.u64.wrap z ∧ IntKind.u64.wrap z ≤ 18446744073709551615 := by
 simp only [IntKind.wrap, IntKind.bits, IntKind.signed, Bool.false_and, Bool.false_eq_true, if_false]
 omega
theorem xorZ_le : 0 ≤ xorZ x y ∧ xorZ x y ≤ 18446744073709551615 := wrap64 _
theorem shlZ_le : 0 ≤ shlZ x y ∧ shlZ x y ≤ 18446744073709551615 := wrap64 _
theorem shrZ_eq (x y : Int) : shrZ x y = x / 2 ^ (min y.toNat 64) := by
 have : (0 : Int) < 2 ^ (min y.toNat 64) := Int.pow_pos (by omega)
 exact Int.fdiv_eq_ediv_of_nonneg _ (by omega)
theorem shrZ_le (h0 : 0 ≤ x) : 0 ≤ shrZ x y ∧ shrZ x y ≤ x := by
 rw [shrZ_eq]
 have hp : (0 : Int) < 2 ^ (min y.toNat 64) := Int.pow_pos (by omega)
 refine ⟨Int.ediv_nonneg h0 (by omega), Int.ediv_le_self _ h0⟩
theorem ofInt64 (h0 : 0 ≤ x) (h1 : x ≤ 18446744073709551615) : (BitVec.ofInt 64 x).toNat = x.toNat := by
 rw [BitVec.toNat_ofInt]
 omega
theorem wrap64_id (h0 : 0 ≤ x) (h1 : x ≤ 18446744073709551615) : IntKind.u64.wrap x = x := wrap_u64 h0 h1
theorem xorZ_nat (h0 : 0 ≤ x) (h1 : x ≤ 18446744073709551615) (g0 : 0 ≤ y) (g1 : y ≤ 18446744073709551615) : xorZ x y = ((x.toNat ^^^ y.toNat : Nat) : Int) := by
 unfold xorZ
 have hl := (BitVec.ofInt 64 x ^^^ BitVec.ofInt 64 y).isLt
 rw [wrap64_id (by omega) (by omega), BitVec.toNat_xor, ofInt64 h0 h1, ofInt64 g0 g1]
theorem andZ_nat (h0 : 0 ≤ x) (h1 : x ≤ 18446744073709551615) (g0 : 0 ≤ y) (g1 : y ≤ 18446744073709551615) : andZ x y = ((x.toNat &&& y.toNat : Nat) : Int) := by
 unfold andZ
 have hl := (BitVec.ofInt 64 x &&& BitVec.ofInt 64 y).isLt
 rw [wrap64_id (by omega) (by omega), BitVec.toNat_and, ofInt64 h0 h1, ofInt64 g0 g1]
theorem andZ_255 (h0 : 0 ≤ x) (h1 : x ≤ 18446744073709551615) : 0 ≤ andZ x 255 ∧ andZ x 255 ≤ 255 := by
 rw [andZ_nat h0 h1 (by omega) (by omega)]
 have := Nat.and_le_right (n := x.toNat) (m := (255 : Int).toNat)
 have e : (255 : Int).toNat = 255 := rfl
 omega
end
def lenN (n : Nat) : Nat := if n = 0 then 0 else n.log2 + 1
theorem lenN_le {n k : Nat} : lenN n ≤ k ↔ n < 2 ^ k := by
 unfold lenN
 split
 ·rename_i h
  subst h
  have : 0 < 2 ^ k := Nat.pow_pos (by omega)
  omega
 ·rename_i h
  rw [← Nat.log2_lt h]
  omega
theorem lenN_div {n j : Nat} (h : 2 ^ j ≤ n) : lenN n = lenN (n / 2 ^ j) + j := by
 have hp : 0 < 2 ^ j := Nat.pow_pos (by omega)
 have hj : j ≤ lenN n := by
  have : ¬ lenN n ≤ j - 1 ∨ j = 0 := by
   by_cases hz : j = 0
   ·exact .inr hz
   ·refine .inl fun hh => ?_
    have h1 := lenN_le.1 hh
    have h2 : 2 ^ (j - 1) ≤ 2 ^ j := Nat.pow_le_pow_right (by omega) (by omega)
    omega
  omega
 refine Nat.le_antisymm ?_ ?_
 ·refine lenN_le.2 ?_
  have h1 : n / 2 ^ j < 2 ^ lenN (n / 2 ^ j) := lenN_le.1 (Nat.le_refl _)
  rw [Nat.pow_add]
  exact (Nat.div_lt_iff_lt_mul hp).1 h1
 ·have h1 : lenN (n / 2 ^ j) ≤ lenN n - j := by
   refine lenN_le.2 ((Nat.div_lt_iff_lt_mul hp).2 ?_)
   rw [← Nat.pow_add, Nat.sub_add_cancel hj]
   exact lenN_le.1 (Nat.le_refl _)
  omega
theorem lenN_xor {x y L : Nat} (hx : lenN x = L + 1) (hy : lenN y = L + 1) : lenN (x ^^^ y) ≤ L := by
 have top : ∀ z, lenN z = L + 1 → z < 2 ^ (L + 1) ∧ z.testBit L = true := by
  intro z hz
  have h1 : z < 2 ^ (L + 1) := lenN_le.1 (by omega)
  have h2 : ¬ z < 2 ^ L := fun h => by have := lenN_le.2 h; omega
  refine ⟨h1, ?_⟩
  rw [Nat.testBit_eq_decide_div_mod_eq]
  have e : z / 2 ^ L = 1 := by
   have hp : 0 < 2 ^ L := Nat.pow_pos (by omega)
   rw [Nat.pow_succ] at h1
   refine Nat.le_antisymm ?_ ?_
   ·have := (Nat.div_lt_iff_lt_mul (k := 2 ^ L) hp (x := z) (y := 2)).2 (by omega)
    omega
   ·exact (Nat.le_div_iff_mul_le hp).2 (by omega)
  rw [e]
  rfl
 obtain ⟨a1, a2⟩ := top x hx
 obtain ⟨b1, b2⟩ := top y hy
 refine lenN_le.2 (Nat.lt_pow_two_of_testBit _ fun i hi => ?_)
 rw [Nat.testBit_xor]
 by_cases h : i = L
 ·subst h
  rw [a2, b2]
  rfl
 ·have hp : 2 ^ (L + 1) ≤ 2 ^ i := Nat.pow_le_pow_right (by omega) (by omega)
  rw [Nat.testBit_lt_two_pow (by omega), Nat.testBit_lt_two_pow (by omega)]
  rfl
theorem lenN_mul {m s : Nat} (hm : m ≠ 0) : lenN (m * 2 ^ s) = lenN m + s := by
 have hp : 0 < 2 ^ s := Nat.pow_pos (by omega)
 have h : 2 ^ s ≤ m * 2 ^ s := Nat.le_mul_of_pos_left _ (by omega)
 rw [lenN_div h, Nat.mul_div_cancel _ hp]
theorem lenN_pos {n : Nat} (h : n ≠ 0) : 0 < lenN n := by
 unfold lenN
 rw [if_neg h]
 omega
end Go.Abs
namespace Go.Abs
attribute [local go_sem high] aBin_xorZ aBin_andZ aBin_orZ aBin_shlZ aBin_shrZ
set_option maxRecDepth 20000
theorem tab8_len : tab8.length = 256 := by decide +kernel
theorem tab8_all : (List.range 256).all (fun i => tab8[i]? == some (UInt8.ofNat (lenN i)) && decide (lenN i ≤ 8)) = true := by decide +kernel
theorem tab8_get {i : Nat} (h : i < 256) : tab8[i]? = some (UInt8.ofNat (lenN i)) ∧ lenN i ≤ 8 := by
 have := List.all_eq_true.1 tab8_all i (List.mem_range.2 h)
 simp only [Bool.and_eq_true, beq_iff_eq, decide_eq_true_eq] at this
 exact this
/-- the length of a word -/
def lenZ (x : Int) : Int := (lenN x.toNat : Int)
theorem shrZ_nat {x : Int} (h0 : 0 ≤ x) (s : Nat) (hs : s ≤ 64) : (shrZ x s).toNat = x.toNat / 2 ^ s := by
 obtain ⟨n, rfl⟩ : ∃ n : Nat, x = n := ⟨x.toNat, by omega⟩
 rw [shrZ_eq]
 have e : min ((s : Int)).toNat 64 = s := by omega
 rw [e]
 have e2 : ((2 : Int) ^ s) = ((2 ^ s : Nat) : Int) := by rw [Int.natCast_pow]; rfl
 rw [e2, ← Int.natCast_ediv, Int.toNat_natCast, Int.toNat_natCast]
theorem s174 (x : Int) (h0 : 0 ≤ x) (h1 : x ≤ 18446744073709551615) : callT AA 174 [.int .u64 x] [] = some (.int .i64 (lenZ x), []) := by
 -- the last step: a byte's length
 have last : ∀ y : Int, 0 ≤ y → y < 256 → IntKind.u8.wrap y = y ∧ tab8[y.toNat]? = some (UInt8.ofNat (lenN y.toNat)) ∧ ((UInt8.ofNat (lenN y.toNat)).toNat : Int) = lenN y.toNat ∧ lenN y.toNat ≤ 8 := by
  intro y hy0 hy1
  obtain ⟨a, b⟩ := tab8_get (i := y.toNat) (by omega)
  refine ⟨wrap_u8 hy0 (by omega), a, ?_, b⟩
  rw [UInt8.toNat_ofNat_of_lt' (by simp [UInt8.size]; omega)]
 have l8 := tab8_len
 have r1 := shrZ_le (y := 32) h0
 have p32 : (2 : Nat) ^ 32 = 4294967296 := rfl
 have p16 : (2 : Nat) ^ 16 = 65536 := rfl
 have p8 : (2 : Nat) ^ 8 = 256 := rfl
 have step : ∀ (y : Int) (s : Nat), 0 ≤ y → s ≤ 64 → (2 : Nat) ^ s ≤ y.toNat → (lenN y.toNat : Int) = lenN (shrZ y s).toNat + s := by
  intro y s hy hs hle
  rw [shrZ_nat hy s hs, lenN_div hle]
  omega
 have sh : ∀ (y : Int) (s : Nat) (B : Int), 0 ≤ y → s ≤ 64 → (2 : Nat) ^ s ≤ y.toNat → y < B * ((2 ^ s : Nat) : Int) → ∃ z, shrZ y s = z ∧ 0 ≤ z ∧ z < B ∧ (lenN y.toNat : Int) = lenN z.toNat + s := by
  intro y s B hy hs hle hB
  have h1 := step y s hy hs hle
  have h2 := shrZ_nat hy s hs
  have h3 := shrZ_le (y := (s : Int)) hy
  refine ⟨_, rfl, h3.1, ?_, h1⟩
  have hp : 0 < (2 : Nat) ^ s := Nat.pow_pos (by omega)
  have h4 : (shrZ y s).toNat < B.toNat := by
   rw [h2]
   refine (Nat.div_lt_iff_lt_mul hp).2 ?_
   have : 0 ≤ B := by
    refine Int.not_lt.1 fun hb => ?_
    have := Int.mul_neg_of_neg_of_pos hb (show (0 : Int) < ((2 ^ s : Nat) : Int) by omega)
    omega
   have e : ((B.toNat * 2 ^ s : Nat) : Int) = B * ((2 ^ s : Nat) : Int) := by
    rw [Int.natCast_mul]
    congr 1
    omega
   omega
  omega
 refine enter fn174 np174 rfl ?_
 unfold lenZ
 by_cases c0 : 4294967296 ≤ x
 ·obtain ⟨y0, e0, a0, b0, d0⟩ := sh x 32 4294967296 (by omega) (by omega) (by omega) (by omega)
  have e0 : shrZ x 32 = y0 := e0
  by_cases c1 : 65536 ≤ y0
  ·obtain ⟨y1, e1, a1, b1, d1⟩ := sh y0 16 65536 (by omega) (by omega) (by omega) (by omega)
   have e1 : shrZ y0 16 = y1 := e1
   by_cases c2 : 256 ≤ y1
   ·obtain ⟨y2, e2, a2, b2, d2⟩ := sh y1 8 256 (by omega) (by omega) (by omega) (by omega)
    have e2 : shrZ y1 8 = y2 := e2
    obtain ⟨w1, w2, w3, w4⟩ := last y2 (by omega) (by omega)
    have gg:=trivial;repeat' first|simp (maxSteps:=2000000) (disch:=omega) only [gg,b174,e0,e1,e2,w1,w2,w3,l8,go_sem]|(refine br ?_ ?_<;>intro gg<;>try omega)|(apply And.intro;focus omega)|omega
    all_goals simp
    all_goals omega
   ·skip
    obtain ⟨w1, w2, w3, w4⟩ := last y1 (by omega) (by omega)
    have gg:=trivial;repeat' first|simp (maxSteps:=2000000) (disch:=omega) only [gg,b174,e0,e1,w1,w2,w3,l8,go_sem]|(refine br ?_ ?_<;>intro gg<;>try omega)|(apply And.intro;focus omega)|omega
    all_goals simp
    all_goals omega
  ·skip
   by_cases c2 : 256 ≤ y0
   ·obtain ⟨y2, e2, a2, b2, d2⟩ := sh y0 8 256 (by omega) (by omega) (by omega) (by omega)
    have e2 : shrZ y0 8 = y2 := e2
    obtain ⟨w1, w2, w3, w4⟩ := last y2 (by omega) (by omega)
    have gg:=trivial;repeat' first|simp (maxSteps:=2000000) (disch:=omega) only [gg,b174,e0,e2,w1,w2,w3,l8,go_sem]|(refine br ?_ ?_<;>intro gg<;>try omega)|(apply And.intro;focus omega)|omega
    all_goals simp
    all_goals omega
   ·skip
    obtain ⟨w1, w2, w3, w4⟩ := last y0 (by omega) (by omega)
    have gg:=trivial;repeat' first|simp (maxSteps:=2000000) (disch:=omega) only [gg,b174,e0,w1,w2,w3,l8,go_sem]|(refine br ?_ ?_<;>intro gg<;>try omega)|(apply And.intro;focus omega)|omega
    all_goals simp
    all_goals omega
 ·skip
  by_cases c1 : 65536 ≤ x
  ·obtain ⟨y1, e1, a1, b1, d1⟩ := sh x 16 65536 (by omega) (by omega) (by omega) (by omega)
   have e1 : shrZ x 16 = y1 := e1
   by_cases c2 : 256 ≤ y1
   ·obtain ⟨y2, e2, a2, b2, d2⟩ := sh y1 8 256 (by omega) (by omega) (by omega) (by omega)
    have e2 : shrZ y1 8 = y2 := e2
    obtain ⟨w1, w2, w3, w4⟩ := last y2 (by omega) (by omega)
    have gg:=trivial;repeat' first|simp (maxSteps:=2000000) (disch:=omega) only [gg,b174,e1,e2,w1,w2,w3,l8,go_sem]|(refine br ?_ ?_<;>intro gg<;>try omega)|(apply And.intro;focus omega)|omega
    all_goals simp
    all_goals omega
   ·skip
    obtain ⟨w1, w2, w3, w4⟩ := last y1 (by omega) (by omega)
    have gg:=trivial;repeat' first|simp (maxSteps:=2000000) (disch:=omega) only [gg,b174,e1,w1,w2,w3,l8,go_sem]|(refine br ?_ ?_<;>intro gg<;>try omega)|(apply And.intro;focus omega)|omega
    all_goals simp
    all_goals omega
  ·skip
   by_cases c2 : 256 ≤ x
   ·obtain ⟨y2, e2, a2, b2, d2⟩ := sh x 8 256 (by omega) (by omega) (by omega) (by omega)
    have e2 : shrZ x 8 = y2 := e2
    obtain ⟨w1, w2, w3, w4⟩ := last y2 (by omega) (by omega)
    have gg:=trivial;repeat' first|simp (maxSteps:=2000000) (disch:=omega) only [gg,b174,e2,w1,w2,w3,l8,go_sem]|(refine br ?_ ?_<;>intro gg<;>try omega)|(apply And.intro;focus omega)|omega
    all_goals simp
    all_goals omega
   ·skip
    obtain ⟨w1, w2, w3, w4⟩ := last x (by omega) (by omega)
    have gg:=trivial;repeat' first|simp (maxSteps:=2000000) (disch:=omega) only [gg,b174,w1,w2,w3,l8,go_sem]|(refine br ?_ ?_<;>intro gg<;>try omega)|(apply And.intro;focus omega)|omega
    all_goals simp
    all_goals omega
end Go.Abs
namespace Go.Abs
attribute [local go_sem high] aBin_xorZ aBin_andZ aBin_orZ aBin_shlZ aBin_shrZ
set_option maxRecDepth 20000
theorem lenZ_le {x : Int} (h1 : x ≤ 18446744073709551615) : 0 ≤ lenZ x ∧ lenZ x ≤ 64 := by
 have : lenN x.toNat ≤ 64 := lenN_le.2 (by
  have e : (2 : Nat) ^ 64 = 18446744073709551616 := rfl
  omega)
 unfold lenZ
 omega
theorem lenZ_pos {x : Int} (h0 : 0 < x) : 0 < lenZ x := by
 have := lenN_pos (n := x.toNat) (by omega)
 unfold lenZ
 omega
theorem s176 (x : Int) (h0 : 0 ≤ x) (h1 : x ≤ 18446744073709551615) : callT AA 176 [.int .u64 x] [] = some (.int .i64 (lenZ x - 1), []) := by
 have h := s174 x h0 h1
 have := lenZ_le h1
 generalize lenZ x = L at *
 refine enter fn176 np176 rfl ?_
 have gg:=trivial;repeat' first|simp (maxSteps:=2000000) (disch:=omega) only [gg,b176,h,go_sem]|(refine br ?_ ?_<;>intro gg<;>try omega)|(apply And.intro;focus omega)|omega
def mulR (a b : Int) : Nat → Int → Int × Int → Int × Int
 | 0, _, s => s
 | k + 1, i, s => mulR a b k (i + 1) (if andZ (shrZ b i) 1 = 1 then (xorZ s.1 (shrZ a (64 - i)), xorZ s.2 (shlZ a i)) else s)
def mulZ (a b : Int) : Int × Int := mulR a b 64 0 (0, 0)
theorem h242 (a b : Int) (r0 : Int × Int) : ∀ (k : Nat) (i hi lo : Int), i + k = 64 → 0 ≤ i → r0 = mulR a b k i (hi, lo) →
  HD AA 0 [0, 1, 4, 5, 6, 7, 9] l242_0 ⟨[.int .u64 a, .int .u64 b, .junk, .junk, .int .u64 0, .int .u64 0, .int .u64 hi, .int .u64 lo, .junk, .int .i64 i, .junk, .junk, .junk, .junk, .junk, .junk, .junk, .junk, .junk, .junk, .junk, .junk, .junk, .junk, .junk, .junk, .junk, .junk, .junk, .junk, .junk], [], 0⟩ [.blk 0, .code r242_0] (Fin [(4, none), (5, none)] 0 (.tuple [.int .u64 r0.1, .int .u64 r0.2]) [])
 | 0, i, hi, lo, h1, h2, h3 => by
  rw [h3]
  refine hd_of (by unfold l242_0; rfl) ?_
  simp only [mulR]
  have gg:=trivial;repeat' first|simp (maxSteps:=2000000) (disch:=omega) only [gg,r242_0,go_sem]|(refine br ?_ ?_<;>intro gg<;>try omega)|(apply And.intro;focus omega)|omega
 | k + 1, i, hi, lo, h1, h2, h3 => by
  unfold mulR at h3
  refine hd_of (by unfold l242_0; rfl) ?_
  by_cases hc : andZ (shrZ b i) 1 = 1
  ·rw [if_pos hc] at h3
   have ih := h242 a b r0 k (i + 1) _ _ (by omega) (by omega) h3
   try dsimp only at ih
   have gg:=trivial;repeat' first|simp (maxSteps:=2000000) (disch:=omega) only [gg,hc,lp_head,go_sem]|(refine br ?_ ?_<;>intro gg<;>try omega)|(apply And.intro;focus omega)|omega
  ·rw [if_neg hc] at h3
   have ih := h242 a b r0 k (i + 1) _ _ (by omega) (by omega) h3
   try dsimp only at ih
   have gg:=trivial;repeat' first|simp (maxSteps:=2000000) (disch:=omega) only [gg,hc,lp_head,go_sem]|(refine br ?_ ?_<;>intro gg<;>try omega)|(apply And.intro;focus omega)|omega
theorem s242 (a b : Int) : callT AA 242 [.int .u64 a, .int .u64 b] [] = some (.tuple [.int .u64 (mulZ a b).1, .int .u64 (mulZ a b).2], []) := by
 have hh := h242 a b (mulZ a b) 64 0 0 0 (by omega) (by omega) rfl
 refine enter fn242 np242 rfl ?_
 have gg:=trivial;repeat' first|simp (maxSteps:=2000000) (disch:=omega) only [gg,b242,lp_head,go_sem]|(refine br ?_ ?_<;>intro gg<;>try omega)|(apply And.intro;focus omega)|omega
def modR1 (m d : Int) : Nat → Int → Int × Int → Int × Int
 | 0, _, s => s
 | k + 1, i, s => modR1 m d k (i - 1) (if andZ (shrZ s.1 i) 1 = 0 then s else if 64 ≤ 64 + i - d then (xorZ s.1 (shlZ m (64 + i - d - 64)), s.2) else (xorZ s.1 (shrZ m (64 - (64 + i - d))), xorZ s.2 (shlZ m (64 + i - d))))
def modR2 (m d : Int) : Nat → Int → Int
 | 0, lo => lo
 | k + 1, lo => if d ≤ lenZ lo - 1 then modR2 m d k (xorZ lo (shlZ m (lenZ lo - 1 - d))) else lo
def modZ (hi lo m : Int) : Int := modR2 m (lenZ m - 1) 64 (modR1 m (lenZ m - 1) 64 63 (hi, lo)).2
theorem shl_len {m : Int} (h0 : 0 < m) (h1 : m ≤ 18446744073709551615) {s : Int} (hs : 0 ≤ s) (hl : lenZ m + s ≤ 64) : lenZ (shlZ m s) = lenZ m + s := by
 obtain ⟨n, rfl⟩ : ∃ n : Nat, m = n := ⟨m.toNat, by omega⟩
 obtain ⟨t, rfl⟩ : ∃ t : Nat, s = t := ⟨s.toNat, by omega⟩
 unfold lenZ at hl ⊢
 simp only [Int.toNat_natCast] at hl ⊢
 have e : min t 64 = t := by omega
 have hn : n ≠ 0 := by omega
 have hlt : n * 2 ^ t < 2 ^ 64 := lenN_le.1 (by rw [lenN_mul hn]; omega)
 have e2 : ((2 : Int) ^ t) = ((2 ^ t : Nat) : Int) := by rw [Int.natCast_pow]; rfl
 have e3 : shlZ (n : Int) (t : Int) = ((n * 2 ^ t : Nat) : Int) := by
  unfold shlZ
  have p64 : (2 : Nat) ^ 64 = 18446744073709551616 := rfl
  rw [Int.toNat_natCast, e, e2, ← Int.natCast_mul]
  exact wrap64_id (by omega) (by omega)
 rw [e3, Int.toNat_natCast, lenN_mul hn]
 omega
theorem xor_len {x y : Int} (h0 : 0 ≤ x) (h1 : x ≤ 18446744073709551615) (g0 : 0 ≤ y) (g1 : y ≤ 18446744073709551615) (hp : 0 < lenZ x) (h : lenZ y = lenZ x) : lenZ (xorZ x y) < lenZ x := by
 rw [xorZ_nat h0 h1 g0 g1]
 unfold lenZ at *
 rw [Int.toNat_natCast]
 have := lenN_xor (x := x.toNat) (y := y.toNat) (L := lenN x.toNat - 1) (by omega) (by omega)
 omega
theorem mod_step {m lo : Int} (h0 : 0 < m) (h1 : m ≤ 18446744073709551615) (g0 : 0 ≤ lo) (g1 : lo ≤ 18446744073709551615) (h : lenZ m ≤ lenZ lo) : lenZ (xorZ lo (shlZ m (lenZ lo - 1 - (lenZ m - 1)))) < lenZ lo := by
 have l1 := lenZ_le g1
 have l2 := lenZ_pos h0
 have hs := shl_len h0 h1 (s := lenZ lo - 1 - (lenZ m - 1)) (by omega) (by omega)
 have hb := shlZ_le (x := m) (y := lenZ lo - 1 - (lenZ m - 1))
 exact xor_len g0 g1 hb.1 hb.2 (by omega) (by omega)
theorem modR2_le (m : Int) (h0 : 0 < m) (h1 : m ≤ 18446744073709551615) : ∀ (k : Nat) (lo : Int), 0 ≤ lo → lo ≤ 18446744073709551615 → lenZ lo ≤ k → 0 ≤ modR2 m (lenZ m - 1) k lo ∧ modR2 m (lenZ m - 1) k lo ≤ 18446744073709551615 ∧ lenZ (modR2 m (lenZ m - 1) k lo) < lenZ m
 | 0, lo, g0, g1, hk => by
  have := lenZ_pos h0
  have := (lenZ_le g1).1
  exact ⟨g0, g1, by simp only [modR2]; omega⟩
 | k + 1, lo, g0, g1, hk => by
  unfold modR2
  by_cases hc : lenZ m - 1 ≤ lenZ lo - 1
  ·rw [if_pos hc]
   have hs := mod_step h0 h1 g0 g1 (by omega)
   exact modR2_le m h0 h1 k _ xorZ_le.1 xorZ_le.2 (by omega)
  ·rw [if_neg hc]
   exact ⟨g0, g1, by omega⟩
theorem modR1_le (m d : Int) : ∀ (k : Nat) (i : Int) (s : Int × Int), (0 ≤ s.1 ∧ s.1 ≤ 18446744073709551615) → (0 ≤ s.2 ∧ s.2 ≤ 18446744073709551615) → 0 ≤ (modR1 m d k i s).2 ∧ (modR1 m d k i s).2 ≤ 18446744073709551615
 | 0, i, s, h1, h2 => h2
 | k + 1, i, s, h1, h2 => by
  unfold modR1
  refine modR1_le m d k _ _ ?_ ?_
  ·split
   ·exact h1
   split
   ·exact xorZ_le
   ·exact xorZ_le
  ·split
   ·exact h2
   split
   ·exact h2
   ·exact xorZ_le
theorem modZ_le {hi lo m : Int} (h0 : 0 < m) (h1 : m ≤ 18446744073709551615) (a0 : 0 ≤ hi ∧ hi ≤ 18446744073709551615) (b0 : 0 ≤ lo ∧ lo ≤ 18446744073709551615) : 0 ≤ modZ hi lo m ∧ modZ hi lo m ≤ 18446744073709551615 ∧ lenZ (modZ hi lo m) < lenZ m := by
 have h2 := modR1_le m (lenZ m - 1) 64 63 (hi, lo) a0 b0
 exact modR2_le m h0 h1 64 _ h2.1 h2.2 (lenZ_le h2.2).2
theorem h213b (m : Int) (h0 : 0 < m) (h1 : m ≤ 18446744073709551615) (r0 : Int) : ∀ (k : Nat) (lo : Int), 0 ≤ lo → lo ≤ 18446744073709551615 → lenZ lo ≤ k → r0 = modR2 m (lenZ m - 1) k lo →
  HD AA 0 [1, 2, 6, 7] l213_0 ⟨[.junk, .int .u64 lo, .int .u64 m, .junk, .junk, .junk, .int .u64 0, .int .i64 (lenZ m - 1), .junk, .junk, .junk, .junk, .junk, .junk, .junk, .junk, .junk, .junk, .junk, .junk, .junk, .junk, .junk, .junk, .junk, .junk, .junk, .junk, .junk, .junk, .junk, .junk, .junk, .junk, .junk, .junk, .junk, .junk, .junk, .junk, .junk, .junk, .junk, .junk, .junk, .junk, .junk, .junk, .junk, .junk, .junk, .junk, .junk, .junk, .junk, .junk, .junk], [], 0⟩ [.blk 2, .code r213_0] (Fin [(6, none)] 0 (.int .u64 r0) [])
 | k, lo, g0, g1, hk, h => by
  have c := s176 lo g0 g1
  have l1 := lenZ_le g1
  have l2 := lenZ_le h1
  have lp := lenZ_pos h0
  by_cases hc : lenZ m ≤ lenZ lo
  ·obtain ⟨k, rfl⟩ : ∃ j, k = j + 1 := ⟨k - 1, by omega⟩
   unfold modR2 at h
   rw [if_pos (by omega)] at h
   have hs := mod_step h0 h1 g0 g1 hc
   have ih := h213b m h0 h1 r0 k _ xorZ_le.1 xorZ_le.2 (by omega) h
   clear hs h
   generalize lenZ lo = L at *
   generalize lenZ m = N at *
   refine hd_of (by unfold l213_0; rfl) ?_
   have gg:=trivial;repeat' first|simp (maxSteps:=2000000) (disch:=omega) only [gg,c,lp_head,go_sem]|(refine br ?_ ?_<;>intro gg<;>try omega)|(apply And.intro;focus omega)|omega
  ·have h : r0 = lo := by
    rw [h]
    cases k with
    | zero => rfl
    | succ k => unfold modR2; rw [if_neg (by omega)]
   subst h
   generalize lenZ r0 = L at *
   generalize lenZ m = N at *
   refine hd_of (by unfold l213_0; rfl) ?_
   have gg:=trivial;repeat' first|simp (maxSteps:=2000000) (disch:=omega) only [gg,c,r213_0,lp_head,go_sem]|(refine br ?_ ?_<;>intro gg<;>try omega)|(apply And.intro;focus omega)|omega
theorem h213 (m : Int) (h0 : 0 < m) (h1 : m ≤ 18446744073709551615) (r0 : Int) : ∀ (k : Nat) (i hi lo : Int), i + 1 = k → i ≤ 63 → (0 ≤ hi ∧ hi ≤ 18446744073709551615) → 0 ≤ lo → lo ≤ 18446744073709551615 → r0 = modR2 m (lenZ m - 1) 64 (modR1 m (lenZ m - 1) k i (hi, lo)).2 →
  HD AA 0 [0, 1, 2, 6, 7, 8] l213_1 ⟨[.int .u64 hi, .int .u64 lo, .int .u64 m, .junk, .junk, .junk, .int .u64 0, .int .i64 (lenZ m - 1), .int .i64 i, .junk, .junk, .junk, .junk, .junk, .junk, .junk, .junk, .junk, .junk, .junk, .junk, .junk, .junk, .junk, .junk, .junk, .junk, .junk, .junk, .junk, .junk, .junk, .junk, .junk, .junk, .junk, .junk, .junk, .junk, .junk, .junk, .junk, .junk, .junk, .junk, .junk, .junk, .junk, .junk, .junk, .junk, .junk, .junk, .junk, .junk, .junk, .junk], [], 0⟩ [.blk 0, .code r213_1] (Fin [(6, none)] 0 (.int .u64 r0) [])
 | 0, i, hi, lo, e1, e2, h3, g0, g1, h => by
  simp only [modR1] at h
  have hh := h213b m h0 h1 r0 64 lo g0 g1 (lenZ_le g1).2 h
  have l2 := lenZ_le h1
  generalize lenZ m = N at *
  refine hd_of (by unfold l213_1; rfl) ?_
  have gg:=trivial;repeat' first|simp (maxSteps:=2000000) (disch:=omega) only [gg,r213_1,lp_head,go_sem]|(refine br ?_ ?_<;>intro gg<;>try omega)|(apply And.intro;focus omega)|omega
 | k + 1, i, hi, lo, e1, e2, h3, g0, g1, h => by
  unfold modR1 at h
  have l2 := lenZ_le h1
  have lp := lenZ_pos h0
  refine hd_of (by unfold l213_1; rfl) ?_
  by_cases hc : andZ (shrZ hi i) 1 = 0
  ·rw [if_pos hc] at h
   have ih := h213 m h0 h1 r0 k (i - 1) hi lo (by omega) (by omega) h3 g0 g1 h
   try dsimp only at ih
   clear h
   generalize lenZ m = N at *
   have gg:=trivial;repeat' first|simp (maxSteps:=2000000) (disch:=omega) only [gg,hc,lp_head,go_sem]|(refine br ?_ ?_<;>intro gg<;>try omega)|(apply And.intro;focus omega)|omega
  ·rw [if_neg hc] at h
   by_cases hc2 : 64 ≤ 64 + i - (lenZ m - 1)
   ·rw [if_pos hc2] at h
    have ih := h213 m h0 h1 r0 k (i - 1) _ lo (by omega) (by omega) xorZ_le g0 g1 h
    try dsimp only at ih
    clear h
    generalize lenZ m = N at *
    have gg:=trivial;repeat' first|simp (maxSteps:=2000000) (disch:=omega) only [gg,hc,lp_head,go_sem]|(refine br ?_ ?_<;>intro gg<;>try omega)|(apply And.intro;focus omega)|omega
   ·rw [if_neg hc2] at h
    have ih := h213 m h0 h1 r0 k (i - 1) _ _ (by omega) (by omega) xorZ_le xorZ_le.1 xorZ_le.2 h
    try dsimp only at ih
    clear h
    generalize lenZ m = N at *
    have gg:=trivial;repeat' first|simp (maxSteps:=2000000) (disch:=omega) only [gg,hc,lp_head,go_sem]|(refine br ?_ ?_<;>intro gg<;>try omega)|(apply And.intro;focus omega)|omega
theorem s213 (hi lo m : Int) (h0 : 0 < m) (h1 : m ≤ 18446744073709551615) (a0 : 0 ≤ hi ∧ hi ≤ 18446744073709551615) (b0 : 0 ≤ lo ∧ lo ≤ 18446744073709551615) : callT AA 213 [.int .u64 hi, .int .u64 lo, .int .u64 m] [] = some (.int .u64 (modZ hi lo m), []) := by
 have hh := h213 m h0 h1 (modZ hi lo m) 64 63 hi lo (by omega) (by omega) a0 b0.1 b0.2 rfl
 have c := s176 m (by omega) h1
 generalize modZ hi lo m = R at *
 generalize lenZ m = N at *
 refine enter fn213 np213 rfl ?_
 have gg:=trivial;repeat' first|simp (maxSteps:=2000000) (disch:=omega) only [gg,b213,c,lp_head,go_sem]|(refine br ?_ ?_<;>intro gg<;>try omega)|(apply And.intro;focus omega)|omega
end Go.Abs
namespace Go.Abs
attribute [local go_sem high] aBin_xorZ aBin_andZ aBin_orZ aBin_shlZ aBin_shrZ aBin_andI aBin_shrI
set_option maxRecDepth 20000
theorem mulR_le (a b : Int) : ∀ (k : Nat) (i : Int) (s : Int × Int), (0 ≤ s.1 ∧ s.1 ≤ 18446744073709551615) → (0 ≤ s.2 ∧ s.2 ≤ 18446744073709551615) → (0 ≤ (mulR a b k i s).1 ∧ (mulR a b k i s).1 ≤ 18446744073709551615) ∧ 0 ≤ (mulR a b k i s).2 ∧ (mulR a b k i s).2 ≤ 18446744073709551615
 | 0, i, s, h1, h2 => ⟨h1, h2⟩
 | k + 1, i, s, h1, h2 => by
  unfold mulR
  refine mulR_le a b k _ _ ?_ ?_
  ·split
   ·exact xorZ_le
   ·exact h1
  ·split
   ·exact xorZ_le
   ·exact h2
theorem mulZ_le (a b : Int) : (0 ≤ (mulZ a b).1 ∧ (mulZ a b).1 ≤ 18446744073709551615) ∧ 0 ≤ (mulZ a b).2 ∧ (mulZ a b).2 ≤ 18446744073709551615 := mulR_le a b 64 0 (0, 0) (by simp) (by simp)
def mulmZ (m a b : Int) : Int := modZ (mulZ a b).1 (mulZ a b).2 m
theorem mulmZ_le {m a b : Int} (h0 : 0 < m) (h1 : m ≤ 18446744073709551615) : 0 ≤ mulmZ m a b ∧ mulmZ m a b ≤ 18446744073709551615 := by
 have h := mulZ_le a b
 have := modZ_le h0 h1 h.1 h.2
 exact ⟨this.1, this.2.1⟩
theorem s214 (m a b : Int) (h0 : 0 < m) (h1 : m ≤ 18446744073709551615) : callT AA 214 [.int .u64 m, .int .u64 a, .int .u64 b] [] = some (.int .u64 (mulmZ m a b), []) := by
 have c := s242 a b
 have hb := mulZ_le a b
 have c2 := s213 _ _ m h0 h1 hb.1 hb.2
 unfold mulmZ
 generalize mulZ a b = P at *
 refine enter fn214 np214 rfl ?_
 have gg:=trivial;repeat' first|simp (maxSteps:=2000000) (disch:=omega) only [gg,b214,c,c2,go_sem]|(refine br ?_ ?_<;>intro gg<;>try omega)|(apply And.intro;focus omega)|omega
/-- 1, cut down -/
def oneZ (m : Int) : Int := modZ 0 1 m
def prodZ (m : Int) (fs : List Int) : Int := fs.foldl (mulmZ m) (oneZ m)
abbrev u64s (l : List Int) : List AVal := l.map (AVal.int .u64)
theorem h218 (m : Int) (h0 : 0 < m) (h1 : m ≤ 18446744073709551615) (c t : Bool) (fs : List Int) (hl : fs.length ≤ 1000000) (r0 : Int) : ∀ (rest done : List Int) (o n i : Int), fs = done ++ rest → i = done.length → n = fs.length → r0 = rest.foldl (mulmZ m) o →
  HD AA 0 [0, 4, 5, 6, 14, 15, 16] l218_0 ⟨[.int .u64 m, .junk, .junk, .junk, .int .u64 0, .lit .nilIface, .int .u64 o, .junk, .junk, .junk, .junk, .junk, .junk, .junk, .view 1 (u64s fs) c t, .int .i64 n, .int .i64 i, .junk, .junk, .junk, .junk, .junk, .junk, .junk, .junk, .junk], [], 0⟩ [.blk 0, .code r218_0] (Fin [(4, none), (5, none)] 0 (.tuple [.int .u64 r0, .lit .nilIface]) [])
 | [], done, o, n, i, e1, e2, e3, h => by
  subst e1
  simp at e3
  rw [h]
  refine hd_of (by unfold l218_0; rfl) ?_
  have gg:=trivial;repeat' first|simp (maxSteps:=2000000) (disch:=omega) only [gg,r218_0,go_sem]|(refine br ?_ ?_<;>intro gg<;>try omega)|(apply And.intro;focus omega)|omega
  all_goals simp
 | x :: rest, done, o, n, i, e1, e2, e3, h => by
  have hg0 : fs[i.toNat]? = some x := by
   rw [e1]
   simp [e2]
  have hlt : i.toNat < fs.length := by rw [e1]; simp; omega
  have c1 := s214 m o x h0 h1
  have ih := h218 m h0 h1 c t fs hl r0 rest (done ++ [x]) (mulmZ m o x) n (i + 1) (by simp [e1]) (by first | omega | (simp; omega) | (simp; done)) e3 h
  refine hd_of (by unfold l218_0; rfl) ?_
  have gg:=trivial;repeat' first|simp (maxSteps:=2000000) (disch:=omega) only [gg,hg0,c1,lp_head,go_sem]|(refine br ?_ ?_<;>intro gg<;>try omega)|(apply And.intro;focus omega)|omega
theorem s218 (m : Int) (h0 : 0 < m) (h1 : m ≤ 18446744073709551615) (c t : Bool) (fs : List Int) (hl : fs.length ≤ 1000000) : callT AA 218 [.int .u64 m, .view 1 (u64s fs) c t] [] = some (.tuple [.int .u64 (prodZ m fs), .lit .nilIface], []) := by
 have hh := h218 m h0 h1 c t fs hl (prodZ m fs) fs [] (oneZ m) fs.length 0 rfl rfl rfl rfl
 have c1 := s213 0 1 m h0 h1 (by simp) (by simp)
 unfold oneZ at hh
 have hm : ¬ m = 0 := by omega
 refine enter fn218 np218 rfl ?_
 have gg:=trivial;repeat' first|simp (maxSteps:=2000000) (disch:=omega) only [gg,b218,c1,hm,lp_head,go_sem]|(refine br ?_ ?_<;>intro gg<;>try omega)|(apply And.intro;focus omega)|omega
def powR (n m : Int) : Nat → Int → Int → Int
 | 0, _, o => o
 | k + 1, i, o => powR n m k (i - 1) (if andI (shrZ n i) 1 = 1 then mulmZ m (mulmZ m o o) 2 else mulmZ m o o)
def powZ (n m : Int) : Int := powR n m (lenZ n).toNat (lenZ n - 1) (oneZ m)
theorem h217 (n m : Int) (h0 : 0 < m) (h1 : m ≤ 18446744073709551615) (r0 : Int) : ∀ (k : Nat) (i o : Int), i + 1 = k → i ≤ 1000 → r0 = powR n m k i o →
  HD AA 0 [0, 1, 4, 5, 6, 7] l217_0 ⟨[.int .i64 n, .int .u64 m, .junk, .junk, .int .u64 0, .lit .nilIface, .int .u64 o, .int .i64 i, .junk, .junk, .junk, .junk, .junk, .junk, .junk, .junk, .junk, .junk, .junk, .junk, .junk, .junk, .junk, .junk, .junk, .junk, .junk, .junk, .junk, .junk, .junk, .junk, .junk, .junk, .junk, .junk, .junk], [], 0⟩ [.blk 0, .code r217_0] (Fin [(4, none), (5, none)] 0 (.tuple [.int .u64 r0, .lit .nilIface]) [])
 | 0, i, o, e1, e2, h => by
  rw [h]
  simp only [powR]
  refine hd_of (by unfold l217_0; rfl) ?_
  have gg:=trivial;repeat' first|simp (maxSteps:=2000000) (disch:=omega) only [gg,r217_0,go_sem]|(refine br ?_ ?_<;>intro gg<;>try omega)|(apply And.intro;focus omega)|omega
 | k + 1, i, o, e1, e2, h => by
  unfold powR at h
  have c1 := s214 m o o h0 h1
  have c2 := s214 m (mulmZ m o o) 2 h0 h1
  refine hd_of (by unfold l217_0; rfl) ?_
  by_cases hc : andI (shrZ n i) 1 = 1
  ·rw [if_pos hc] at h
   have ih := h217 n m h0 h1 r0 k (i - 1) _ (by omega) (by omega) h
   have gg:=trivial;repeat' first|simp (maxSteps:=2000000) (disch:=omega) only [gg,hc,c1,c2,lp_head,go_sem]|(refine br ?_ ?_<;>intro gg<;>try omega)|(apply And.intro;focus omega)|omega
  ·rw [if_neg hc] at h
   have ih := h217 n m h0 h1 r0 k (i - 1) _ (by omega) (by omega) h
   have gg:=trivial;repeat' first|simp (maxSteps:=2000000) (disch:=omega) only [gg,hc,c1,lp_head,go_sem]|(refine br ?_ ?_<;>intro gg<;>try omega)|(apply And.intro;focus omega)|omega
theorem s217 (n m : Int) (n0 : 0 ≤ n) (n1 : n ≤ 9223372036854775807) (h0 : 0 < m) (h1 : m ≤ 18446744073709551615) : callT AA 217 [.int .i64 n, .int .u64 m] [] = some (.tuple [.int .u64 (powZ n m), .lit .nilIface], []) := by
 have l := lenZ_le (x := n) (by omega)
 have hh := h217 n m h0 h1 (powZ n m) (lenZ n).toNat (lenZ n - 1) (oneZ m) (by omega) (by omega) rfl
 have c1 := s213 0 1 m h0 h1 (by simp) (by simp)
 have c2 := s174 n n0 (by omega)
 unfold oneZ at hh
 have hm : ¬ m = 0 := by omega
 generalize lenZ n = N at *
 refine enter fn217 np217 rfl ?_
 have gg:=trivial;repeat' first|simp (maxSteps:=2000000) (disch:=omega) only [gg,b217,c1,c2,hm,lp_head,go_sem]|(refine br ?_ ?_<;>intro gg<;>try omega)|(apply And.intro;focus omega)|omega
def gcdR : Nat → Int → Int → Int
 | 0, a, _ => a
 | k + 1, a, b => if b = 0 then a else gcdR k b (modZ 0 a b)
def gcdZ (fs : List Int) : Int := fs.foldl (fun a b => gcdR (lenN b.toNat + 1) a b) 0
theorem gcdR_le : ∀ (k : Nat) (a b : Int), (0 ≤ a ∧ a ≤ 18446744073709551615) → (0 ≤ b ∧ b ≤ 18446744073709551615) → lenZ b < k → 0 ≤ gcdR k a b ∧ gcdR k a b ≤ 18446744073709551615
 | 0, a, b, ha, hb, hk => ha
 | k + 1, a, b, ha, hb, hk => by
  unfold gcdR
  split
  ·exact ha
  ·have h := modZ_le (hi := 0) (lo := a) (m := b) (by omega) hb.2 (by simp) ha
   exact gcdR_le k b _ hb ⟨h.1, h.2.1⟩ (by omega)
end Go.Abs
namespace Go.Abs
attribute [local go_sem high] aBin_xorZ aBin_andZ aBin_orZ aBin_shlZ aBin_shrZ aBin_andI aBin_shrI
set_option maxRecDepth 20000
abbrev S216 : List Frame := [.blk 2, .blk 1, .code r216_0, .loop [2, 3, 6, 7, 8] l216_1, .blk 0, .code r216_1]
theorem h216b (T : AVal) (hT : T.ids = []) (hR : ∀ f, T.ren f = T) (n i : Int) (F : FinP) : ∀ (k : Nat) (a b : Int), (0 ≤ a ∧ a ≤ 18446744073709551615) → (0 ≤ b ∧ b ≤ 18446744073709551615) → lenZ b < k → -1 ≤ i → i ≤ 1000000 →
  HD AA 0 [2, 3, 6, 7, 8] l216_1 ⟨[.junk, .junk, .int .u64 0, .int .u64 (gcdR k a b), .junk, .junk, T, .int .i64 n, .int .i64 (i + 1), .junk, .junk, .junk, .junk, .junk, .junk, .junk, .junk, .junk, .junk, .junk], [], 0⟩ [.blk 0, .code r216_1] F →
  HD AA 0 [2, 3, 5, 6, 7, 8] l216_0 ⟨[.junk, .junk, .int .u64 0, .int .u64 a, .junk, .int .u64 b, T, .int .i64 n, .int .i64 i, .junk, .junk, .junk, .junk, .junk, .junk, .junk, .junk, .junk, .junk, .junk], [], 0⟩ S216 F
 | 0, a, b, ha, hb, hk, hi, hi2, ih => by
  have := (lenZ_le hb.2).1
  omega
 | k + 1, a, b, ha, hb, hk, hi, hi2, ih => by
  unfold gcdR at ih
  dsimp only [S216]
  by_cases hz : b = 0
  ·rw [if_pos hz] at ih
   refine hd_of (by unfold l216_0; rfl) ?_
   have gg:=trivial;repeat' first|simp (maxSteps:=2000000) (disch:=omega) only [gg,hz,hT,hR,r216_0,lp_head,go_sem]|(refine br ?_ ?_<;>intro gg<;>try omega)|(apply And.intro;focus omega)|omega
  ·rw [if_neg hz] at ih
   have c := s213 0 a b (by omega) hb.2 (by simp) ha
   have hm := modZ_le (hi := 0) (lo := a) (m := b) (by omega) hb.2 (by simp) ha
   have ih2 := h216b T hT hR n i F k b _ hb ⟨hm.1, hm.2.1⟩ (by omega) hi hi2 ih
   dsimp only [S216] at ih2
   refine hd_of (by unfold l216_0; rfl) ?_
   have gg:=trivial;repeat' first|simp (maxSteps:=2000000) (disch:=omega) only [gg,hz,c,hT,hR,lp_head,go_sem]|(refine br ?_ ?_<;>intro gg<;>try omega)|(apply And.intro;focus omega)|omega
theorem h216 (c t : Bool) (fs : List Int) (hl : fs.length ≤ 100000) (hf : ∀ x ∈ fs, 0 ≤ x ∧ x ≤ 18446744073709551615) (r0 : Int) : ∀ (rest done : List Int) (a n i : Int), (0 ≤ a ∧ a ≤ 18446744073709551615) → fs = done ++ rest → i = done.length → n = fs.length → r0 = rest.foldl (fun a b => gcdR (lenN b.toNat + 1) a b) a →
  HD AA 0 [2, 3, 6, 7, 8] l216_1 ⟨[.junk, .junk, .int .u64 0, .int .u64 a, .junk, .junk, .view 1 (u64s fs) c t, .int .i64 n, .int .i64 i, .junk, .junk, .junk, .junk, .junk, .junk, .junk, .junk, .junk, .junk, .junk], [], 0⟩ [.blk 0, .code r216_1] (Fin [(2, none)] 0 (.int .u64 r0) [])
 | [], done, a, n, i, ha, e1, e2, e3, h => by
  subst e1
  simp at e3
  rw [h]
  refine hd_of (by unfold l216_1; rfl) ?_
  have gg:=trivial;repeat' first|simp (maxSteps:=2000000) (disch:=omega) only [gg,r216_1,go_sem]|(refine br ?_ ?_<;>intro gg<;>try omega)|(apply And.intro;focus omega)|omega
  all_goals simp
 | x :: rest, done, a, n, i, ha, e1, e2, e3, h => by
  have hg0 : fs[i.toNat]? = some x := by
   rw [e1]
   simp [e2]
  have hlt : i.toNat < fs.length := by rw [e1]; simp; omega
  have hx := hf x (by rw [e1]; simp)
  have hk : lenZ x < ((lenN x.toNat + 1 : Nat) : Int) := by unfold lenZ; omega
  have hg := gcdR_le (lenN x.toNat + 1) a x ha hx hk
  have ih := h216 c t fs hl hf r0 rest (done ++ [x]) (gcdR (lenN x.toNat + 1) a x) n (i + 1) hg (by simp [e1]) (by first | omega | (simp; omega) | (simp; done)) e3 h
  have ih2 := h216b (.view 1 (u64s fs) c t) rfl (fun _ => rfl) n i _ (lenN x.toNat + 1) a x ha hx hk (by omega) (by omega) ih
  dsimp only [S216] at ih2
  refine hd_of (by unfold l216_1; rfl) ?_
  have gg:=trivial;repeat' first|simp (maxSteps:=2000000) (disch:=omega) only [gg,hg0,lp_head,go_sem]|(refine br ?_ ?_<;>intro gg<;>try omega)|(apply And.intro;focus omega)|omega
theorem s216 (c t : Bool) (fs : List Int) (hl : fs.length ≤ 100000) (hf : ∀ x ∈ fs, 0 ≤ x ∧ x ≤ 18446744073709551615) : callT AA 216 [.view 1 (u64s fs) c t] [] = some (.int .u64 (gcdZ fs), []) := by
 have hh := h216 c t fs hl hf (gcdZ fs) fs [] 0 fs.length 0 (by simp) rfl rfl rfl rfl
 refine enter fn216 np216 rfl ?_
 have gg:=trivial;repeat' first|simp (maxSteps:=2000000) (disch:=omega) only [gg,b216,lp_head,go_sem]|(refine br ?_ ?_<;>intro gg<;>try omega)|(apply And.intro;focus omega)|omega
def okI (v : AVal) : Bool := match v with
 | .int .i64 q => decide (2 ≤ q) && decide (q ≤ 64)
 | _ => false
noncomputable def chkP (n : Nat) : Bool := match callF AA 400 215 [.int .i64 n] [] with
 | some (.own 0 1 0 k false, [(0, .row es 1)]) => decide (es.length = k) && decide (k ≤ 1000) && es.all okI
 | some (.lit (.slice none 0 0), []) => true
 | _ => false
theorem primes_ok : (List.range 64).all chkP = true := by kernel_rfl
theorem ints_of : ∀ {es : List AVal}, es.all okI = true → ∃ l : List Int, es = l.map (AVal.int .i64) ∧ ∀ q ∈ l, 2 ≤ q ∧ q ≤ 64
 | [], _ => ⟨[], rfl, by simp⟩
 | e :: r, h => by
  simp only [List.all_cons, Bool.and_eq_true] at h
  obtain ⟨l, rfl, hl⟩ := ints_of h.2
  have he := h.1
  unfold okI at he
  split at he
  ·rename_i q
   simp only [Bool.and_eq_true, decide_eq_true_eq] at he
   refine ⟨q :: l, rfl, fun x hx => ?_⟩
   rcases List.mem_cons.1 hx with rfl | hx
   ·exact he
   ·exact hl x hx
  ·cases he
theorem s215 {n : Int} (h0 : 0 ≤ n) (h1 : n ≤ 63) : ∃ l : List Int, (∀ q ∈ l, 2 ≤ q ∧ q ≤ 64) ∧ l.length ≤ 1000 ∧ (callT AA 215 [.int .i64 n] [] = some (.own 0 1 0 l.length false, [(0, .row (l.map (AVal.int .i64)) 1)]) ∨ l = [] ∧ callT AA 215 [.int .i64 n] [] = some (.lit (.slice none 0 0), [])) := by
 obtain ⟨m, rfl⟩ : ∃ m : Nat, n = m := ⟨n.toNat, by omega⟩
 have h := List.all_eq_true.1 primes_ok m (List.mem_range.2 (by omega))
 unfold chkP at h
 split at h
 ·rename_i k es hc
  simp only [Bool.and_eq_true, decide_eq_true_eq] at h
  obtain ⟨l, rfl, hl⟩ := ints_of h.2
  obtain ⟨⟨k1, k2⟩, _⟩ := h
  rw [List.length_map] at k1
  subst k1
  refine ⟨l, hl, k2, .inl ?_⟩
  exact callT_iff.2 ⟨400, hc⟩
 ·rename_i hc
  exact ⟨[], by simp, by simp, .inr ⟨rfl, callT_iff.2 ⟨400, hc⟩⟩⟩
 ·cases h
end Go.Abs
