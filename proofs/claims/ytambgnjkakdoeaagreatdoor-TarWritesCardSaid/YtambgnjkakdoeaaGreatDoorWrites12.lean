import Derived.Test.YtambgnjkakdoeaaGreatDoorWrites11
/- PART OF A PROOF (texts joined by a program): F34 Q2 F73 F67 F74 F75 F76 F77 F78 F79 F80 F81 F68. -/
set_option linter.unusedVariables false
set_option linter.unusedSimpArgs false
set_option linter.unusedSectionVars false
namespace Go.Abs
open Am
set_option maxRecDepth 10000
set_option linter.unusedSimpArgs false
theorem good_le {s : List UInt8} (h : goodB s = true) : s.length ≤ 400 := by
  unfold goodB at h
  simp only [Bool.and_eq_true, decide_eq_true_eq] at h
  exact h.1
theorem good_ne {s : List UInt8} (h : goodB s = true) : s ≠ [] := by
  rintro rfl
  have : goodB [] = false := by decide
  rw [this] at h
  cases h
theorem text_ne {s : List UInt8} {n : Int} (h : textB s n = true) : s ≠ [] ∧ (s.length : Int) ≤ n := by
  unfold textB at h
  simp only [Bool.and_eq_true, decide_eq_true_eq] at h
  exact ⟨h.1.1.1, h.1.1.2⟩
theorem meta_le {n least : Int} (h : metaB n least = true) : least ≤ n ∧ n ≤ 1099511627776 := by
  unfold metaB at h
  simpa using h
/-- what good fields are -/
structure FieldsOk (e : Ent) : Prop where
  mode : 0 ≤ e.mode ∧ e.mode ≤ 4095
  uid : 0 ≤ e.uid ∧ e.uid ≤ 1099511627776
  gid : 0 ≤ e.gid ∧ e.gid ≤ 1099511627776
  time : -1099511627776 ≤ e.time ∧ e.time ≤ 1099511627776
  link : e.link.length ≤ 400
  data : e.data.l.length ≤ 65536
  kinds : (e.kind = 1 ∧ e.link = [] ∧ e.data.l.length = 0) ∨ (e.kind = 2 ∧ e.link = []) ∨ (e.kind = 3 ∧ e.link ≠ [] ∧ e.data.l.length = 0) ∨ (e.kind = 4 ∧ e.link ≠ [] ∧ e.data.l.length = 0)
theorem fields_ok {e : Ent} (h : fieldsB e = true) : FieldsOk e := by
  unfold fieldsB at h
  by_cases c1 : e.mode < 0 ∨ 4095 < e.mode
  · rw [if_pos c1] at h; cases h
  rw [if_neg c1] at h
  by_cases c2 : metaB e.uid 0 = false ∨ metaB e.gid 0 = false ∨ metaB e.time (-1099511627776) = false
  · rw [if_pos c2] at h; cases h
  rw [if_neg c2] at h
  have m1 : metaB e.uid 0 = true := by
    cases hm : metaB e.uid 0 with
    | true => rfl
    | false => exact (c2 (.inl hm)).elim
  have m2 : metaB e.gid 0 = true := by
    cases hm : metaB e.gid 0 with
    | true => rfl
    | false => exact (c2 (.inr (.inl hm))).elim
  have m3 : metaB e.time (-1099511627776) = true := by
    cases hm : metaB e.time (-1099511627776) with
    | true => rfl
    | false => exact (c2 (.inr (.inr hm))).elim
  have m1 := meta_le m1
  have m2 := meta_le m2
  have m3 := meta_le m3
  have key : e.link.length ≤ 400 ∧ e.data.l.length ≤ 65536 ∧ ((e.kind = 1 ∧ e.link = [] ∧ e.data.l.length = 0) ∨ (e.kind = 2 ∧ e.link = []) ∨ (e.kind = 3 ∧ e.link ≠ [] ∧ e.data.l.length = 0) ∨ (e.kind = 4 ∧ e.link ≠ [] ∧ e.data.l.length = 0)) := by
    by_cases k1 : e.kind = 1
    · rw [if_pos k1] at h
      simp only [Bool.and_eq_true, decide_eq_true_eq] at h
      exact ⟨by rw [h.1]; simp, by omega, .inl ⟨k1, h.1, h.2⟩⟩
    rw [if_neg k1] at h
    by_cases k2 : e.kind = 2
    · rw [if_pos k2] at h
      simp only [Bool.and_eq_true, decide_eq_true_eq] at h
      exact ⟨by rw [h.1]; simp, by omega, .inr (.inl ⟨k2, h.1⟩)⟩
    rw [if_neg k2] at h
    by_cases k3 : e.kind = 3
    · rw [if_pos k3] at h
      simp only [Bool.and_eq_true, decide_eq_true_eq] at h
      have ht := text_ne h.1
      exact ⟨by omega, by omega, .inr (.inr (.inl ⟨k3, ht.1, h.2⟩))⟩
    rw [if_neg k3] at h
    by_cases k4 : e.kind = 4
    · rw [if_pos k4] at h
      simp only [Bool.and_eq_true, decide_eq_true_eq] at h
      exact ⟨good_le h.1.1.1.1.1, by omega, .inr (.inr (.inr ⟨k4, good_ne h.1.1.1.1.1, h.1.1.1.1.2⟩))⟩
    rw [if_neg k4] at h
    cases h
  exact ⟨by omega, by omega, by omega, by omega, key.1, key.2.1, key.2.2⟩
theorem entryE_good {c : Ck} {e : Ent} (h : (entryE c e).1 = 0) : goodB e.path = true ∧ fieldsB e = true := by
  unfold entryE at h
  by_cases g1 : goodB e.path = false
  · rw [if_pos g1] at h; simp at h
  rw [if_neg g1] at h
  by_cases g2 : fieldsB e = false
  · rw [if_pos g2] at h; simp at h
  exact ⟨by simpa using g1, by simpa using g2⟩
theorem checkL_good : ∀ (t : List Ent) (c : Ck) (i : Int), 0 ≤ i → (checkL c i t).2 = 0 → ∀ e ∈ t, goodB e.path = true ∧ fieldsB e = true
  | [], _, _, _, _, e, he => by cases he
  | e :: r, c, i, hi, h, x, hx => by
    unfold checkL at h
    by_cases g : (entryE c e).1 = 0
    · rw [if_pos g] at h
      rcases List.mem_cons.1 hx with rfl | hx
      · exact entryE_good g
      · exact checkL_good r _ (i + 1) (by omega) h x hx
    · rw [if_neg g] at h
      exact (g h).elim
theorem checkT_good {t : List Ent} (h : (checkT t).2 = 0) : t.length ≤ 200 ∧ ∀ e ∈ t, goodB e.path = true ∧ fieldsB e = true := by
  unfold checkT at h
  by_cases c : 200 < t.length
  · rw [if_pos c] at h; simp at h
  · rw [if_neg c] at h
    exact ⟨by omega, checkL_good t _ 0 (by omega) h⟩
theorem hdrE_eq (e : Ent) : hdrE e (recsE e) = ⟨if (splitN e.path).2.2 then e.path else paxB, e.mode, if idB e.uid then e.uid else 0, if idB e.gid then e.gid else 0, e.data.l.length, if timeB e.time then e.time else 0, typeB e.kind, if linkE e.link then e.link else paxB⟩ := by
  unfold hdrE recsE rst3 rst4 rst5 rst6 rst7
  cases idB e.gid <;> cases linkE e.link <;> cases timeB e.time <;> cases (splitN e.path).2.2 <;> cases idB e.uid <;> simp [recIf, setR, hdE, gidB, linkpathB, mtimeB, pathB, uidB]
theorem split_paxB : (splitN paxB).2.2 = true := by decide
theorem link_paxB : linkB paxB = true := by unfold linkB; decide
theorem linkE_ne {l : List UInt8} (h : l ≠ []) : linkE l = linkB l := by
  unfold linkE
  simp [h]
theorem idB_zero : idB 0 = true := idB_iff.2 (by omega)
theorem timeB_zero : timeB 0 = true := timeB_iff.2 (by omega)
theorem encOk_hdrE {e : Ent} (h : FieldsOk e) : encOk (hdrE e (recsE e)) = true := by
  rw [hdrE_eq]
  unfold encOk fitsB
  simp only [Bool.and_eq_true]
  refine ⟨?_, ⟨⟨⟨⟨?_, ?_⟩, ?_⟩, ?_⟩, ?_⟩, ?_⟩
  · split
    · assumption
    · exact split_paxB
  · exact idB_iff.2 (by have := h.mode; omega)
  · split
    · assumption
    · exact idB_zero
  · split
    · assumption
    · exact idB_zero
  · exact timeB_iff.2 (by have := h.data; omega)
  · split
    · assumption
    · exact timeB_zero
  · rcases h.kinds with ⟨k, hl, hd⟩ | ⟨k, hl⟩ | ⟨k, hl, hd⟩ | ⟨k, hl, hd⟩
    · have hn : linkE ([] : List UInt8) = true := rfl
      simp [k, hl, hd, typeB, hn]
    · have hn : linkE ([] : List UInt8) = true := rfl
      simp [k, hl, typeB, hn]
    · rw [linkE_ne hl]
      cases hb : linkB e.link <;> simp [k, hd, typeB, hb, link_paxB]
    · rw [linkE_ne hl]
      cases hb : linkB e.link <;> simp [k, hd, typeB, hb, link_paxB]
theorem paxE_some : ∀ (rs : List Rcd) (p : Option Rcd) (out : List UInt8), (∀ r ∈ rs, lineOk r.key r.value = true ∧ (lineB r.key r.value).length ≤ 600) → (match p with | none => rs | some p => p :: rs).Pairwise (fun a b : Rcd => Op.bytesLess a.key b.key = true) → out.length + 600 * rs.length ≤ 65536 → (paxE p out rs).isSome = true
  | [], _, _, _, _, _ => rfl
  | r :: rs, p, out, h1, h2, h3 => by
    obtain ⟨g1, g2⟩ := h1 r (by simp)
    simp only [List.length_cons] at h3
    have hs : paxStep p out r = true := by
      unfold paxStep
      simp only [Bool.and_eq_true, decide_eq_true_eq]
      refine ⟨⟨g1, ?_⟩, by omega⟩
      cases p with
      | none => rfl
      | some p => exact (List.pairwise_cons.1 h2).1 r (by simp)
    unfold paxE
    rw [if_pos hs]
    refine paxE_some rs (some r) _ (fun x hx => h1 x (by simp [hx])) ?_ ?_
    · cases p with
      | none => exact h2
      | some p => exact (List.pairwise_cons.1 h2).2
    · rw [List.length_append]
      omega
theorem lineOk_short {k v : List UInt8} (hk : kwB k = true) (hv : v.length ≤ 400) : lineOk k v = true ∧ (lineB k v).length ≤ 600 := by
  have hkl : k.length ≤ 100 := by
    unfold kwB at hk
    simp only [Bool.and_eq_true, decide_eq_true_eq] at hk
    exact hk.1.2
  have h1 := restP_length (k := k) (v := v)
  have h2 := paxLen_le (rest := ((restP k v).length : Int)) (by omega) (by omega)
  have h3 := lineB_length hkl (v := v) (by omega)
  unfold lineOk
  refine ⟨?_, by omega⟩
  simp only [Bool.and_eq_true, decide_eq_true_eq]
  exact ⟨⟨hk, by omega⟩, by omega⟩
theorem recs_keys (e : Ent) : ((recsE e).map Rcd.key).Pairwise (fun a b => Op.bytesLess a b = true) := by
  unfold recsE rst3 rst4 rst5 rst6 rst7
  cases idB e.gid <;> cases linkE e.link <;> cases timeB e.time <;> cases (splitN e.path).2.2 <;> cases idB e.uid <;> simp only [recIf, if_true, if_false, List.nil_append, List.cons_append, List.map_cons, List.map_nil, Bool.false_eq_true] <;> decide
theorem recs_short {e : Ent} (hf : FieldsOk e) (hp : e.path.length ≤ 400) : ∀ r ∈ recsE e, kwB r.key = true ∧ r.value.length ≤ 400 := by
  have k1 : kwB gidB = true := by decide
  have k2 : kwB linkpathB = true := by decide
  have k3 : kwB mtimeB = true := by decide
  have k4 : kwB pathB = true := by decide
  have k5 : kwB uidB = true := by decide
  have v1 := itoa_le (n := e.gid) (by have := hf.gid; omega) (by have := hf.gid; omega)
  have v3 := itoa_le (n := e.time) (by have := hf.time; omega) (by have := hf.time; omega)
  have v5 := itoa_le (n := e.uid) (by have := hf.uid; omega) (by have := hf.uid; omega)
  have v2 := hf.link
  have key : ∀ (f : Bool) (k v : List UInt8), kwB k = true → v.length ≤ 400 → ∀ r ∈ recIf f k v, kwB r.key = true ∧ r.value.length ≤ 400 := by
    intro f k v hk hv r hr
    unfold recIf at hr
    cases f with
    | true => simp at hr
    | false => simp at hr; subst hr; exact ⟨hk, hv⟩
  intro r hr
  unfold recsE rst3 rst4 rst5 rst6 rst7 at hr
  simp only [List.mem_append] at hr
  rcases hr with hr | hr | hr | hr | hr
  · exact key _ _ _ k1 (by omega) r hr
  · exact key _ _ _ k2 (by omega) r hr
  · exact key _ _ _ k3 (by omega) r hr
  · exact key _ _ _ k4 (by omega) r hr
  · exact key _ _ _ k5 (by omega) r hr
theorem recs_some {e : Ent} (hf : FieldsOk e) (hp : e.path.length ≤ 400) : (paxE none [] (recsE e)).isSome = true := by
  refine paxE_some _ none [] (fun r hr => ?_) ?_ ?_
  · obtain ⟨h1, h2⟩ := recs_short hf hp r hr
    exact lineOk_short h1 h2
  · exact List.pairwise_map.1 (recs_keys e)
  · have := recsE_length e
    simp
    omega
theorem dec_digit {u : Nat} : ∀ c ∈ Lib.decDigits u, 48 ≤ c.toNat ∧ c.toNat ≤ 57 := by
  intro c hc
  rw [Lib.decDigits_eq] at hc
  obtain ⟨t, _, rfl⟩ := List.mem_map.1 hc
  unfold Lib.dg
  have h : (UInt8.ofNat (48 + u / 10 ^ (Lib.nDigits u - 1 - t) % 10)).toNat = 48 + u / 10 ^ (Lib.nDigits u - 1 - t) % 10 := UInt8.toNat_ofNat_of_lt' (by simp [UInt8.size]; omega)
  rw [h]
  omega
theorem itoa_nat (n : Nat) : Lib.itoa n = Lib.decDigits n := by
  unfold Lib.itoa
  rw [if_neg (by omega)]
  rfl
theorem split_num (n : Nat) (hn : n < 201) : (splitN ([112, 97, 120, 47] ++ Lib.itoa n)).2.2 = true := by
  have h1 := itoa_le (n := (n : Int)) (by omega) (by omega)
  have ha : asciiB ([112, 97, 120, 47] ++ Lib.itoa n) = true := by
    unfold asciiB
    rw [List.all_append, itoa_nat]
    simp only [Bool.and_eq_true]
    refine ⟨rfl, List.all_eq_true.2 fun c hc => ?_⟩
    have := dec_digit c hc
    unfold okByte
    simp only [decide_eq_true_eq]
    omega
  unfold splitN
  rw [if_neg (by rw [ha]; simp), if_pos (by simp; omega)]
theorem encOk_hdX {n : Nat} (hn : n < 201) {body : List UInt8} (hb : body.length ≤ 65536) : encOk (hdX n body) = true := by
  unfold encOk hdX fitsB
  simp only [Bool.and_eq_true]
  refine ⟨split_num n hn, ⟨⟨⟨⟨idB_zero, idB_zero⟩, idB_zero⟩, timeB_iff.2 (by omega)⟩, timeB_zero⟩, ?_⟩
  simp
theorem entB_of {e : Ent} (hf : FieldsOk e) (hp : e.path.length ≤ 400) : EntB e := by
  have := hf.gid; have := hf.uid; have := hf.time; have := hf.link
  refine ⟨?_, ?_, ?_, ?_, ?_, ?_, ?_, ?_⟩ <;> omega
theorem pieceOk_of {e : Ent} (hf : FieldsOk e) (hp : e.path.length ≤ 400) {n : Nat} (hn : n < 201) : pieceOk n e := by
  refine ⟨encOk_hdrE hf, fun _ => ⟨recs_some hf hp, encOk_hdX hn ?_⟩⟩
  unfold bodyE
  obtain ⟨o, ho⟩ := Option.isSome_iff_exists.1 (recs_some hf hp)
  rw [ho]
  exact paxE_le _ _ _ _ (by simp) ho
theorem piecesOk_of : ∀ (t : List Ent) (i : Nat), i + t.length ≤ 200 → (∀ e ∈ t, goodB e.path = true ∧ fieldsB e = true) → PiecesOk i t
  | [], _, _, _ => trivial
  | e :: r, i, h, hg => by
    obtain ⟨g1, g2⟩ := hg e (by simp)
    have hf := fields_ok g2
    have hp := good_le g1
    simp only [List.length_cons] at h
    exact ⟨entB_of hf hp, by have := hf.data; omega, pieceOk_of hf hp (by omega), piecesOk_of r (i + 1) (by omega) fun x hx => hg x (by simp [hx])⟩
theorem fieldsB_cp {e : Ent} : fieldsB e.cp = fieldsB e := by
  unfold fieldsB
  show (if e.mode < 0 ∨ 4095 < e.mode then false else _) = _
  have : e.cp.data.l = e.data.l := cp_l
  rw [this]
  rfl
theorem checkT_pieces {t : List Ent} (h : (checkT (t.map Ent.cp)).2 = 0) : PiecesOk 0 t := by
  obtain ⟨h1, h2⟩ := checkT_good h
  rw [List.length_map] at h1
  refine piecesOk_of t 0 (by omega) fun e he => ?_
  have := h2 e.cp (List.mem_map_of_mem he)
  rw [fieldsB_cp] at this
  exact this
end Go.Abs
namespace Go.Abs
open Am
set_option maxRecDepth 10000
set_option linter.unusedSimpArgs false
theorem parse_app : ∀ (a b : List UInt8) (acc u : Nat), Lib.parseUint10 acc a = .ok u → Lib.parseUint10 acc (a ++ b) = Lib.parseUint10 u b
  | [], b, acc, u, h => by
    simp only [Lib.parseUint10] at h
    cases h
    rfl
  | c :: a, b, acc, u, h => by
    simp only [Lib.parseUint10, List.cons_append] at h ⊢
    by_cases c1 : 48 ≤ c.toNat ∧ c.toNat ≤ 57
    · rw [if_pos c1] at h ⊢
      by_cases c2 : 1844674407370955162 ≤ acc
      · rw [if_pos c2] at h; cases h
      rw [if_neg c2] at h ⊢
      by_cases c3 : 18446744073709551616 ≤ acc * 10 + (c.toNat - 48)
      · rw [if_pos c3] at h; cases h
      rw [if_neg c3] at h ⊢
      exact parse_app a b _ u h
    · rw [if_neg c1] at h; cases h
theorem dg_toNat {k : Nat} (h : k < 10) : (UInt8.ofNat (48 + k)).toNat = 48 + k := UInt8.toNat_ofNat_of_lt' (by simp [UInt8.size]; omega)
theorem parse_dec (u : Nat) : u < 9223372036854775808 → Lib.parseUint10 0 (Lib.decDigits u) = .ok u := by
  induction u using Nat.strongRecOn with
  | _ u ih =>
    intro hu
    by_cases h : u < 10
    · rw [Lib.decDigits, dif_pos h]
      simp only [Lib.parseUint10]
      rw [dg_toNat h, if_pos (by omega), if_neg (by omega), if_neg (by omega)]
      simp
    · rw [Lib.decDigits, dif_neg h, parse_app _ _ _ _ (ih (u / 10) (by omega) (by omega))]
      simp only [Lib.parseUint10]
      rw [dg_toNat (by omega), if_pos (by omega), if_neg (by omega), if_neg (by omega)]
      congr 1
      omega
theorem dec_ne (u : Nat) : Lib.decDigits u ≠ [] := by
  intro h
  have := congrArg List.length h
  rw [Lib.decDigits_length] at this
  have := Lib.nDigits_pos u
  simp at *
  omega
theorem atoi_itoa {n : Int} (h1 : -9223372036854775808 ≤ n) (h2 : n ≤ 9223372036854775807) : Lib.atoiAll (Lib.itoa n) = .ok n := by
  unfold Lib.itoa
  by_cases hn : n < 0
  · rw [if_pos hn]
    unfold Lib.atoiAll
    simp only []
    have h45 : (45 : UInt8).toNat = 45 := rfl
    rw [h45, if_pos (by omega)]
    unfold Lib.parseMag
    rw [if_neg (dec_ne _)]
    by_cases hm : n = -9223372036854775808
    · subst hm
      have : Lib.parseUint10 0 (Lib.decDigits (-9223372036854775808 : Int).natAbs) = .ok 9223372036854775808 := by
        have e : (-9223372036854775808 : Int).natAbs = 9223372036854775808 := rfl
        rw [e, Lib.decDigits, dif_neg (by omega), parse_app _ _ _ _ (parse_dec (9223372036854775808 / 10) (by omega))]
        simp only [Lib.parseUint10]
        rw [dg_toNat (by omega), if_pos (by omega), if_neg (by omega), if_neg (by omega)]
      rw [this]
      rfl
    · rw [parse_dec _ (by omega)]
      simp only []
      rw [if_neg (by simp), if_neg (by omega), if_pos trivial]
      congr 1
      omega
  · rw [if_neg hn]
    obtain ⟨c, r, hc⟩ : ∃ c r, Lib.decDigits n.toNat = c :: r := List.exists_cons_of_ne_nil (dec_ne _)
    have hd := dec_digit (u := n.toNat) c (by rw [hc]; simp)
    have hp := parse_dec n.toNat (by omega)
    rw [hc] at hp ⊢
    unfold Lib.atoiAll
    simp only []
    rw [if_neg (by omega)]
    unfold Lib.parseMag
    rw [if_neg (by simp), hp]
    simp only []
    rw [if_neg (by omega), if_neg (by omega), if_neg (by omega)]
    congr 1
    omega
theorem atoiV_itoa {n : Int} (h1 : -9223372036854775808 ≤ n) (h2 : n ≤ 9223372036854775807) : atoiV (Lib.itoa n) = n ∧ atoiOk (Lib.itoa n) = true := by
  unfold atoiV atoiOk
  rw [atoi_itoa h1 h2]
  exact ⟨rfl, rfl⟩
theorem lenF_fix (rest : Int) (hr : 0 ≤ rest) (hr' : rest ≤ 1000000) : ∀ (k : Nat) (n d : Int), n = rest + d → 7 ≤ d + k → 1 ≤ d → d ≤ 7 → d ≤ digs n → lenF rest k n = rest + digs (lenF rest k n)
  | 0, n, d, h1, h2, h3, h4, h5 => by
    have h6 := digs_le7 (a := n) (by omega) (by omega)
    unfold lenF
    omega
  | k + 1, n, d, h1, h2, h3, h4, h5 => by
    have h6 := digs_le7 (a := n) (by omega) (by omega)
    unfold lenF
    by_cases hn : n = rest + digs n
    · rw [if_pos hn]
      exact hn
    · rw [if_neg hn]
      have hm := digs_mono (a := n) (b := rest + digs n) (by omega) (by omega)
      exact lenF_fix rest hr hr' k (rest + digs n) (digs n) rfl (by omega) (by omega) h6 hm
theorem paxLen_fix {rest : Int} (hr : 0 ≤ rest) (hr' : rest ≤ 1000000) : paxLen rest = rest + digs (paxLen rest) :=
  lenF_fix rest hr hr' 6 (rest + 1) 1 rfl (by omega) (by omega) (by omega) (digs_pos (by omega))
theorem lineB_len {k v : List UInt8} (h : (restP k v).length ≤ 1000000) : ((lineB k v).length : Int) = paxLen (restP k v).length := by
  have := paxLen_fix (rest := ((restP k v).length : Int)) (by omega) (by omega)
  unfold lineB
  rw [List.length_append]
  unfold digs at this
  omega
theorem indexByte_app (c : UInt8) : ∀ (a r : List UInt8), (∀ x ∈ a, x ≠ c) → Lib.indexByte (a ++ c :: r) c = a.length
  | [], r, _ => by simp [Lib.indexByte]
  | x :: a, r, h => by
    have hx : x ≠ c := h x (by simp)
    have ih := indexByte_app c a r fun y hy => h y (by simp [hy])
    simp only [List.cons_append, Lib.indexByte]
    have hb : (x == c) = false := by simpa using hx
    rw [hb, ih]
    simp
theorem kw_ne {k : List UInt8} (hk : kwB k = true) : ∀ x ∈ k, x ≠ 61 := by
  unfold kwB at hk
  simp only [Bool.and_eq_true] at hk
  intro x hx
  have := List.all_eq_true.1 hk.2 x hx
  unfold kwByte at this
  simp only [Bool.and_eq_true, decide_eq_true_eq] at this
  rintro rfl
  exact this.2 rfl
theorem firstP_line {k v r : List UInt8} (h : lineOk k v = true) : firstP (lineB k v ++ r) = ((⟨k, v⟩ : Rcd), ((lineB k v).length : Int)) := by
  have hlo := h
  unfold lineOk at h
  simp only [Bool.and_eq_true, decide_eq_true_eq] at h
  obtain ⟨⟨hk, hv⟩, hp⟩ := h
  have hkl : k.length ≤ 100 := by
    unfold kwB at hk
    simp only [Bool.and_eq_true, decide_eq_true_eq] at hk
    exact hk.1.2
  have hrl := restP_length (k := k) (v := v)
  have hN := lineB_len (k := k) (v := v) (by omega)
  have hpl := paxLen_le (rest := ((restP k v).length : Int)) (by omega) (by omega)
  generalize hNN : paxLen ((restP k v).length : Int) = N at *
  have hat := atoiV_itoa (n := N) (by omega) (by omega)
  have hdig : ∀ c ∈ Lib.itoa N, c ≠ 32 := by
    intro c hc
    have e : Lib.itoa N = Lib.decDigits N.toNat := by
      rw [← itoa_nat]
      congr 1
      omega
    rw [e] at hc
    have := dec_digit c hc
    rintro rfl
    simp at this
  have hl : lineB k v = Lib.itoa N ++ restP k v := by unfold lineB; rw [hNN]
  have hlen : (lineB k v).length = (Lib.itoa N).length + (restP k v).length := by rw [hl, List.length_append]
  have hD : fstD (lineB k v ++ r) = Lib.itoa N := by
    unfold fstD
    rw [hl, List.append_assoc, aheadOf_app 32 _ _ hdig]
    simp [restP, aheadOf]
  have hFN : fstN (lineB k v ++ r) = N := by
    unfold fstN
    rw [hD]
    exact hat.1
  have hR : fstR (lineB k v ++ r) = k ++ 61 :: (v ++ [10]) := by
    unfold fstR
    rw [hFN, hD, hl]
    have e : Lib.itoa N ++ restP k v ++ r = (Lib.itoa N ++ [32]) ++ ((k ++ 61 :: (v ++ [10])) ++ r) := by simp [restP]
    rw [e]
    refine dt_mid (by simp) ?_
    simp only [List.length_append, List.length_cons, List.length_nil] at *
    omega
  have hix : Lib.indexByte (k ++ 61 :: (v ++ [10])) 61 = k.length := indexByte_app 61 k _ (kw_ne hk)
  have hc : cutB 61 (k ++ 61 :: (v ++ [10])) = (k, v ++ [10], true) := by
    unfold cutB
    rw [hix, if_pos (by omega)]
    have e : ((k.length : Int)).toNat = k.length := by omega
    rw [e, List.take_left' rfl, show k ++ 61 :: (v ++ [10]) = (k ++ [61]) ++ (v ++ [10]) by simp, List.drop_left' (by simp)]
  have hs : hasSuf (v ++ [10]) [10] = true := by simp [hasSuf]
  have hV : fstV (lineB k v ++ r) = v := by
    unfold fstV cutSuf
    rw [hR, hc]
    simp only []
    rw [if_pos hs]
    simp
  have hK : fstK (lineB k v ++ r) = k := by
    unfold fstK
    rw [hR, hc]
  have hi : 0 ≤ Lib.indexByte (lineB k v ++ r) 32 := by
    have : Lib.indexByte (lineB k v ++ r) 32 = (Lib.itoa N).length := by
      rw [hl]
      have e : Lib.itoa N ++ restP k v ++ r = Lib.itoa N ++ 32 :: ((k ++ [61] ++ v ++ [10]) ++ r) := by simp [restP]
      rw [e]
      exact indexByte_app 32 _ _ hdig
    omega
  have hok1 : fstOk1 (lineB k v ++ r) = true := by
    unfold fstOk1
    rw [hFN, hD, hat.2, List.length_append]
    simp only [Bool.and_eq_true, decide_eq_true_eq]
    refine ⟨⟨⟨hi, trivial⟩, ?_⟩, ?_⟩ <;> omega
  have hok : fstOk (lineB k v ++ r) = true := by
    unfold fstOk
    rw [hok1, hK, hV, hFN, hR, hc]
    simp only [Bool.true_and, Bool.and_eq_true, decide_eq_true_eq]
    refine ⟨⟨hs, hlo⟩, ?_⟩
    rw [List.take_left' (by omega)]
  unfold firstP
  rw [if_pos hok, hK, hV, hFN, hN]
theorem dec_enc : ∀ (rs : List Rcd) (p : Option Rcd) (out o : List UInt8), paxE p out rs = some o → ∃ L, o = out ++ L ∧ ∀ (k : Nat) (acc : List Rcd), L.length ≤ k → decP k p acc L = some (acc ++ rs)
  | [], p, out, o, h => by
    unfold paxE at h
    cases h
    refine ⟨[], by simp, fun k acc _ => ?_⟩
    cases k <;> simp [decP]
  | r :: rs, p, out, o, h => by
    unfold paxE at h
    by_cases hs : paxStep p out r = true
    · rw [if_pos hs] at h
      obtain ⟨L, h1, h2⟩ := dec_enc rs _ _ _ h
      unfold paxStep at hs
      simp only [Bool.and_eq_true, decide_eq_true_eq] at hs
      obtain ⟨⟨s1, s2⟩, s3⟩ := hs
      have hpos := lineB_pos (k := r.key) (v := r.value)
      refine ⟨lineB r.key r.value ++ L, by rw [h1, List.append_assoc], fun k acc hk => ?_⟩
      rw [List.length_append] at hk
      obtain ⟨k, rfl⟩ : ∃ j, k = j + 1 := ⟨k - 1, by omega⟩
      unfold decP
      have hne : lineB r.key r.value ++ L ≠ [] := by
        intro hh
        have := congrArg List.length hh
        rw [List.length_append] at this
        simp at this
        rw [this.1] at hpos
        cases hpos
      rw [if_neg hne, firstP_line s1]
      simp only []
      have ha : aftB p ⟨r.key, r.value⟩ = true := by
        cases p with
        | none => rfl
        | some p => exact s2
      rw [if_neg (fun h => by rcases h with h | h; (omega); (rw [ha] at h; cases h))]
      have e : (((lineB r.key r.value).length : Int)).toNat = (lineB r.key r.value).length := by omega
      rw [e, List.drop_left' rfl, h2 k _ (by omega)]
      simp
    · rw [if_neg hs] at h
      cases h
/-- THERE AND BACK: records -/
theorem paxD_paxE {rs : List Rcd} {o : List UInt8} (h : paxE none [] rs = some o) : paxD o = some rs := by
  have hl := paxE_le _ _ _ _ (by simp) h
  obtain ⟨L, h1, h2⟩ := dec_enc rs none [] o h
  simp only [List.nil_append] at h1
  subst h1
  unfold paxD
  rw [if_neg (by omega), h2 _ [] (Nat.le_refl _)]
  simp
end Go.Abs
namespace Go.Abs
open Am Lib
set_option maxRecDepth 10000
set_option linter.unusedSimpArgs false
theorem lenF_below (rest m : Int) (h0 : 0 ≤ rest) (hm : m = rest + digs m) : ∀ (k : Nat) (n : Int), 0 ≤ n → n ≤ m → lenF rest k n ≤ m
  | 0, n, _, h => h
  | k + 1, n, hn, h => by
    have h1 := digs_mono hn h
    have h2 := digs_pos hn
    unfold lenF
    split
    · exact h
    · exact lenF_below rest m h0 hm k _ (by omega) (by omega)
theorem paxLen_least {rest d : Int} (h0 : 0 ≤ rest) (h1 : 1 ≤ d) (h : digs (rest + d) = d) : paxLen rest ≤ rest + d :=
  lenF_below rest (rest + d) h0 (by omega) 6 (rest + 1) (by omega) (by omega)
theorem digs_99999 : digs 99999 = 5 := by
  have h2 : Lib.nDigits 99999 = 5 := Lib.nDigits_unique 4 99999 (by decide) (by decide)
  rw [digs, itoa_length (by decide)]
  have e : (99999 : Int).toNat = 99999 := rfl
  rw [e, h2]
  rfl
/-- the line, or none -/
def lineV (s : List UInt8) : AVal := if paxLen s.length ≤ 65536 then .tuple [.str (Lib.itoa (paxLen s.length) ++ s), .int .i64 0] else .tuple [.str [], .int .i64 15]
theorem h138 (s : List UInt8) (hl : s.length ≤ 66000) (r0 : AVal) (hr : r0 = lineV s) : ∀ (n : Nat) (d : Int), d + n = 6 → 1 ≤ d → (∀ d' : Int, 1 ≤ d' → d' < d → digs (s.length + d') = d' → 65536 < s.length + d') →
    HD AA 0 [4, 5, 6, 7] l138_0 ⟨[.junk, .junk, .junk, .junk, .str [], .int .i64 0, .str s, .int .i64 d, .junk, .junk, .junk, .junk, .junk, .junk, .junk, .junk, .junk, .junk, .junk, .junk, .junk, .junk, .junk, .junk, .junk, .junk, .junk, .junk, .junk, .junk, .junk, .junk, .junk, .junk, .junk, .junk, .junk, .junk, .junk, .junk, .junk, .junk, .junk, .junk, .junk, .junk], [], 0⟩ [.blk 0, .code r138_0] (Fin [(4, none), (5, none)] 0 r0 [])
  | 0, d, h1, h2, h3 => by
    have h4 := paxLen_fix (rest := s.length) (by omega) (by omega)
    have h5 := paxLen_le (rest := s.length) (by omega) (by omega)
    have h6 : ¬ paxLen s.length ≤ 65536 := by
      intro h7
      have h8 := digs_mono (a := paxLen s.length) (b := 99999) (by omega) (by omega)
      rw [digs_99999] at h8
      have h9 := h3 (digs (paxLen s.length)) (by omega) (by omega) (by rw [← h4])
      omega
    unfold lineV at hr
    rw [if_neg h6] at hr
    subst hr
    refine hd_of (by unfold l138_0; rfl) ?_
    have gg := trivial; repeat' first | simp (maxSteps := 2000000) (disch := omega) only [gg, r138_0, go_sem] | (refine br ?_ ?_ <;> intro gg <;> try (exfalso; omega)) | (refine And.intro ?_ ?_; focus omega) | omega
  | n + 1, d, h1, h2, h3 => by
    have h4 := paxLen_fix (rest := s.length) (by omega) (by omega)
    have h5 := paxLen_le (rest := s.length) (by omega) (by omega)
    have hs := s47 (s.length + d) (by omega) (by omega)
    have h6 := digs_le7 (a := s.length + d) (by omega) (by omega)
    have h7 : ((Lib.itoa (s.length + d)).length : Int) = digs (s.length + d) := rfl
    by_cases h8 : digs (s.length + d) = d ∧ s.length + d ≤ 65536
    · have h9 := paxLen_least (rest := s.length) (by omega) h2 h8.1
      have h10 : paxLen s.length = s.length + d := by
        rcases Int.lt_or_le (digs (paxLen s.length)) d with h11 | h11
        · have h12 := digs_pos (n := paxLen s.length) (by omega)
          have h13 := h3 (digs (paxLen s.length)) (by omega) h11 (by rw [← h4])
          omega
        · omega
      unfold lineV at hr
      rw [h10, if_pos h8.2] at hr
      subst hr
      obtain ⟨h8, h14⟩ := h8
      generalize hT : Lib.itoa (s.length + d) = T at *
      have h7' : (T.length : Int) = d := by omega
      refine hd_of (by unfold l138_0; rfl) ?_
      have gg := trivial; repeat' first | simp (maxSteps := 2000000) (disch := omega) only [gg, hs, h7', go_sem] | (refine br ?_ ?_ <;> intro gg <;> try (exfalso; omega)) | (refine And.intro ?_ ?_; focus omega) | omega
    · have ih := h138 s hl r0 hr n (d + 1) (by omega) (by omega) (fun d' k1 k2 k3 => by
        rcases Int.lt_or_le d' d with k4 | k4
        · exact h3 d' k1 k4 k3
        · have : d' = d := by omega
          subst this
          omega)
      generalize hT : Lib.itoa (s.length + d) = T at *
      refine hd_of (by unfold l138_0; rfl) ?_
      have gg := trivial; repeat' first | simp (maxSteps := 2000000) (disch := omega) only [gg, hs, lp_head, go_sem] | (refine br ?_ ?_ <;> intro gg <;> try (exfalso; omega)) | (refine And.intro ?_ ?_; focus omega) | omega
theorem s138 (k v : List UInt8) (hk : k.length ≤ 1000000) (hv : v.length ≤ 1000000) : callT AA 138 [.str k, .str v] [] = some (if lineOk k v = true then .tuple [.str (lineB k v), .int .i64 0] else .tuple [.str [], .int .i64 15], []) := by
  have h1 := s181 k hk
  have hl := restP_length (k := k) (v := v)
  refine enter fn138 np138 rfl ?_
  cases h2 : kwB k with
  | false =>
    have e : (if lineOk k v = true then AVal.tuple [.str (lineB k v), .int .i64 0] else .tuple [.str [], .int .i64 15]) = .tuple [.str [], .int .i64 15] := if_neg (by simp [lineOk, h2])
    rw [e]
    rw [h2] at h1
    have gg := trivial; repeat' first | simp (maxSteps := 2000000) (disch := omega) only [gg, b138, h1, go_sem] | (refine br ?_ ?_ <;> intro gg <;> try (exfalso; omega)) | (refine And.intro ?_ ?_; focus omega) | omega
  | true =>
    have h3 : k.length ≤ 100 := by
      simp only [kwB, Bool.and_eq_true, decide_eq_true_eq] at h2
      exact h2.1.2
    rw [h2] at h1
    by_cases h4 : v.length ≤ 65536
    · have e : (if lineOk k v = true then AVal.tuple [.str (lineB k v), .int .i64 0] else .tuple [.str [], .int .i64 15]) = lineV (restP k v) := by
        unfold lineV lineOk lineB
        simp [h2, h4]
      rw [e]
      have hh := h138 (restP k v) (by omega) _ rfl 5 1 (by omega) (by omega) (fun d' k1 k2 => by omega)
      generalize hR : restP k v = R at *
      generalize lineV R = V at *
      have gg := trivial; repeat' first | simp (maxSteps := 2000000) (disch := omega) only [gg, b138, h1, restP_eq, hR, lp_head, go_sem] | (refine br ?_ ?_ <;> intro gg <;> try (exfalso; omega)) | (refine And.intro ?_ ?_; focus omega) | omega
    · have e : (if lineOk k v = true then AVal.tuple [.str (lineB k v), .int .i64 0] else .tuple [.str [], .int .i64 15]) = .tuple [.str [], .int .i64 15] := if_neg (by simp [lineOk, h4])
      rw [e]
      have gg := trivial; repeat' first | simp (maxSteps := 2000000) (disch := omega) only [gg, b138, h1, go_sem] | (refine br ?_ ?_ <;> intro gg <;> try (exfalso; omega)) | (refine And.intro ?_ ?_; focus omega) | omega
end Go.Abs
namespace Go.Abs
open Am Lib
set_option maxRecDepth 10000
set_option linter.unusedSimpArgs false
def kindF (p : List UInt8) : List Ent → Int
  | [] => 0
  | e :: r => if e.path = p then e.kind else kindF p r
set_option maxHeartbeats 2000000 in
theorem h79 (c tmp : Bool) (t : List Ent) (ht : t.length ≤ 1000000) (p : List UInt8) (n : Int) (hn : n ≤ t.length) (r0 : Int) : ∀ (rest done : List Ent) (i : Int), t = done ++ rest → i = done.length → i ≤ n → r0 = kindF p (rest.take (n - i).toNat) →
    HD AA 0 [0, 1, 2, 6, 7] l79_0 ⟨[.view 8 (t.map Ent.av) c tmp, .int .i64 n, .str p, .junk, .junk, .junk, .int .i64 0, .int .i64 i, .junk, .junk, .junk, .junk, .junk, .junk, .junk, .junk, .junk, .junk, .junk, .junk, .junk, .junk, .junk, .junk, .junk], [], 0⟩ [.blk 0, .code r79_0] (Fin [(6, none)] 0 (.int .i64 r0) [])
  | [], done, i, h1, h2, h3, h5 => by
    have hl : t.length = done.length := by rw [h1]; simp
    have hr : r0 = 0 := by rw [h5]; simp [kindF]
    subst hr
    refine hd_of (by unfold l79_0; rfl) ?_
    have gg := trivial; repeat' first | simp (maxSteps := 2000000) (disch := omega) only [gg, r79_0, go_sem] | (refine br ?_ ?_ <;> intro gg <;> try (exfalso; omega)) | (refine And.intro ?_ ?_; focus omega) | omega
  | e :: rest, done, i, h1, h2, h3, h5 => by
    have hl : t.length = done.length + (rest.length + 1) := by rw [h1]; simp
    by_cases h6 : i = n
    · have hr : r0 = 0 := by rw [h5, h6]; simp [kindF]
      subst hr
      refine hd_of (by unfold l79_0; rfl) ?_
      have gg := trivial; repeat' first | simp (maxSteps := 2000000) (disch := omega) only [gg, r79_0, go_sem] | (refine br ?_ ?_ <;> intro gg <;> try (exfalso; omega)) | (refine And.intro ?_ ?_; focus omega) | omega
    · have hx : t[i.toNat]? = some e := by
        rw [show i.toNat = done.length by omega, h1, List.getElem?_append_right (by omega)]
        simp
      have e1 : (n - i).toNat = (n - (i + 1)).toNat + 1 := by omega
      rw [e1, List.take_succ_cons, kindF] at h5
      by_cases h7 : e.path = p
      · rw [if_pos h7] at h5
        subst h5
        refine hd_of (by unfold l79_0; rfl) ?_
        have gg := trivial; repeat' first | simp (maxSteps := 2000000) (disch := omega) only [gg, hx, h7, go_sem] | (refine br ?_ ?_ <;> intro gg <;> try (exfalso; omega)) | (refine And.intro ?_ ?_; focus omega) | omega
      · rw [if_neg h7] at h5
        have ih := h79 c tmp t ht p n hn r0 rest (done ++ [e]) (i + 1) (by rw [h1]; simp) (by simp; omega) (by omega) h5
        refine hd_of (by unfold l79_0; rfl) ?_
        have gg := trivial; repeat' first | simp (maxSteps := 2000000) (disch := omega) only [gg, hx, h7, lp_head, go_sem] | (refine br ?_ ?_ <;> intro gg <;> try (exfalso; omega)) | (refine And.intro ?_ ?_; focus omega) | omega
theorem s79 (c tmp : Bool) (t : List Ent) (ht : t.length ≤ 1000000) (p : List UInt8) (n : Int) (h0 : 0 ≤ n) (hn : n ≤ t.length) : callT AA 79 [.view 8 (t.map Ent.av) c tmp, .int .i64 n, .str p] [] = some (.int .i64 (kindF p (t.take n.toNat)), []) := by
  have hh := h79 c tmp t ht p n hn (kindF p (t.take n.toNat)) t [] 0 rfl rfl h0 (by rw [show (n - 0).toNat = n.toNat by omega])
  refine enter fn79 np79 rfl ?_
  have gg := trivial; repeat' first | simp (maxSteps := 2000000) (disch := omega) only [gg, b79, lp_head, go_sem] | (refine br ?_ ?_ <;> intro gg <;> try (exfalso; omega)) | (refine And.intro ?_ ?_; focus omega) | omega
theorem bl_trans : ∀ a b c : List UInt8, Op.bytesLess a b = true → Op.bytesLess b c = true → Op.bytesLess a c = true
  | _, _, [], _, h => by simp [Op.bytesLess] at h
  | _, [], _ :: _, h, _ => by simp [Op.bytesLess] at h
  | [], _ :: _, _ :: _, _, _ => by simp [Op.bytesLess]
  | x :: a, y :: b, z :: c, h1, h2 => by
    have ih := bl_trans a b c
    simp only [Op.bytesLess, Bool.or_eq_true, decide_eq_true_eq, Bool.and_eq_true, beq_iff_eq] at h1 h2 ⊢
    rcases h1 with h1 | ⟨h1, h3⟩
    · rcases h2 with h2 | ⟨h2, h4⟩
      · exact Or.inl (UInt8.lt_trans h1 h2)
      · subst h2; exact Or.inl h1
    · subst h1
      rcases h2 with h2 | ⟨h2, h4⟩
      · exact Or.inl h2
      · exact Or.inr ⟨h2, ih h3 h4⟩
theorem cmp_trans (a b c : List UInt8) (h1 : compareBytes a b = -1) (h2 : compareBytes b c = -1) : compareBytes a c = -1 := by
  have h3 : Op.bytesLess a b = true := by
    rcases cmp_cases a b with ⟨e1, e2, _⟩ | ⟨e1, _⟩ | ⟨e1, _⟩
    · exact e2
    all_goals omega
  have h4 : Op.bytesLess b c = true := by
    rcases cmp_cases b c with ⟨e1, e2, _⟩ | ⟨e1, _⟩ | ⟨e1, _⟩
    · exact e2
    all_goals omega
  have h5 := bl_trans a b c h3 h4
  rcases cmp_cases a c with ⟨e1, _⟩ | ⟨_, _, e2, _⟩ | ⟨_, e2, _⟩
  · exact e1
  · rw [h5] at e2; simp at e2
  · rw [h5] at e2; simp at e2
theorem cmp_self (a : List UInt8) : compareBytes a a = 0 := by
  rcases cmp_cases a a with h | h | h <;> simp_all
theorem cmp_zero {a b : List UInt8} (h : compareBytes a b = 0) : a = b := by
  rcases cmp_cases a b with h1 | h1 | h1 <;> simp_all
theorem cmpR_self : ∀ a : List (List UInt8), cmpR a a = 0
  | [] => rfl
  | x :: a => by rw [cmpR, cmp_self, if_neg (by omega), cmpR_self a]
theorem cmpR_range : ∀ a b : List (List UInt8), cmpR a b = -1 ∨ cmpR a b = 0 ∨ cmpR a b = 1
  | [], [] => by simp [cmpR]
  | [], _ :: _ => by simp [cmpR]
  | _ :: _, [] => by simp [cmpR]
  | x :: a, y :: b => by
    have ih := cmpR_range a b
    rw [cmpR]
    split
    · rcases cmp_cases x y with h | h | h <;> omega
    · exact ih
theorem cmpR_trans : ∀ a b c : List (List UInt8), cmpR a b = -1 → cmpR b c = -1 → cmpR a c = -1
  | _, _ :: _, [], _, h => by simp [cmpR] at h
  | _, [], [], _, h => by simp [cmpR] at h
  | _ :: _, [], _ :: _, h, _ => by simp [cmpR] at h
  | [], _, _ :: _, _, _ => by simp [cmpR]
  | x :: a, y :: b, z :: c, h1, h2 => by
    have ih := cmpR_trans a b c
    rw [cmpR] at h1 h2 ⊢
    by_cases g1 : compareBytes x y = 0
    · have e := cmp_zero g1
      subst e
      rw [g1, if_neg (by omega)] at h1
      by_cases g2 : compareBytes x z = 0
      · rw [g2, if_neg (by omega)] at h2 ⊢
        exact ih h1 h2
      · rw [if_pos g2] at h2 ⊢
        exact h2
    · rw [if_pos g1] at h1
      by_cases g2 : compareBytes y z = 0
      · have e := cmp_zero g2
        subst e
        rw [if_pos (by omega)]
        exact h1
      · rw [if_pos g2] at h2
        have h3 := cmp_trans x y z h1 h2
        rw [if_pos (by omega)]
        exact h3
theorem path_eq (a b : List UInt8) : cmpPath a b = cmpR (splitOn 47 a) (splitOn 47 b) := (cmpR_parts _ _ (splitOn_ne 47 a) (splitOn_ne 47 b)).symm
theorem path_self (a : List UInt8) : cmpPath a a = 0 := by rw [path_eq, cmpR_self]
theorem path_trans {a b c : List UInt8} (h1 : cmpPath a b = -1) (h2 : cmpPath b c = -1) : cmpPath a c = -1 := by
  rw [path_eq] at *
  exact cmpR_trans _ _ _ h1 h2
theorem path_range (a b : List UInt8) : cmpPath a b = -1 ∨ cmpPath a b = 0 ∨ cmpPath a b = 1 := by
  rw [path_eq]
  exact cmpR_range _ _
end Go.Abs
namespace Go.Abs
open Am Lib
set_option maxRecDepth 10000
set_option linter.unusedSimpArgs false
theorem bl_total (a b : List UInt8) : (Op.bytesLess b a || decide (b = a)) = !Op.bytesLess a b := by
  rcases cmp_cases a b with ⟨_, h1, h2⟩ | ⟨_, h0, h1, h2⟩ | ⟨_, h1, h2⟩
  · rw [h1, h2]
    simp
    intro h
    subst h
    rw [h1] at h2
    cases h2
  · subst h0
    simp [h1]
  · rw [h1, h2]
    rfl
def paxRV (x : Option (List UInt8)) : AVal := match x with
  | none => .tuple [.lit (.slice none 0 0), .int .i64 15]
  | some o => .tuple [.own 0 1 0 o.length false, .int .i64 0]
theorem h94 (c t : Bool) (rs : List Rcd) (hs : rs.length ≤ 1000000) (hb : ∀ r ∈ rs, RcdOk r) (r0 : Option (List UInt8)) : ∀ (rest done : List Rcd) (out : List UInt8) (i : Int) (q : Nat), rs = done ++ rest → i = done.length → q = out.length → out.length ≤ 65536 → r0 = paxE done.getLast? out rest →
    HD AA 0 [0, 2, 3, 4, 5] l94_0 ⟨[.view 2 (rs.map Rcd.av) c t, .junk, .lit (.slice none 0 0), .int .i64 0, .own 0 1 0 q false, .int .i64 i, .junk, .junk, .junk, .junk, .junk, .junk, .junk, .junk, .junk, .junk, .junk, .junk, .junk, .junk, .junk, .junk, .junk, .junk, .junk, .junk, .junk, .junk, .junk, .junk, .junk, .junk, .junk, .junk, .junk, .junk, .junk, .junk, .junk, .junk, .junk, .junk, .junk, .junk, .junk, .junk, .junk, .junk, .junk, .junk, .junk, .junk, .junk, .junk, .junk, .junk], [(0, .row (out.map .byte) 1)], 1⟩ [.blk 0, .code r94_0] (Fin [(2, none), (3, none)] 0 (paxRV r0) (paxH r0))
  | [], done, out, i, q, h1, h2, h4, h5, h6 => by
    have hl : i = rs.length := by rw [h1]; simp; omega
    have e : (out.map AVal.byte).take q = out.map .byte := List.take_of_length_le (by simp; omega)
    refine hd_of (by unfold l94_0; rfl) ?_
    simp only [paxE] at h6
    rw [h6]
    unfold paxRV paxH
    have gg := trivial; repeat' first | simp (maxSteps := 2000000) (disch := omega) only [gg, r94_0, go_sem] | (refine br ?_ ?_ <;> intro gg <;> try (exfalso; omega)) | (refine And.intro ?_ ?_; focus omega) | omega
    simp [h4]
  | r :: rest, done, out, i, q, h1, h2, h4, h5, h6 => by
    have hg0 : rs[i.toNat]? = some r := by
      rw [h1, show i.toNat = done.length by omega]
      simp
    have hl : i.toNat < rs.length := by rw [h1]; simp; omega
    obtain ⟨hk, hv⟩ := hb r (by simp [h1])
    have hc := s138 r.key r.value hk hv
    have e : (out.map AVal.byte).take q = out.map .byte := List.take_of_length_le (by simp; omega)
    unfold paxE at h6
    cases f1 : lineOk r.key r.value with
    | false =>
      rw [if_neg (by simp [paxStep, f1])] at h6
      rw [f1] at hc
      rw [h6]
      unfold paxRV paxH
      refine hd_of (by unfold l94_0; rfl) ?_
      have gg := trivial; repeat' first | simp (maxSteps := 2000000) (disch := omega) only [gg, hc, hg0, lp_head, go_sem] | (refine br ?_ ?_ <;> intro gg <;> try (exfalso; omega)) | (refine And.intro ?_ ?_; focus omega) | omega
    | true =>
      have hll := lineB_length (k := r.key) (v := r.value) (by simp [lineOk, kwB] at f1; omega) (by simp [lineOk] at f1; omega)
      rw [f1] at hc
      generalize hL : lineB r.key r.value = L at *
      have ih := h94 c t rs hs hb r0 rest (done ++ [r]) (out ++ L) (i + 1) (q + L.length) (by simp [h1]) (by simp; omega) (by simp; omega)
      rw [List.getLast?_append] at ih
      cases hd : done.getLast? with
      | none =>
        have hn : done = [] := List.getLast?_eq_none_iff.1 hd
        have hi : i = 0 := by rw [hn] at h2; simpa using h2
        rw [hd] at h6
        by_cases f3 : out.length + L.length ≤ 65536
        · rw [if_pos (by simp [paxStep, f1, hL, f3])] at h6
          have ih := ih (by simp; omega) (by simpa using h6)
          refine hd_of (by unfold l94_0; rfl) ?_
          have gg := trivial; repeat' first | simp (maxSteps := 2000000) (disch := omega) only [gg, hc, hg0, e, lp_head, ← List.map_append, go_sem] | (refine br ?_ ?_ <;> intro gg <;> try (exfalso; omega)) | (refine And.intro ?_ ?_; focus omega) | omega
        · rw [if_neg (by simp [paxStep, f1, hL]; omega)] at h6
          clear ih
          rw [h6]
          unfold paxRV paxH
          refine hd_of (by unfold l94_0; rfl) ?_
          have gg := trivial; repeat' first | simp (maxSteps := 2000000) (disch := omega) only [gg, hc, hg0, lp_head, go_sem] | (refine br ?_ ?_ <;> intro gg <;> try (exfalso; omega)) | (refine And.intro ?_ ?_; focus omega) | omega
      | some p =>
        have hne : done.length ≠ 0 := by
          intro h0
          rw [List.length_eq_zero_iff.1 h0] at hd
          cases hd
        have hp0 : rs[(i - 1).toNat]? = some p := by
          rw [List.getLast?_eq_getElem?] at hd
          rw [h1, show (i - 1).toNat = done.length - 1 by omega, List.getElem?_append_left (by omega), hd]
        have hl' : (i - 1).toNat < rs.length := by omega
        have ht := bl_total p.key r.key
        rw [hd] at h6
        cases f2 : Op.bytesLess p.key r.key with
        | true =>
          rw [f2] at ht
          by_cases f3 : out.length + L.length ≤ 65536
          · rw [if_pos (by simp [paxStep, f1, f2, hL, f3])] at h6
            have ih := ih (by simp; omega) (by simpa using h6)
            refine hd_of (by unfold l94_0; rfl) ?_
            have gg := trivial; repeat' first | simp (maxSteps := 2000000) (disch := omega) only [gg, hc, hg0, hp0, ht, e, lp_head, ← List.map_append, go_sem] | (refine br ?_ ?_ <;> intro gg <;> try (exfalso; omega)) | (refine And.intro ?_ ?_; focus omega) | omega
          · rw [if_neg (by simp [paxStep, f1, hL]; omega)] at h6
            clear ih
            rw [h6]
            unfold paxRV paxH
            refine hd_of (by unfold l94_0; rfl) ?_
            have gg := trivial; repeat' first | simp (maxSteps := 2000000) (disch := omega) only [gg, hc, hg0, hp0, ht, lp_head, go_sem] | (refine br ?_ ?_ <;> intro gg <;> try (exfalso; omega)) | (refine And.intro ?_ ?_; focus omega) | omega
        | false =>
          rw [f2] at ht
          rw [if_neg (by simp [paxStep, f2])] at h6
          clear ih
          rw [h6]
          unfold paxRV paxH
          refine hd_of (by unfold l94_0; rfl) ?_
          have gg := trivial; repeat' first | simp (maxSteps := 2000000) (disch := omega) only [gg, hc, hg0, hp0, ht, lp_head, go_sem] | (refine br ?_ ?_ <;> intro gg <;> try (exfalso; omega)) | (refine And.intro ?_ ?_; focus omega) | omega
theorem s94 (c t : Bool) (rs : List Rcd) (hs : rs.length ≤ 1000000) (hb : ∀ r ∈ rs, RcdOk r) : callT AA 94 [.view 2 (rs.map Rcd.av) c t] [] = some (paxRV (paxE none [] rs), paxH (paxE none [] rs)) := by
  have hh := h94 c t rs hs hb (paxE none [] rs) rs [] [] 0 0 rfl rfl rfl (by simp) rfl
  simp only [List.map_nil] at hh
  generalize paxE none [] rs = R at *
  refine enter fn94 np94 rfl ?_
  have gg := trivial; repeat' first | simp (maxSteps := 2000000) (disch := omega) only [gg, b94, lp_head, go_sem] | (refine br ?_ ?_ <;> intro gg <;> try (exfalso; omega)) | (refine And.intro ?_ ?_; focus omega) | omega
end Go.Abs
namespace Go.Abs
open Am Lib
set_option maxRecDepth 10000
set_option linter.unusedSimpArgs false
theorem h141 (d : Int) (r0 : List UInt8) : ∀ (k : Nat) (n i : Int) (s : List UInt8), i + k = d → 0 ≤ i → d ≤ 100 → 0 ≤ n → n ≤ 9223372036854775807 → s.length + k ≤ 200 → r0 = octD k n ++ s →
    HD AA 0 [0, 1, 4, 5, 6] l141_0 ⟨[.int .i64 n, .int .i64 d, .junk, .junk, .str [], .str s, .int .i64 i, .junk, .junk, .junk, .junk, .junk, .junk, .junk, .junk, .junk, .junk, .junk, .junk, .junk, .junk, .junk, .junk], [], 0⟩ [.blk 0, .code r141_0] (Fin [(4, none)] 0 (.str r0) [])
  | 0, n, i, s, h1, h2, h3, h4, h5, h6, h7 => by
    have hr : r0 = s := h7
    subst hr
    refine hd_of (by unfold l141_0; rfl) ?_
    have gg := trivial; repeat' first | simp (maxSteps := 2000000) (disch := omega) only [gg, r141_0, go_sem] | (refine br ?_ ?_ <;> intro gg <;> try (exfalso; omega)) | (refine And.intro ?_ ?_; focus omega) | omega
  | k + 1, n, i, s, h1, h2, h3, h4, h5, h6, h7 => by
    have e1 : n.tmod 8 = n % 8 := Int.tmod_eq_emod_of_nonneg h4
    have e2 : n.tdiv 8 = n / 8 := Int.tdiv_eq_ediv_of_nonneg h4
    have ih := h141 d r0 k (n / 8) (i + 1) (UInt8.ofNat (48 + n % 8).toNat :: s) (by omega) (by omega) h3 (by omega) (by omega) (by simp; omega) (by
      rw [h7]
      simp [octD])
    refine hd_of (by unfold l141_0; rfl) ?_
    have gg := trivial; repeat' first | simp (maxSteps := 2000000) (disch := omega) only [gg, e1, e2, bytesOf_one, lp_head, go_sem] | (refine br ?_ ?_ <;> intro gg <;> try (exfalso; omega)) | (refine And.intro ?_ ?_; focus omega) | omega
theorem s141 (n d : Int) (k : Nat) (hd : d = k) (hk : k ≤ 100) (h0 : 0 ≤ n) (h1 : n ≤ 9223372036854775807) : callT AA 141 [.int .i64 n, .int .i64 d] [] = some (.str (octD k n), []) := by
  have hh := h141 d (octD k n) k n 0 [] (by omega) (by omega) (by omega) h0 h1 (by simp; omega) (by simp)
  refine enter fn141 np141 rfl ?_
  have gg := trivial; repeat' first | simp (maxSteps := 2000000) (disch := omega) only [gg, b141, lp_head, go_sem] | (refine br ?_ ?_ <;> intro gg <;> try (exfalso; omega)) | (refine And.intro ?_ ?_; focus omega) | omega
theorem s139 (h : Hd) (hp : h.path.length ≤ 1000000) (hl : h.link.length ≤ 1000000) (hok : encOk h = true) : callT AA 139 [h.av] [] = some (.bool true, []) := by
  have h1 := s57 h.path hp
  have h2 := s59 h.link hl
  have m1 := s58 h.mode
  have m2 := s58 h.uid
  have m3 := s58 h.gid
  have m4 := s60 h.size
  have m5 := s60 h.time
  unfold encOk at hok
  simp only [Bool.and_eq_true] at hok
  obtain ⟨k1, k2⟩ := hok
  unfold fitsB at k2
  simp only [Bool.and_eq_true] at k2
  obtain ⟨⟨⟨⟨⟨f1, f2⟩, f3⟩, f4⟩, f5⟩, f6⟩ := k2
  rw [k1] at h1
  rw [f1] at m1
  rw [f2] at m2
  rw [f3] at m3
  rw [f4] at m4
  rw [f5] at m5
  obtain ⟨p, md, u, g, sz, tm, ty, lk⟩ := h
  simp only [Hd.av] at *
  refine enter fn139 np139 rfl ?_
  generalize hz : (ty.toNat : Int) = z at *
  by_cases t1 : ty = 49 ∨ ty = 50
  · rw [if_pos t1] at f6
    simp only [Bool.and_eq_true, decide_eq_true_eq] at f6
    rw [f6.1] at h2
    have e0 : sz = 0 := f6.2
    subst e0
    have hz2 : z = 49 ∨ z = 50 := by
      rcases t1 with t1 | t1
      · left; rw [← hz, t1]; rfl
      · right; rw [← hz, t1]; rfl
    clear hz f6
    rcases hz2 with hz2 | hz2
    · subst hz2
      have gg := trivial; repeat' first | simp (maxSteps := 2000000) (disch := omega) only [gg, b139, h1, h2, m1, m2, m3, m4, m5, go_sem] | (refine br ?_ ?_ <;> intro gg <;> try (exfalso; omega)) | (refine And.intro ?_ ?_; focus omega) | omega
    · subst hz2
      have gg := trivial; repeat' first | simp (maxSteps := 2000000) (disch := omega) only [gg, b139, h1, h2, m1, m2, m3, m4, m5, go_sem] | (refine br ?_ ?_ <;> intro gg <;> try (exfalso; omega)) | (refine And.intro ?_ ?_; focus omega) | omega
  · rw [if_neg t1] at f6
    by_cases t2 : ty = 53
    · rw [if_pos t2] at f6
      simp only [Bool.and_eq_true, decide_eq_true_eq] at f6
      obtain ⟨f6, f7⟩ := f6
      subst f6
      subst f7
      have hz2 : z = 53 := by rw [← hz, t2]; rfl
      subst hz2
      have gg := trivial; repeat' first | simp (maxSteps := 2000000) (disch := omega) only [gg, b139, h1, m1, m2, m3, m4, m5, go_sem] | (refine br ?_ ?_ <;> intro gg <;> try (exfalso; omega)) | (refine And.intro ?_ ?_; focus omega) | omega
    · rw [if_neg t2] at f6
      by_cases t3 : ty = 48 ∨ ty = 120
      · rw [if_pos t3] at f6
        have f7 : lk = [] := of_decide_eq_true f6
        subst f7
        have hz2 : z = 48 ∨ z = 120 := by
          rcases t3 with t3 | t3
          · left; rw [← hz, t3]; rfl
          · right; rw [← hz, t3]; rfl
        clear hz f6
        rcases hz2 with hz2 | hz2
        · subst hz2
          have gg := trivial; repeat' first | simp (maxSteps := 2000000) (disch := omega) only [gg, b139, h1, m1, m2, m3, m4, m5, go_sem] | (refine br ?_ ?_ <;> intro gg <;> try (exfalso; omega)) | (refine And.intro ?_ ?_; focus omega) | omega
        · subst hz2
          have gg := trivial; repeat' first | simp (maxSteps := 2000000) (disch := omega) only [gg, b139, h1, m1, m2, m3, m4, m5, go_sem] | (refine br ?_ ?_ <;> intro gg <;> try (exfalso; omega)) | (refine And.intro ?_ ?_; focus omega) | omega
      · rw [if_neg t3] at f6
        cases f6
theorem map_snoc (l : List UInt8) : l.map AVal.byte ++ [.int .u8 0] = (l ++ [0]).map .byte := by simp [AVal.byte]
theorem h182n (N : Nat) (n : Int) (hN : n = N) (hN2 : N ≤ 100000) (r0 : List UInt8) : ∀ (k : Nat) (out : List UInt8) (i : Int) (q : Nat), 0 ≤ i → i + k = N → q = out.length → out.length ≤ 2000000 - k → r0 = out ++ zs k →
    HD AA 0 [0, 2, 6, 7] l182_0 ⟨[.own 0 1 0 q false, .junk, .int .i64 n, .junk, .junk, .junk, .lit (.slice none 0 0), .int .i64 i, .junk, .junk, .junk, .junk, .junk, .junk, .junk, .junk, .junk, .junk, .junk, .junk, .junk, .junk], [(0, .row (out.map .byte) 1)], 1⟩ [.blk 0, .code r182_0] (Fin [(6, none)] 0 (.own 0 1 0 r0.length false) [(0, .row (r0.map .byte) 1)])
  | 0, out, i, q, h0, h1, h2, h3, h4 => by
    have hr : r0 = out := by simpa using h4
    subst hr
    refine hd_of (by unfold l182_0; rfl) ?_
    have gg := trivial; repeat' first | simp (maxSteps := 2000000) (disch := omega) only [gg, r182_0, h2, go_sem] | (refine br ?_ ?_ <;> intro gg <;> try (exfalso; omega)) | (refine And.intro ?_ ?_; focus omega) | omega
  | k + 1, out, i, q, h0, h1, h2, h3, h4 => by
    have ih := h182n N n hN hN2 r0 k (out ++ [0]) (i + 1) (q + 1) (by omega) (by omega) (by simp [h2]) (by simp; omega) (by
      rw [h4, show k + 1 = 1 + k by omega, zs_add]
      simp)
    have e : (out.map AVal.byte).take q = out.map .byte := List.take_of_length_le (by simp; omega)
    refine hd_of (by unfold l182_0; rfl) ?_
    have gg := trivial; repeat' first | simp (maxSteps := 2000000) (disch := omega) only [gg, e, map_snoc, lp_head, go_sem] | (refine br ?_ ?_ <;> intro gg <;> try (exfalso; omega)) | (refine And.intro ?_ ?_; focus omega) | omega
theorem s182n (s : List UInt8) (n : Int) (N : Nat) (hN : n = N) (hN2 : N ≤ 100000) (hs : s.length ≤ N) (hne : s ≠ []) : callT AA 182 [.lit (.slice none 0 0), .str s, .int .i64 n] [] = some (.own 0 1 0 (fillT s N).length false, [(0, .row ((fillT s N).map .byte) 1)]) := by
  have hh := h182n N n hN hN2 (fillT s N) (N - s.length) s s.length s.length (by omega) (by omega) rfl (by omega) rfl
  have hne2 : (s.map AVal.byte).isEmpty = false := by
    cases s with
    | nil => exact (hne rfl).elim
    | cons a r => rfl
  refine enter fn182 np182 rfl ?_
  have gg := trivial; repeat' first | simp (maxSteps := 2000000) (disch := omega) only [gg, b182, hne2, lp_head, go_sem] | (refine br ?_ ?_ <;> intro gg <;> try (exfalso; omega)) | (refine And.intro ?_ ?_; focus omega) | omega
theorem h182 (N : Nat) (n : Int) (hN : n = N) (hN2 : N ≤ 100000) (r0 : List UInt8) : ∀ (k : Nat) (out : List UInt8) (i : Int) (q : Nat), 0 ≤ i → i + k = N → q = out.length → out.length ≤ 2000000 - k → r0 = out ++ zs k →
    HD AA 1 [0, 2, 6, 7] l182_0 ⟨[.own 1 1 0 q false, .junk, .int .i64 n, .junk, .junk, .junk, .lit (.slice none 0 0), .int .i64 i, .junk, .junk, .junk, .junk, .junk, .junk, .junk, .junk, .junk, .junk, .junk, .junk, .junk, .junk], [(1, .row (out.map .byte) 1)], 2⟩ [.blk 0, .code r182_0] (Fin [(6, none)] 1 (.own 1 1 0 r0.length false) [(1, .row (r0.map .byte) 1)])
  | 0, out, i, q, h0, h1, h2, h3, h4 => by
    have hr : r0 = out := by simpa using h4
    subst hr
    refine hd_of (by unfold l182_0; rfl) ?_
    have gg := trivial; repeat' first | simp (maxSteps := 2000000) (disch := omega) only [gg, r182_0, h2, go_sem] | (refine br ?_ ?_ <;> intro gg <;> try (exfalso; omega)) | (refine And.intro ?_ ?_; focus omega) | omega
  | k + 1, out, i, q, h0, h1, h2, h3, h4 => by
    have ih := h182 N n hN hN2 r0 k (out ++ [0]) (i + 1) (q + 1) (by omega) (by omega) (by simp [h2]) (by simp; omega) (by
      rw [h4, show k + 1 = 1 + k by omega, zs_add]
      simp)
    have e : (out.map AVal.byte).take q = out.map .byte := List.take_of_length_le (by simp; omega)
    refine hd_of (by unfold l182_0; rfl) ?_
    have gg := trivial; repeat' first | simp (maxSteps := 2000000) (disch := omega) only [gg, e, map_snoc, lp_head, go_sem] | (refine br ?_ ?_ <;> intro gg <;> try (exfalso; omega)) | (refine And.intro ?_ ?_; focus omega) | omega
theorem s182 (out s : List UInt8) (n : Int) (q N : Nat) (hN : n = N) (hN2 : N ≤ 100000) (hs : s.length ≤ N) (hq : q = out.length) (hq2 : out.length ≤ 1000000) : callT AA 182 [.own 0 1 0 q false, .str s, .int .i64 n] [(0, .row (out.map .byte) 1)] = some (.own 1 1 0 (q + N) false, [(1, .row ((out ++ fillT s N).map .byte) 1)]) := by
  have hl : (out ++ fillT s N).length = q + N := by rw [List.length_append, fillT_length hs, hq]
  have hh := h182 N n hN hN2 (out ++ fillT s N) (N - s.length) (out ++ s) s.length (q + s.length) (by omega) (by omega) (by simp [hq]) (by simp; omega) (by simp [fillT])
  rw [hl] at hh
  have e : (out.map AVal.byte).take q = out.map .byte := List.take_of_length_le (by simp; omega)
  generalize out ++ fillT s N = R at *
  refine enter fn182 np182 rfl ?_
  have gg := trivial; repeat' first | simp (maxSteps := 2000000) (disch := omega) only [gg, b182, e, ← List.map_append, lp_head, go_sem] | (refine br ?_ ?_ <;> intro gg <;> try (exfalso; omega)) | (refine And.intro ?_ ?_; focus omega) | omega
end Go.Abs
namespace Go.Abs
open Am Lib
set_option maxRecDepth 20000
set_option linter.unusedSimpArgs false
theorem oct7_zero : octD 7 0 = [48, 48, 48, 48, 48, 48, 48] := by decide
theorem fill_one {s : List UInt8} {n : Nat} (h : s.length + 1 = n) : fillT s n = s ++ [0] := by
  subst h
  unfold fillT
  rw [show s.length + 1 - s.length = 1 by omega]
  rfl
theorem blkA_fill (h : Hd) (name : List UInt8) : blkA h name = fillT name 100 ++ fillT (octD 7 h.mode) 8 ++ fillT (octD 7 h.uid) 8 ++ fillT (octD 7 h.gid) 8 ++ fillT (octD 11 h.size) 12 ++ fillT (octD 11 h.time) 12 := by
  have e : ∀ (k : Nat) (n : Int), fillT (octD k n) (k + 1) = octD k n ++ [0] := fun k n => fill_one (by rw [octD_length])
  rw [e 7, e 7, e 7, e 11, e 11]
  simp only [blkA, List.append_assoc]
theorem blkZ_fill (h : Hd) (pre : List UInt8) : blkZ h pre = [h.type] ++ fillT h.link 100 ++ fillT [117, 115, 116, 97, 114] 6 ++ [48, 48] ++ fillT [] 64 ++ fillT [48, 48, 48, 48, 48, 48, 48] 8 ++ fillT [48, 48, 48, 48, 48, 48, 48] 8 ++ fillT pre 155 ++ fillT [] 12 := by
  have e1 : fillT [117, 115, 116, 97, 114] 6 = [117, 115, 116, 97, 114] ++ [0] := fill_one rfl
  have e2 : fillT [48, 48, 48, 48, 48, 48, 48] 8 = [48, 48, 48, 48, 48, 48, 48] ++ [0] := fill_one rfl
  rw [e1, e2]
  unfold blkZ
  rw [oct7_zero]
  simp only [magicB, fillT, List.append_assoc, List.nil_append, List.cons_append, List.length_nil, Nat.sub_zero]
theorem map_snoc' (l : List UInt8) (t : UInt8) (z : Int) (hz : (t.toNat : Int) = z) : l.map AVal.byte ++ [.int .u8 z] = (l ++ [t]).map .byte := by
  subst hz
  simp [AVal.byte]
theorem map_app48 (l : List UInt8) : l.map AVal.byte ++ [.int .u8 (UInt8.toNat 48), .int .u8 (UInt8.toNat 48)] = (l ++ [48, 48]).map .byte := by simp [AVal.byte]
set_option maxHeartbeats 4000000 in
theorem s140 (h : Hd) (hp : h.path.length ≤ 1000000) (hok : encOk h = true) (sum : List UInt8) (hs : sum.length = 8) : callT AA 140 [h.av, .str sum] [] = some (.own 0 1 0 512 false, [(0, .row ((blkA h (splitN h.path).2.1 ++ sum ++ blkZ h (splitN h.path).1).map .byte) 1)]) := by
  have h57 := s57 h.path hp
  obtain ⟨k1, hf⟩ := encOk_parts hok
  obtain ⟨_, s1, s2, s3, _⟩ := splitN_ok k1
  rw [k1] at h57
  generalize (splitN h.path).1 = pre at *
  generalize (splitN h.path).2.1 = name at *
  rw [blkA_fill, blkZ_fill]
  have o1 := s141 h.mode 7 7 rfl (by omega) hf.mode.1 (by have := hf.mode.2; omega)
  have o2 := s141 h.uid 7 7 rfl (by omega) hf.uid.1 (by have := hf.uid.2; omega)
  have o3 := s141 h.gid 7 7 rfl (by omega) hf.gid.1 (by have := hf.gid.2; omega)
  have o4 := s141 h.size 11 11 rfl (by omega) hf.size.1 (by have := hf.size.2; omega)
  have o5 := s141 h.time 11 11 rfl (by omega) hf.time.1 (by have := hf.time.2; omega)
  have p1 := octD_length 7 h.mode
  have p2 := octD_length 7 h.uid
  have p3 := octD_length 7 h.gid
  have p4 := octD_length 11 h.size
  have p5 := octD_length 11 h.time
  have hlk := hf.link.1
  have c1 := s182n name 100 100 rfl (by omega) s2 s3
  obtain ⟨B1, b1⟩ : ∃ B, B = fillT name 100 := ⟨_, rfl⟩
  have l1 : B1.length = 100 := by rw [b1]; exact fillT_length s2
  rw [← b1, l1] at c1
  have c2 := s182 B1 (octD 7 h.mode) 8 100 8 rfl (by omega) (by first | omega | decide) (by omega) (by omega)
  obtain ⟨B2, b2⟩ : ∃ B, B = B1 ++ fillT (octD 7 h.mode) 8 := ⟨_, rfl⟩
  have l2 : B2.length = 108 := by rw [b2, List.length_append, fillT_length (by first | omega | decide), l1]
  rw [← b2] at c2
  have c3 := s182 B2 (octD 7 h.uid) 8 108 8 rfl (by omega) (by first | omega | decide) (by omega) (by omega)
  obtain ⟨B3, b3⟩ : ∃ B, B = B2 ++ fillT (octD 7 h.uid) 8 := ⟨_, rfl⟩
  have l3 : B3.length = 116 := by rw [b3, List.length_append, fillT_length (by first | omega | decide), l2]
  rw [← b3] at c3
  have c4 := s182 B3 (octD 7 h.gid) 8 116 8 rfl (by omega) (by first | omega | decide) (by omega) (by omega)
  obtain ⟨B4, b4⟩ : ∃ B, B = B3 ++ fillT (octD 7 h.gid) 8 := ⟨_, rfl⟩
  have l4 : B4.length = 124 := by rw [b4, List.length_append, fillT_length (by first | omega | decide), l3]
  rw [← b4] at c4
  have c5 := s182 B4 (octD 11 h.size) 12 124 12 rfl (by omega) (by first | omega | decide) (by omega) (by omega)
  obtain ⟨B5, b5⟩ : ∃ B, B = B4 ++ fillT (octD 11 h.size) 12 := ⟨_, rfl⟩
  have l5 : B5.length = 136 := by rw [b5, List.length_append, fillT_length (by first | omega | decide), l4]
  rw [← b5] at c5
  have c6 := s182 B5 (octD 11 h.time) 12 136 12 rfl (by omega) (by first | omega | decide) (by omega) (by omega)
  obtain ⟨B6, b6⟩ : ∃ B, B = B5 ++ fillT (octD 11 h.time) 12 := ⟨_, rfl⟩
  have l6 : B6.length = 148 := by rw [b6, List.length_append, fillT_length (by first | omega | decide), l5]
  rw [← b6] at c6
  have e7 : (B6.map AVal.byte).take 148 = B6.map .byte := List.take_of_length_le (by rw [List.length_map]; omega)
  obtain ⟨B7, b7⟩ : ∃ B, B = B6 ++ sum := ⟨_, rfl⟩
  have l7 : B7.length = 156 := by rw [b7, List.length_append, l6]; rw [hs]
  have a7 : B6.map AVal.byte ++ sum.map AVal.byte = B7.map .byte := by rw [b7, List.map_append]
  have e8 : (B7.map AVal.byte).take 156 = B7.map .byte := List.take_of_length_le (by rw [List.length_map]; omega)
  obtain ⟨B8, b8⟩ : ∃ B, B = B7 ++ [h.type] := ⟨_, rfl⟩
  have l8 : B8.length = 157 := by rw [b8, List.length_append, l7]; rfl
  have a8 : B7.map AVal.byte ++ [.int .u8 h.type.toNat] = B8.map .byte := by rw [b8]; exact map_snoc' _ _ _ rfl
  have c9 := s182 B8 h.link 100 157 100 rfl (by omega) (by first | omega | decide) (by omega) (by omega)
  obtain ⟨B9, b9⟩ : ∃ B, B = B8 ++ fillT h.link 100 := ⟨_, rfl⟩
  have l9 : B9.length = 257 := by rw [b9, List.length_append, fillT_length (by first | omega | decide), l8]
  rw [← b9] at c9
  have c10 := s182 B9 [117, 115, 116, 97, 114] 6 257 6 rfl (by omega) (by first | omega | decide) (by omega) (by omega)
  obtain ⟨B10, b10⟩ : ∃ B, B = B9 ++ fillT [117, 115, 116, 97, 114] 6 := ⟨_, rfl⟩
  have l10 : B10.length = 263 := by rw [b10, List.length_append, fillT_length (by first | omega | decide), l9]
  rw [← b10] at c10
  have e11 : (B10.map AVal.byte).take 263 = B10.map .byte := List.take_of_length_le (by rw [List.length_map]; omega)
  obtain ⟨B11, b11⟩ : ∃ B, B = B10 ++ [48, 48] := ⟨_, rfl⟩
  have l11 : B11.length = 265 := by rw [b11, List.length_append, l10]; rfl
  have a11 : B10.map AVal.byte ++ [.int .u8 (UInt8.toNat 48), .int .u8 (UInt8.toNat 48)] = B11.map .byte := by rw [b11]; exact map_app48 _
  have c12 := s182 B11 [] 64 265 64 rfl (by omega) (by first | omega | decide) (by omega) (by omega)
  obtain ⟨B12, b12⟩ : ∃ B, B = B11 ++ fillT [] 64 := ⟨_, rfl⟩
  have l12 : B12.length = 329 := by rw [b12, List.length_append, fillT_length (by first | omega | decide), l11]
  rw [← b12] at c12
  have c13 := s182 B12 [48, 48, 48, 48, 48, 48, 48] 8 329 8 rfl (by omega) (by first | omega | decide) (by omega) (by omega)
  obtain ⟨B13, b13⟩ : ∃ B, B = B12 ++ fillT [48, 48, 48, 48, 48, 48, 48] 8 := ⟨_, rfl⟩
  have l13 : B13.length = 337 := by rw [b13, List.length_append, fillT_length (by first | omega | decide), l12]
  rw [← b13] at c13
  have c14 := s182 B13 [48, 48, 48, 48, 48, 48, 48] 8 337 8 rfl (by omega) (by first | omega | decide) (by omega) (by omega)
  obtain ⟨B14, b14⟩ : ∃ B, B = B13 ++ fillT [48, 48, 48, 48, 48, 48, 48] 8 := ⟨_, rfl⟩
  have l14 : B14.length = 345 := by rw [b14, List.length_append, fillT_length (by first | omega | decide), l13]
  rw [← b14] at c14
  have c15 := s182 B14 pre 155 345 155 rfl (by omega) (by first | omega | decide) (by omega) (by omega)
  obtain ⟨B15, b15⟩ : ∃ B, B = B14 ++ fillT pre 155 := ⟨_, rfl⟩
  have l15 : B15.length = 500 := by rw [b15, List.length_append, fillT_length (by first | omega | decide), l14]
  rw [← b15] at c15
  have c16 := s182 B15 [] 12 500 12 rfl (by omega) (by first | omega | decide) (by omega) (by omega)
  obtain ⟨B16, b16⟩ : ∃ B, B = B15 ++ fillT [] 12 := ⟨_, rfl⟩
  have l16 : B16.length = 512 := by rw [b16, List.length_append, fillT_length (by first | omega | decide), l15]
  rw [← b16] at c16
  have hR : fillT name 100 ++ fillT (octD 7 h.mode) 8 ++ fillT (octD 7 h.uid) 8 ++ fillT (octD 7 h.gid) 8 ++ fillT (octD 11 h.size) 12 ++ fillT (octD 11 h.time) 12 ++ sum ++ ([h.type] ++ fillT h.link 100 ++ fillT [117, 115, 116, 97, 114] 6 ++ [48, 48] ++ fillT [] 64 ++ fillT [48, 48, 48, 48, 48, 48, 48] 8 ++ fillT [48, 48, 48, 48, 48, 48, 48] 8 ++ fillT pre 155 ++ fillT [] 12) = B16 := by
    rw [b16, b15, b14, b13, b12, b11, b10, b9, b8, b7, b6, b5, b4, b3, b2, b1]
    simp only [List.append_assoc]
  rw [hR]
  clear hR b16 b15 b14 b13 b12 b11 b10 b9 b8 b7 b6 b5 b4 b3 b2 b1
  simp only [Hd.av] at *
  refine enter fn140 np140 rfl ?_
  have gg := trivial; repeat' first | simp (maxSteps := 2000000) (disch := omega) only [gg, b140, h57, o1, o2, o3, o4, o5, c1, c2, c3, c4, c5, c6, e7, a7, e8, a8, c9, c10, e11, a11, c12, c13, c14, c15, c16, hs, go_sem] | (refine br ?_ ?_ <;> intro gg <;> try (exfalso; omega)) | (refine And.intro ?_ ?_; focus omega) | omega
end Go.Abs
namespace Go.Abs
open Am Lib
set_option maxRecDepth 20000
set_option linter.unusedSimpArgs false
def sumA : List UInt8 → Int
  | [] => 0
  | c :: r => c.toNat + sumA r
theorem sumA_le : ∀ l : List UInt8, 0 ≤ sumA l ∧ sumA l ≤ 255 * l.length
  | [] => by simp [sumA]
  | c :: r => by
    have ih := sumA_le r
    have hc := c.toNat_lt
    simp only [sumA, List.length_cons]
    omega
theorem sumA_app : ∀ a b : List UInt8, sumA (a ++ b) = sumA a + sumA b
  | [], b => by simp [sumA]
  | c :: r, b => by
    have ih := sumA_app r b
    simp only [List.cons_append, sumA, ih]
    omega
theorem sumL_app : ∀ (a b : List UInt8) (i : Nat), sumL i (a ++ b) = sumL i a + sumL (i + a.length) b
  | [], b, i => by simp [sumL]
  | c :: r, b, i => by
    have ih := sumL_app r b (i + 1)
    simp only [List.cons_append, sumL, ih, List.length_cons]
    rw [show i + 1 + r.length = i + (r.length + 1) by omega]
    omega
theorem sumL_low : ∀ (a : List UInt8) (i : Nat), i + a.length ≤ 148 → sumL i a = sumA a
  | [], i, _ => rfl
  | c :: r, i, h => by
    simp only [List.length_cons] at h
    have ih := sumL_low r (i + 1) (by omega)
    simp only [sumL, sumA, ih]
    rw [if_pos (by omega)]
theorem sumL_high : ∀ (a : List UInt8) (i : Nat), 156 ≤ i → sumL i a = sumA a
  | [], i, _ => rfl
  | c :: r, i, h => by
    have ih := sumL_high r (i + 1) (by omega)
    simp only [sumL, sumA, ih]
    rw [if_pos (by omega)]
theorem sumL_mid : ∀ (a : List UInt8) (i : Nat), 148 ≤ i → i + a.length ≤ 156 → sumL i a = 0
  | [], i, _, _ => rfl
  | c :: r, i, h, h' => by
    simp only [List.length_cons] at h'
    have ih := sumL_mid r (i + 1) (by omega) (by omega)
    simp only [sumL, ih]
    rw [if_neg (by omega)]
    rfl
def spaces8 : List UInt8 := [32, 32, 32, 32, 32, 32, 32, 32]
theorem sum_eq {a z : List UInt8} (ha : a.length = 148) : 256 + sumL 0 (a ++ zs 8 ++ z) = sumA (a ++ spaces8 ++ z) := by
  rw [sumL_app, sumL_app, sumL_low a 0 (by omega), sumL_mid (zs 8) _ (by omega) (by simp; omega), sumL_high z _ (by simp; omega), sumA_app, sumA_app]
  have : sumA spaces8 = 256 := by decide
  omega
theorem h95 (h : Hd) (N : Int) (hN : N ≤ 200000) (R : List UInt8) (c141 : callT AA 141 [.int .i64 N, .int .i64 6] [] = some (.str (octD 6 N), [])) (lo : (octD 6 N).length = 6)
    (c140 : callT AA 140 [.agg [.str h.path, .int .i64 h.mode, .int .i64 h.uid, .int .i64 h.gid, .int .i64 h.size, .int .i64 h.time, .int .u8 h.type.toNat, .str h.link], .str (octD 6 N ++ [0, 32])] [] = some (.own 0 1 0 512 false, [(0, .row (R.map .byte) 1)]))
    (L : List UInt8) (hL : L.length = 512) : ∀ (rest done : List UInt8) (n i : Int), L = done ++ rest → i = done.length → 0 ≤ n → n + sumA rest = N →
    HD AA 0 [1, 2, 3, 4, 5, 6] l95_0 ⟨[.junk, .ptr 0 0, .lit (.slice none 0 0), .int .i64 0, .own 1 1 0 512 false, .int .i64 n, .int .i64 i, .junk, .junk, .junk, .junk, .junk, .junk, .junk, .junk, .junk, .junk, .junk, .junk, .junk, .junk, .junk, .junk, .junk, .junk, .junk, .junk, .junk, .junk, .junk], [(0, .var [.str h.path, .int .i64 h.mode, .int .i64 h.uid, .int .i64 h.gid, .int .i64 h.size, .int .i64 h.time, .int .u8 h.type.toNat, .str h.link]), (1, .row (L.map .byte) 1)], 2⟩ [.blk 0, .code r95_0] (Fin [(2, none), (3, none)] 0 (.tuple [.own 0 1 0 512 false, .int .i64 0]) [(0, .row (R.map .byte) 1)])
  | [], done, n, i, h1, h2, h3, h4 => by
    have hl : i = 512 := by rw [h1] at hL; simp at hL; omega
    have hn : n = N := by simp [sumA] at h4; exact h4
    subst hn
    refine hd_of (by unfold l95_0; rfl) ?_
    have gg := trivial; repeat' first | simp (maxSteps := 2000000) (disch := omega) only [gg, r95_0, c141, c140, lo, go_sem] | (refine br ?_ ?_ <;> intro gg <;> try (exfalso; omega)) | (refine And.intro ?_ ?_; focus omega) | omega
  | c :: rest, done, n, i, h1, h2, h3, h4 => by
    have hl : i < 512 := by rw [h1] at hL; simp at hL; omega
    have hx : L[i.toNat]? = some c := by
      rw [h1, show i.toNat = done.length by omega]
      simp
    have hc := c.toNat_lt
    have hs := sumA_le rest
    simp only [sumA] at h4
    have ih := h95 h N hN R c141 lo c140 L hL rest (done ++ [c]) (n + c.toNat) (i + 1) (by simp [h1]) (by simp; omega) (by omega) (by omega)
    refine hd_of (by unfold l95_0; rfl) ?_
    have gg := trivial; repeat' first | simp (maxSteps := 2000000) (disch := omega) only [gg, hx, Nat.zero_add, hL, lp_head, go_sem] | (refine br ?_ ?_ <;> intro gg <;> try (exfalso; omega)) | (refine And.intro ?_ ?_; focus omega) | omega
theorem s95 (h : Hd) (hp : h.path.length ≤ 1000000) (hl : h.link.length ≤ 1000000) (hok : encOk h = true) : callT AA 95 [h.av] [] = some (.tuple [.own 0 1 0 512 false, .int .i64 0], [(0, .row ((encB h).map .byte) 1)]) := by
  obtain ⟨k1, hf⟩ := encOk_parts hok
  obtain ⟨_, s1, s2, s3, _⟩ := splitN_ok k1
  have c139 := s139 h hp hl hok
  have c1 := s140 h hp hok spaces8 rfl
  rw [encB_blk s2 s1 hf.link.1]
  unfold blk sumV sumD
  have lA := blkA_length (h := h) s2
  have lZ := blkZ_length (h := h) s1 hf.link.1
  rw [sum_eq lA]
  have hb := sumA_le (blkA h (splitN h.path).2.1 ++ spaces8 ++ blkZ h (splitN h.path).1)
  have hL : (blkA h (splitN h.path).2.1 ++ spaces8 ++ blkZ h (splitN h.path).1).length = 512 := by
    rw [List.length_append, List.length_append, lA, lZ]
    rfl
  have c2 := s140 h hp hok (octD 6 (sumA (blkA h (splitN h.path).2.1 ++ spaces8 ++ blkZ h (splitN h.path).1)) ++ [0, 32]) (by rw [List.length_append, octD_length]; rfl)
  have c3 := s141 (sumA (blkA h (splitN h.path).2.1 ++ spaces8 ++ blkZ h (splitN h.path).1)) 6 6 rfl (by omega) hb.1 (by omega)
  have lo := octD_length 6 (sumA (blkA h (splitN h.path).2.1 ++ spaces8 ++ blkZ h (splitN h.path).1))
  have hh := h95 h (sumA (blkA h (splitN h.path).2.1 ++ spaces8 ++ blkZ h (splitN h.path).1)) (by omega) _ c3 lo c2 _ hL (blkA h (splitN h.path).2.1 ++ spaces8 ++ blkZ h (splitN h.path).1) [] 0 0 rfl rfl (by omega) (Int.zero_add _)
  clear c2 c3 lo hb
  generalize blkA h (splitN h.path).2.1 ++ (octD 6 (sumA (blkA h (splitN h.path).2.1 ++ spaces8 ++ blkZ h (splitN h.path).1)) ++ [0, 32]) ++ blkZ h (splitN h.path).1 = R at *
  generalize blkA h (splitN h.path).2.1 ++ spaces8 ++ blkZ h (splitN h.path).1 = L at *
  simp only [Hd.av, spaces8] at *
  refine enter fn95 np95 rfl ?_
  have gg := trivial; repeat' first | simp (maxSteps := 2000000) (disch := omega) only [gg, b95, c139, c1, lp_head, go_sem] | (refine br ?_ ?_ <;> intro gg <;> try (exfalso; omega)) | (refine And.intro ?_ ?_; focus omega) | omega
end Go.Abs
namespace Go.Abs
open Am Lib
set_option maxRecDepth 20000
set_option linter.unusedSimpArgs false
def p97_10 : ACode := .ret
def p97_9 : ACode := .seq (.reg false [] [⟨(some 63), (.ld 8 true (.t 4)), none⟩, ⟨none, (.st 8 (.t 2) (.t 63)), none⟩]) p97_10
def p97_8 : ACode := .seq (.seq (.reg false [] [⟨(some 58), (.fa 5 (.t 1)), none⟩, ⟨(some 59), (.ld 1 false (.t 58)), none⟩, ⟨(some 60), (.call (.c (.func (.func 60) [])) [(.t 59)]), none⟩, ⟨(some 61), (.un .not (.t 60)), none⟩]) (.cond (.t 61) (.reg false [] [⟨(some 62), (.fa 5 (.t 4)), none⟩, ⟨none, (.st 1 (.t 62) (.c (.int .i64 0))), none⟩]) .skip)) p97_9
def p97_7 : ACode := .seq (.seq (.reg false [] [⟨(some 53), (.fa 4 (.t 1)), none⟩, ⟨(some 54), (.ld 1 false (.t 53)), none⟩, ⟨(some 55), (.call (.c (.func (.func 58) [])) [(.t 54)]), none⟩, ⟨(some 56), (.un .not (.t 55)), none⟩]) (.cond (.t 56) (.reg false [] [⟨(some 57), (.fa 3 (.t 4)), none⟩, ⟨none, (.st 1 (.t 57) (.c (.int .i64 0))), none⟩]) .skip)) p97_8
def p97_6 : ACode := .seq (.seq (.reg false [] [⟨(some 48), (.fa 3 (.t 1)), none⟩, ⟨(some 49), (.ld 1 false (.t 48)), none⟩, ⟨(some 50), (.call (.c (.func (.func 58) [])) [(.t 49)]), none⟩, ⟨(some 51), (.un .not (.t 50)), none⟩]) (.cond (.t 51) (.reg false [] [⟨(some 52), (.fa 2 (.t 4)), none⟩, ⟨none, (.st 1 (.t 52) (.c (.int .i64 0))), none⟩]) .skip)) p97_7
def p97_5 : ACode := .seq (.seq (.reg false [] [⟨(some 38), (.fa 6 (.t 1)), none⟩, ⟨(some 39), (.ld 1 false (.t 38)), none⟩, ⟨(some 40), (.bin .neq .other true (.t 39) (.c (.str []))), none⟩, ⟨(some 41), (.mov (.t 40)), none⟩, ⟨(some 42), (.fa 6 (.t 1)), (some (41, true))⟩, ⟨(some 43), (.ld 1 false (.t 42)), (some (41, true))⟩, ⟨(some 44), (.call (.c (.func (.func 59) [])) [(.t 43)]), (some (41, true))⟩, ⟨(some 45), (.un .not (.t 44)), (some (41, true))⟩, ⟨(some 46), (.pick (.t 41) (.t 45) (.c (.bool false))), none⟩]) (.cond (.t 46) (.reg false [] [⟨(some 47), (.fa 7 (.t 4)), none⟩, ⟨none, (.st 1 (.t 47) (.c (.str [112, 97, 120]))), none⟩]) .skip)) p97_6
def p97_4 : ACode := .seq (.seq (.reg false [] [⟨(some 35), (.mov (.t 7)), none⟩, ⟨(some 36), (.un .not (.t 35)), none⟩]) (.cond (.t 36) (.reg false [] [⟨(some 37), (.fa 0 (.t 4)), none⟩, ⟨none, (.st 1 (.t 37) (.c (.str [112, 97, 120]))), none⟩]) .skip)) p97_5
def p97_3 : ACode := .seq (.reg false [] [⟨(some 29), (.fa 0 (.t 1)), none⟩, ⟨(some 30), (.ld 1 false (.t 29)), none⟩, ⟨(some 31), (.call (.c (.func (.func 57) [])) [(.t 30)]), none⟩, ⟨(some 28), (.mov (.t 31)), none⟩, ⟨(some 32), (.ext (.t 28) 0), none⟩, ⟨(some 33), (.ext (.t 28) 1), none⟩, ⟨(some 34), (.ext (.t 28) 2), none⟩, ⟨(some 5), (.mov (.t 32)), none⟩, ⟨(some 6), (.mov (.t 33)), none⟩, ⟨(some 7), (.mov (.t 34)), none⟩]) p97_4
def p97_2 : ACode := .seq (.reg true [(1, 2), (0, 3), (1, 3), (1, 4), (3, 4), (0, 5), (1, 5), (2, 5), (3, 5), (1, 6), (3, 6), (5, 6), (0, 7), (1, 7), (2, 7), (3, 7), (4, 7), (5, 7), (1, 8), (3, 8), (5, 8), (7, 8), (0, 9), (1, 9), (2, 9), (3, 9), (4, 9), (5, 9), (6, 9), (7, 9), (1, 10), (3, 10), (5, 10), (7, 10), (1, 11), (3, 11), (5, 11), (7, 11), (9, 11), (0, 12), (1, 12), (2, 12), (3, 12), (4, 12), (5, 12), (6, 12), (7, 12), (8, 12), (9, 12), (10, 12), (1, 13), (3, 13), (5, 13), (7, 13), (9, 13), (12, 13), (1, 14), (3, 14), (5, 14), (7, 14), (9, 14), (12, 14), (0, 15), (1, 15), (2, 15), (3, 15), (4, 15), (5, 15), (6, 15), (7, 15), (8, 15), (9, 15), (10, 15), (11, 15), (12, 15), (13, 15), (1, 16), (3, 16), (5, 16), (7, 16), (9, 16), (12, 16), (1, 17), (3, 17), (5, 17), (7, 17), (9, 17), (12, 17), (15, 17), (0, 18), (1, 18), (2, 18), (3, 18), (4, 18), (5, 18), (6, 18), (7, 18), (8, 18), (9, 18), (10, 18), (11, 18), (12, 18), (13, 18), (14, 18), (15, 18), (16, 18), (0, 20), (1, 20), (2, 20), (3, 20), (4, 20), (5, 20), (6, 20), (7, 20), (8, 20), (9, 20), (10, 20), (11, 20), (12, 20), (13, 20), (14, 20), (15, 20), (16, 20), (17, 20), (18, 20), (19, 20)] [⟨(some 8), (.fa 0 (.t 1)), none⟩, ⟨(some 9), (.ld 1 false (.t 8)), none⟩, ⟨(some 10), (.fa 2 (.t 1)), none⟩, ⟨(some 11), (.ld 1 false (.t 10)), none⟩, ⟨(some 12), (.fa 3 (.t 1)), none⟩, ⟨(some 13), (.ld 1 false (.t 12)), none⟩, ⟨(some 14), (.fa 4 (.t 1)), none⟩, ⟨(some 15), (.ld 1 false (.t 14)), none⟩, ⟨(some 16), (.fa 7 (.t 1)), none⟩, ⟨(some 17), (.ld 1 false (.t 16)), none⟩, ⟨(some 18), (.len 1 (.t 17)), none⟩, ⟨(some 19), (.fa 5 (.t 1)), none⟩, ⟨(some 20), (.ld 1 false (.t 19)), none⟩, ⟨(some 21), (.mov (.t 3)), none⟩, ⟨(some 22), (.fa 1 (.t 1)), none⟩, ⟨(some 23), (.ld 1 false (.t 22)), none⟩, ⟨(some 24), (.ixs (.t 21) (.t 23)), none⟩, ⟨(some 25), (.fa 6 (.t 1)), none⟩, ⟨(some 26), (.ld 1 false (.t 25)), none⟩, ⟨(some 27), (.build [(.str []), (.int .i64 0), (.int .i64 0), (.int .i64 0), (.int .i64 0), (.int .i64 0), (.int .u8 0), (.str [])] [(0, (1, (.t 9))), (1, (1, (.t 11))), (2, (1, (.t 13))), (3, (1, (.t 15))), (4, (1, (.t 18))), (5, (1, (.t 20))), (6, (1, (.t 24))), (7, (1, (.t 26)))]), none⟩, ⟨(some 4), (.alloc [(.str []), (.int .i64 0), (.int .i64 0), (.int .i64 0), (.int .i64 0), (.int .i64 0), (.int .u8 0), (.str [])]), none⟩, ⟨none, (.st 8 (.t 4) (.t 27)), none⟩]) p97_3
def p97_1 : ACode := .seq (.reg false [] [⟨(some 3), (.mov (.c (.str [48, 53, 48, 50, 49]))), none⟩]) p97_2
def p97_0 : ACode := .seq (.reg false [] [⟨(some 1), (.box (.t 0)), none⟩, ⟨(some 2), (.alloc [(.str []), (.int .i64 0), (.int .i64 0), (.int .i64 0), (.int .i64 0), (.int .i64 0), (.int .u8 0), (.str [])]), none⟩]) p97_1
theorem b97_p : b97 = ⟨1, 64, [(2, (some (8, true)))], p97_0⟩ := rfl
def FinH (p : List UInt8) (m u g sz tm : Int) (ty : UInt8) (lk : List UInt8) : FinP := Fin [(2, some (8, true))] 0 (Hd.av ⟨p, m, u, g, sz, tm, ty, lk⟩) []
theorem q97_9 (e : Ent) (hl : e.link.length ≤ 1000000) (p lk : List UInt8) (m u g sz tm : Int) (ty : UInt8)  : ∀ (x3 x5 x6 x7 x8 x9 x10 x11 x12 x13 x14 x15 x16 x17 x18 x19 x20 x21 x22 x23 x24 x25 x26 x27 x28 x29 x30 x31 x32 x33 x34 x35 x36 x37 x38 x39 x40 x41 x42 x43 x44 x45 x46 x47 x48 x49 x50 x51 x52 x53 x54 x55 x56 x57 x58 x59 x60 x61 x62 x63 : AVal) (N : Nat), EX AA 0 p97_9 ⟨[e.av, .ptr 0 0, .ptr 32 0, x3, .ptr 736 0, x5, x6, x7, x8, x9, x10, x11, x12, x13, x14, x15, x16, x17, x18, x19, x20, x21, x22, x23, x24, x25, x26, x27, x28, x29, x30, x31, x32, x33, x34, x35, x36, x37, x38, x39, x40, x41, x42, x43, x44, x45, x46, x47, x48, x49, x50, x51, x52, x53, x54, x55, x56, x57, x58, x59, x60, x61, x62, x63], [(0, .var e.av.cells), (32, .var [.str [], .int .i64 0, .int .i64 0, .int .i64 0, .int .i64 0, .int .i64 0, .int .u8 0, .str []]), (736, .var [.str p, .int .i64 m, .int .i64 u, .int .i64 g, .int .i64 sz, .int .i64 tm, .int .u8 ty.toNat, .str lk])], N⟩ [] (FinH p m u g sz tm ty lk) := by
  intro x3 x5 x6 x7 x8 x9 x10 x11 x12 x13 x14 x15 x16 x17 x18 x19 x20 x21 x22 x23 x24 x25 x26 x27 x28 x29 x30 x31 x32 x33 x34 x35 x36 x37 x38 x39 x40 x41 x42 x43 x44 x45 x46 x47 x48 x49 x50 x51 x52 x53 x54 x55 x56 x57 x58 x59 x60 x61 x62 x63 N
  unfold FinH
  have gg := trivial; repeat' first | simp (maxSteps := 2000000) (disch := omega) only [gg, p97_9, p97_10, go_sem] | (refine br ?_ ?_ <;> intro gg <;> try (exfalso; omega)) | (refine And.intro ?_ ?_; focus omega) | omega
theorem q97_8 (e : Ent) (hl : e.link.length ≤ 1000000) (p lk : List UInt8) (m u g sz tm : Int) (ty : UInt8) (tm' : Int) (h8 : tm' = if timeB e.time = true then tm else 0) : ∀ (x3 x5 x6 x7 x8 x9 x10 x11 x12 x13 x14 x15 x16 x17 x18 x19 x20 x21 x22 x23 x24 x25 x26 x27 x28 x29 x30 x31 x32 x33 x34 x35 x36 x37 x38 x39 x40 x41 x42 x43 x44 x45 x46 x47 x48 x49 x50 x51 x52 x53 x54 x55 x56 x57 x58 x59 x60 x61 x62 x63 : AVal) (N : Nat), EX AA 0 p97_8 ⟨[e.av, .ptr 0 0, .ptr 32 0, x3, .ptr 736 0, x5, x6, x7, x8, x9, x10, x11, x12, x13, x14, x15, x16, x17, x18, x19, x20, x21, x22, x23, x24, x25, x26, x27, x28, x29, x30, x31, x32, x33, x34, x35, x36, x37, x38, x39, x40, x41, x42, x43, x44, x45, x46, x47, x48, x49, x50, x51, x52, x53, x54, x55, x56, x57, x58, x59, x60, x61, x62, x63], [(0, .var e.av.cells), (32, .var [.str [], .int .i64 0, .int .i64 0, .int .i64 0, .int .i64 0, .int .i64 0, .int .u8 0, .str []]), (736, .var [.str p, .int .i64 m, .int .i64 u, .int .i64 g, .int .i64 sz, .int .i64 tm, .int .u8 ty.toNat, .str lk])], N⟩ [] (FinH p m u g sz tm' ty lk) := by
  intro x3 x5 x6 x7 x8 x9 x10 x11 x12 x13 x14 x15 x16 x17 x18 x19 x20 x21 x22 x23 x24 x25 x26 x27 x28 x29 x30 x31 x32 x33 x34 x35 x36 x37 x38 x39 x40 x41 x42 x43 x44 x45 x46 x47 x48 x49 x50 x51 x52 x53 x54 x55 x56 x57 x58 x59 x60 x61 x62 x63 N
  have c := s60 e.time
  cases hf : timeB e.time with
  | true =>
    rw [hf] at c h8
    rw [if_pos rfl] at h8
    subst h8
    have ih := q97_9 e hl p lk m u g sz tm' ty
    have gg := trivial; repeat' first | simp (maxSteps := 2000000) (disch := omega) only [gg, p97_8, c, go_sem] | (refine br ?_ ?_ <;> intro gg <;> try (exfalso; omega)) | (refine And.intro ?_ ?_; focus omega) | omega
    apply ih
  | false =>
    rw [hf] at c h8
    rw [if_neg (by decide)] at h8
    subst h8
    have ih := q97_9 e hl p lk m u g sz 0 ty
    have gg := trivial; repeat' first | simp (maxSteps := 2000000) (disch := omega) only [gg, p97_8, c, go_sem] | (refine br ?_ ?_ <;> intro gg <;> try (exfalso; omega)) | (refine And.intro ?_ ?_; focus omega) | omega
    apply ih
theorem q97_7 (e : Ent) (hl : e.link.length ≤ 1000000) (p lk : List UInt8) (m u g sz tm : Int) (ty : UInt8) (g' : Int) (h7 : g' = if idB e.gid = true then g else 0) (tm' : Int) (h8 : tm' = if timeB e.time = true then tm else 0) : ∀ (x3 x5 x6 x7 x8 x9 x10 x11 x12 x13 x14 x15 x16 x17 x18 x19 x20 x21 x22 x23 x24 x25 x26 x27 x28 x29 x30 x31 x32 x33 x34 x35 x36 x37 x38 x39 x40 x41 x42 x43 x44 x45 x46 x47 x48 x49 x50 x51 x52 x53 x54 x55 x56 x57 x58 x59 x60 x61 x62 x63 : AVal) (N : Nat), EX AA 0 p97_7 ⟨[e.av, .ptr 0 0, .ptr 32 0, x3, .ptr 736 0, x5, x6, x7, x8, x9, x10, x11, x12, x13, x14, x15, x16, x17, x18, x19, x20, x21, x22, x23, x24, x25, x26, x27, x28, x29, x30, x31, x32, x33, x34, x35, x36, x37, x38, x39, x40, x41, x42, x43, x44, x45, x46, x47, x48, x49, x50, x51, x52, x53, x54, x55, x56, x57, x58, x59, x60, x61, x62, x63], [(0, .var e.av.cells), (32, .var [.str [], .int .i64 0, .int .i64 0, .int .i64 0, .int .i64 0, .int .i64 0, .int .u8 0, .str []]), (736, .var [.str p, .int .i64 m, .int .i64 u, .int .i64 g, .int .i64 sz, .int .i64 tm, .int .u8 ty.toNat, .str lk])], N⟩ [] (FinH p m u g' sz tm' ty lk) := by
  intro x3 x5 x6 x7 x8 x9 x10 x11 x12 x13 x14 x15 x16 x17 x18 x19 x20 x21 x22 x23 x24 x25 x26 x27 x28 x29 x30 x31 x32 x33 x34 x35 x36 x37 x38 x39 x40 x41 x42 x43 x44 x45 x46 x47 x48 x49 x50 x51 x52 x53 x54 x55 x56 x57 x58 x59 x60 x61 x62 x63 N
  have c := s58 e.gid
  cases hf : idB e.gid with
  | true =>
    rw [hf] at c h7
    rw [if_pos rfl] at h7
    subst h7
    have ih := q97_8 e hl p lk m u g' sz tm ty tm' h8
    have gg := trivial; repeat' first | simp (maxSteps := 2000000) (disch := omega) only [gg, p97_7, c, go_sem] | (refine br ?_ ?_ <;> intro gg <;> try (exfalso; omega)) | (refine And.intro ?_ ?_; focus omega) | omega
    apply ih
  | false =>
    rw [hf] at c h7
    rw [if_neg (by decide)] at h7
    subst h7
    have ih := q97_8 e hl p lk m u 0 sz tm ty tm' h8
    have gg := trivial; repeat' first | simp (maxSteps := 2000000) (disch := omega) only [gg, p97_7, c, go_sem] | (refine br ?_ ?_ <;> intro gg <;> try (exfalso; omega)) | (refine And.intro ?_ ?_; focus omega) | omega
    apply ih
theorem q97_6 (e : Ent) (hl : e.link.length ≤ 1000000) (p lk : List UInt8) (m u g sz tm : Int) (ty : UInt8) (u' : Int) (h6 : u' = if idB e.uid = true then u else 0) (g' : Int) (h7 : g' = if idB e.gid = true then g else 0) (tm' : Int) (h8 : tm' = if timeB e.time = true then tm else 0) : ∀ (x3 x5 x6 x7 x8 x9 x10 x11 x12 x13 x14 x15 x16 x17 x18 x19 x20 x21 x22 x23 x24 x25 x26 x27 x28 x29 x30 x31 x32 x33 x34 x35 x36 x37 x38 x39 x40 x41 x42 x43 x44 x45 x46 x47 x48 x49 x50 x51 x52 x53 x54 x55 x56 x57 x58 x59 x60 x61 x62 x63 : AVal) (N : Nat), EX AA 0 p97_6 ⟨[e.av, .ptr 0 0, .ptr 32 0, x3, .ptr 736 0, x5, x6, x7, x8, x9, x10, x11, x12, x13, x14, x15, x16, x17, x18, x19, x20, x21, x22, x23, x24, x25, x26, x27, x28, x29, x30, x31, x32, x33, x34, x35, x36, x37, x38, x39, x40, x41, x42, x43, x44, x45, x46, x47, x48, x49, x50, x51, x52, x53, x54, x55, x56, x57, x58, x59, x60, x61, x62, x63], [(0, .var e.av.cells), (32, .var [.str [], .int .i64 0, .int .i64 0, .int .i64 0, .int .i64 0, .int .i64 0, .int .u8 0, .str []]), (736, .var [.str p, .int .i64 m, .int .i64 u, .int .i64 g, .int .i64 sz, .int .i64 tm, .int .u8 ty.toNat, .str lk])], N⟩ [] (FinH p m u' g' sz tm' ty lk) := by
  intro x3 x5 x6 x7 x8 x9 x10 x11 x12 x13 x14 x15 x16 x17 x18 x19 x20 x21 x22 x23 x24 x25 x26 x27 x28 x29 x30 x31 x32 x33 x34 x35 x36 x37 x38 x39 x40 x41 x42 x43 x44 x45 x46 x47 x48 x49 x50 x51 x52 x53 x54 x55 x56 x57 x58 x59 x60 x61 x62 x63 N
  have c := s58 e.uid
  cases hf : idB e.uid with
  | true =>
    rw [hf] at c h6
    rw [if_pos rfl] at h6
    subst h6
    have ih := q97_7 e hl p lk m u' g sz tm ty g' h7 tm' h8
    have gg := trivial; repeat' first | simp (maxSteps := 2000000) (disch := omega) only [gg, p97_6, c, go_sem] | (refine br ?_ ?_ <;> intro gg <;> try (exfalso; omega)) | (refine And.intro ?_ ?_; focus omega) | omega
    apply ih
  | false =>
    rw [hf] at c h6
    rw [if_neg (by decide)] at h6
    subst h6
    have ih := q97_7 e hl p lk m 0 g sz tm ty g' h7 tm' h8
    have gg := trivial; repeat' first | simp (maxSteps := 2000000) (disch := omega) only [gg, p97_6, c, go_sem] | (refine br ?_ ?_ <;> intro gg <;> try (exfalso; omega)) | (refine And.intro ?_ ?_; focus omega) | omega
    apply ih
theorem q97_5 (e : Ent) (hl : e.link.length ≤ 1000000) (p lk : List UInt8) (m u g sz tm : Int) (ty : UInt8) (lk' : List UInt8) (h5 : lk' = if linkE e.link = true then lk else [112, 97, 120]) (u' : Int) (h6 : u' = if idB e.uid = true then u else 0) (g' : Int) (h7 : g' = if idB e.gid = true then g else 0) (tm' : Int) (h8 : tm' = if timeB e.time = true then tm else 0) : ∀ (x3 x5 x6 x7 x8 x9 x10 x11 x12 x13 x14 x15 x16 x17 x18 x19 x20 x21 x22 x23 x24 x25 x26 x27 x28 x29 x30 x31 x32 x33 x34 x35 x36 x37 x38 x39 x40 x41 x42 x43 x44 x45 x46 x47 x48 x49 x50 x51 x52 x53 x54 x55 x56 x57 x58 x59 x60 x61 x62 x63 : AVal) (N : Nat), EX AA 0 p97_5 ⟨[e.av, .ptr 0 0, .ptr 32 0, x3, .ptr 736 0, x5, x6, x7, x8, x9, x10, x11, x12, x13, x14, x15, x16, x17, x18, x19, x20, x21, x22, x23, x24, x25, x26, x27, x28, x29, x30, x31, x32, x33, x34, x35, x36, x37, x38, x39, x40, x41, x42, x43, x44, x45, x46, x47, x48, x49, x50, x51, x52, x53, x54, x55, x56, x57, x58, x59, x60, x61, x62, x63], [(0, .var e.av.cells), (32, .var [.str [], .int .i64 0, .int .i64 0, .int .i64 0, .int .i64 0, .int .i64 0, .int .u8 0, .str []]), (736, .var [.str p, .int .i64 m, .int .i64 u, .int .i64 g, .int .i64 sz, .int .i64 tm, .int .u8 ty.toNat, .str lk])], N⟩ [] (FinH p m u' g' sz tm' ty lk') := by
  intro x3 x5 x6 x7 x8 x9 x10 x11 x12 x13 x14 x15 x16 x17 x18 x19 x20 x21 x22 x23 x24 x25 x26 x27 x28 x29 x30 x31 x32 x33 x34 x35 x36 x37 x38 x39 x40 x41 x42 x43 x44 x45 x46 x47 x48 x49 x50 x51 x52 x53 x54 x55 x56 x57 x58 x59 x60 x61 x62 x63 N
  have c := s59 e.link hl
  by_cases hz : e.link = []
  · rw [hz] at h5
    have e0 : linkE [] = true := rfl
    rw [e0, if_pos rfl] at h5
    subst h5
    have ih := q97_6 e hl p lk' m u g sz tm ty u' h6 g' h7 tm' h8
    have gg := trivial; repeat' first | simp (maxSteps := 2000000) (disch := omega) only [gg, p97_5, decide_eq_true hz, go_sem] | (refine br ?_ ?_ <;> intro gg <;> try (exfalso; omega)) | (refine And.intro ?_ ?_; focus omega) | omega
    apply ih
  · rw [linkE_ne hz] at h5
    have hz2 := decide_eq_false hz
    cases hf : linkB e.link with
    | true =>
      rw [hf] at c h5
      rw [if_pos rfl] at h5
      subst h5
      have ih := q97_6 e hl p lk' m u g sz tm ty u' h6 g' h7 tm' h8
      have gg := trivial; repeat' first | simp (maxSteps := 2000000) (disch := omega) only [gg, p97_5, c, hz2, go_sem] | (refine br ?_ ?_ <;> intro gg <;> try (exfalso; omega)) | (refine And.intro ?_ ?_; focus omega) | omega
      apply ih
    | false =>
      rw [hf] at c h5
      rw [if_neg (by decide)] at h5
      subst h5
      have ih := q97_6 e hl p [112, 97, 120] m u g sz tm ty u' h6 g' h7 tm' h8
      have gg := trivial; repeat' first | simp (maxSteps := 2000000) (disch := omega) only [gg, p97_5, c, hz2, go_sem] | (refine br ?_ ?_ <;> intro gg <;> try (exfalso; omega)) | (refine And.intro ?_ ?_; focus omega) | omega
      apply ih
theorem q97_4 (e : Ent) (hl : e.link.length ≤ 1000000) (f : Bool) (p lk : List UInt8) (m u g sz tm : Int) (ty : UInt8) (p' : List UInt8) (h4 : p' = if f = true then p else [112, 97, 120]) (lk' : List UInt8) (h5 : lk' = if linkE e.link = true then lk else [112, 97, 120]) (u' : Int) (h6 : u' = if idB e.uid = true then u else 0) (g' : Int) (h7 : g' = if idB e.gid = true then g else 0) (tm' : Int) (h8 : tm' = if timeB e.time = true then tm else 0) : ∀ (x3 x5 x6 x8 x9 x10 x11 x12 x13 x14 x15 x16 x17 x18 x19 x20 x21 x22 x23 x24 x25 x26 x27 x28 x29 x30 x31 x32 x33 x34 x35 x36 x37 x38 x39 x40 x41 x42 x43 x44 x45 x46 x47 x48 x49 x50 x51 x52 x53 x54 x55 x56 x57 x58 x59 x60 x61 x62 x63 : AVal) (N : Nat), EX AA 0 p97_4 ⟨[e.av, .ptr 0 0, .ptr 32 0, x3, .ptr 736 0, x5, x6, .bool f, x8, x9, x10, x11, x12, x13, x14, x15, x16, x17, x18, x19, x20, x21, x22, x23, x24, x25, x26, x27, x28, x29, x30, x31, x32, x33, x34, x35, x36, x37, x38, x39, x40, x41, x42, x43, x44, x45, x46, x47, x48, x49, x50, x51, x52, x53, x54, x55, x56, x57, x58, x59, x60, x61, x62, x63], [(0, .var e.av.cells), (32, .var [.str [], .int .i64 0, .int .i64 0, .int .i64 0, .int .i64 0, .int .i64 0, .int .u8 0, .str []]), (736, .var [.str p, .int .i64 m, .int .i64 u, .int .i64 g, .int .i64 sz, .int .i64 tm, .int .u8 ty.toNat, .str lk])], N⟩ [] (FinH p' m u' g' sz tm' ty lk') := by
  intro x3 x5 x6 x8 x9 x10 x11 x12 x13 x14 x15 x16 x17 x18 x19 x20 x21 x22 x23 x24 x25 x26 x27 x28 x29 x30 x31 x32 x33 x34 x35 x36 x37 x38 x39 x40 x41 x42 x43 x44 x45 x46 x47 x48 x49 x50 x51 x52 x53 x54 x55 x56 x57 x58 x59 x60 x61 x62 x63 N
  cases f with
  | true =>
    rw [if_pos rfl] at h4
    subst h4
    have ih := q97_5 e hl p' lk m u g sz tm ty lk' h5 u' h6 g' h7 tm' h8
    have gg := trivial; repeat' first | simp (maxSteps := 2000000) (disch := omega) only [gg, p97_4, go_sem] | (refine br ?_ ?_ <;> intro gg <;> try (exfalso; omega)) | (refine And.intro ?_ ?_; focus omega) | omega
    apply ih
  | false =>
    rw [if_neg (by decide)] at h4
    subst h4
    have ih := q97_5 e hl [112, 97, 120] lk m u g sz tm ty lk' h5 u' h6 g' h7 tm' h8
    have gg := trivial; repeat' first | simp (maxSteps := 2000000) (disch := omega) only [gg, p97_4, go_sem] | (refine br ?_ ?_ <;> intro gg <;> try (exfalso; omega)) | (refine And.intro ?_ ?_; focus omega) | omega
    apply ih
theorem types_at {k : Int} (hk : k = 1 ∨ k = 2 ∨ k = 3 ∨ k = 4) : 0 ≤ k ∧ k ≤ 4 ∧ ([48, 53, 48, 50, 49] : List UInt8)[k.toNat]? = some (typeB k) := by
  rcases hk with h | h | h | h <;> subst h <;> exact ⟨by omega, by omega, rfl⟩
theorem s97 (e : Ent) (hp : e.path.length ≤ 1000000) (hl : e.link.length ≤ 1000000) (hk : e.kind = 1 ∨ e.kind = 2 ∨ e.kind = 3 ∨ e.kind = 4) : callT AA 97 [e.av] [] = some ((hdrE e (recsE e)).av, []) := by
  obtain ⟨k0, k1, hx⟩ := types_at hk
  have h57 := s57 e.path hp
  have l5 : ([48, 53, 48, 50, 49] : List UInt8).length = 5 := rfl
  rw [hdrE_eq]
  have ih := q97_4 e hl (splitN e.path).2.2 e.path e.link e.mode e.uid e.gid e.data.l.length e.time (typeB e.kind) _ rfl _ rfl _ rfl _ rfl _ rfl
  unfold FinH at ih
  refine enter fn97 np97 rfl ?_
  rw [b97_p]
  show EX AA 0 p97_0 _ [] (Fin [(2, some (8, true))] 0 _ [])
  have gg := trivial; repeat' first | simp (maxSteps := 2000000) (disch := omega) only [gg, p97_0, p97_1, p97_2, p97_3, hx, h57, l5, go_sem] | (refine br ?_ ?_ <;> intro gg <;> try (exfalso; omega)) | (refine And.intro ?_ ?_; focus omega) | omega
  apply ih
end Go.Abs
namespace Go.Abs
open Am Lib
set_option maxRecDepth 20000
set_option linter.unusedSimpArgs false
theorem recV_nil : recV [] = .lit (.slice none 0 0) := rfl
theorem recH_nil : recH [] = [] := rfl
theorem recV_cons {a : Rcd} {l : List Rcd} : recV (a :: l) = .own 0 2 0 (l.length + 1) false := rfl
theorem recH_cons {a : Rcd} {l : List Rcd} : recH (a :: l) = [(0, .row ((a :: l).map Rcd.av) 2)] := rfl
set_option maxHeartbeats 40000000 in
theorem s22 (e : Ent) (hb : EntB e) : callT AA 22 [e.av] [] = some (recV (recsE e), recH (recsE e)) := by
  have c1 := s57 e.path hb.2.2.2.2.2.2.2
  have c2 := s58 e.gid
  have c3 := s58 e.uid
  have c4 := s60 e.time
  have c5 := s59 e.link hb.2.2.2.2.2.2.1
  have d1 := s47 e.gid hb.1 hb.2.1
  have d2 := s47 e.uid hb.2.2.1 hb.2.2.2.1
  have d3 := s47 e.time hb.2.2.2.2.1 hb.2.2.2.2.2.1
  clear hb
  unfold recsE rst3 rst4 rst5 rst6 rst7
  obtain ⟨pa, kd, md, u, g, tm, lk, dt⟩ := e
  simp only at *
  generalize idB g = f1 at *
  generalize idB u = f2 at *
  generalize timeB tm = f3 at *
  generalize itoa g = G at *
  generalize itoa u = U at *
  generalize itoa tm = T at *
  generalize splitN pa = sp at *
  obtain ⟨sp1, sp2, f4⟩ := sp
  simp only at *
  refine enter fn22 np22 rfl ?_
  by_cases hl : lk = []
  · have e0 : linkE lk = true := by rw [hl]; rfl
    have hz := decide_eq_true hl
    rw [e0]
    clear e0 hl c5
    cases f1 <;> cases f2 <;> cases f3 <;> cases f4
    all_goals
      simp only [recIf, if_true, Bool.false_eq_true, if_false, List.nil_append, List.cons_append, recV_nil, recV_cons, recH_nil, recH_cons, List.length_nil, List.length_cons]
      have gg := trivial; repeat' first | simp (maxSteps := 2000000) (disch := omega) only [gg, b22, c1, c2, c3, c4, d1, d2, d3, hz, gidB, linkpathB, mtimeB, pathB, uidB, go_sem] | (refine br ?_ ?_ <;> intro gg <;> try (exfalso; omega)) | (refine And.intro ?_ ?_; focus omega) | omega
  · rw [linkE_ne hl]
    have hz := decide_eq_false hl
    clear hl
    generalize linkB lk = f5 at *
    cases f1 <;> cases f2 <;> cases f3 <;> cases f4 <;> cases f5
    all_goals
      simp only [recIf, if_true, Bool.false_eq_true, if_false, List.nil_append, List.cons_append, recV_nil, recV_cons, recH_nil, recH_cons, List.length_nil, List.length_cons]
      have gg := trivial; repeat' first | simp (maxSteps := 2000000) (disch := omega) only [gg, b22, c1, c2, c3, c4, c5, d1, d2, d3, hz, gidB, linkpathB, mtimeB, pathB, uidB, go_sem] | (refine br ?_ ?_ <;> intro gg <;> try (exfalso; omega)) | (refine And.intro ?_ ?_; focus omega) | omega
end Go.Abs
namespace Go.Abs
open Am Lib
set_option maxRecDepth 20000
set_option linter.unusedSimpArgs false
theorem padN_zero {n : Nat} (h : padN n = 0) : n % 512 = 0 := by
  unfold padN at h
  omega
theorem padN_succ {n k : Nat} (h : padN n = k + 1) : n % 512 ≠ 0 ∧ padN (n + 1) = k := by
  unfold padN at *
  omega
theorem zs_succ (k : Nat) : zs (k + 1) = [0] ++ zs k := by rw [show k + 1 = 1 + k by omega, zs_add]; rfl
theorem h96 (r0 : List UInt8) : ∀ (k : Nat) (out : List UInt8) (q : Nat), q = out.length → out.length ≤ 2000000000 - k → padN out.length = k → r0 = out ++ zs k →
    HD AA 1 [0, 4] l96_0 ⟨[.own 1 1 0 q false, .junk, .junk, .junk, .lit (.slice none 0 0), .junk, .junk, .junk, .junk, .junk, .junk, .junk, .junk, .junk, .junk, .junk], [(1, .row (out.map .byte) 1)], 2⟩ [.blk 0, .code r96_0] (Fin [(4, none)] 1 (.own 1 1 0 r0.length false) [(1, .row (r0.map .byte) 1)])
  | 0, out, q, h1, h2, h3, h4 => by
    have hr : r0 = out := by simpa using h4
    have hm := padN_zero h3
    have e1 : (q : Int).tmod 512 = q % 512 := Int.tmod_eq_emod_of_nonneg (by omega)
    subst hr
    rw [← h1]
    refine hd_of (by unfold l96_0; rfl) ?_
    have gg := trivial; repeat' first | simp (maxSteps := 2000000) (disch := omega) only [gg, r96_0, e1, go_sem] | (refine br ?_ ?_ <;> intro gg <;> try (exfalso; omega)) | (refine And.intro ?_ ?_; focus omega) | omega
  | k + 1, out, q, h1, h2, h3, h4 => by
    obtain ⟨hm, hm2⟩ := padN_succ h3
    have e1 : (q : Int).tmod 512 = q % 512 := Int.tmod_eq_emod_of_nonneg (by omega)
    have ih := h96 r0 k (out ++ [0]) (q + 1) (by simp [h1]) (by simp; omega) (by simpa using hm2) (by
      rw [h4, zs_succ]
      simp)
    have e : (out.map AVal.byte).take q = out.map .byte := List.take_of_length_le (by simp; omega)
    refine hd_of (by unfold l96_0; rfl) ?_
    have gg := trivial; repeat' first | simp (maxSteps := 2000000) (disch := omega) only [gg, e, e1, map_snoc, lp_head, go_sem] | (refine br ?_ ?_ <;> intro gg <;> try (exfalso; omega)) | (refine And.intro ?_ ?_; focus omega) | omega
theorem padL_behind {out b : List UInt8} (h : out.length % 512 = 0) : padN (out ++ b).length = padN b.length ∧ out ++ padL b = (out ++ b) ++ zs (padN b.length) := by
  constructor
  · unfold padN
    rw [List.length_append]
    omega
  · simp [padL]
theorem s96 (out : List UInt8) (b : BS) (q : Nat) (hq : q = out.length) (ho : out.length ≤ 1000000000) (hb : b.l.length ≤ 100000000) (hm : out.length % 512 = 0) :
    callT AA 96 [.own 0 1 0 q false, b.av] [(0, .row (out.map .byte) 1)] = some (.own 1 1 0 (out ++ padL b.l).length false, [(1, .row ((out ++ padL b.l).map .byte) 1)]) := by
  obtain ⟨p1, p2⟩ := padL_behind (b := b.l) hm
  have pl := padN_lt b.l.length
  rw [p2]
  have hh := h96 (out ++ b.l ++ zs (padN b.l.length)) (padN b.l.length) (out ++ b.l) (q + b.l.length) (by simp [hq]) (by simp; omega) p1 rfl
  have e : (out.map AVal.byte).take q = out.map .byte := List.take_of_length_le (by simp; omega)
  generalize out ++ b.l ++ zs (padN b.l.length) = R at *
  refine enter fn96 np96 rfl ?_
  have gg := trivial; repeat' first | simp (maxSteps := 2000000) (disch := omega) only [gg, b96, e, ← List.map_append, lp_head, go_sem] | (refine br ?_ ?_ <;> intro gg <;> try (exfalso; omega)) | (refine And.intro ?_ ?_; focus omega) | omega
theorem h96o (bd : List UInt8) (r0 : List UInt8) : ∀ (k : Nat) (out : List UInt8) (q : Nat), q = out.length → out.length ≤ 2000000000 - k → padN out.length = k → r0 = out ++ zs k →
    HD AA 2 [0, 4] l96_0 ⟨[.own 2 1 0 q false, .junk, .junk, .junk, .lit (.slice none 0 0), .junk, .junk, .junk, .junk, .junk, .junk, .junk, .junk, .junk, .junk, .junk], [(1, .row (bd.map .byte) 1), (2, .row (out.map .byte) 1)], 4⟩ [.blk 0, .code r96_0] (Fin [(4, none)] 2 (.own 2 1 0 r0.length false) [(1, .row (bd.map .byte) 1), (2, .row (r0.map .byte) 1)])
  | 0, out, q, h1, h2, h3, h4 => by
    have hr : r0 = out := by simpa using h4
    have hm := padN_zero h3
    have e1 : (q : Int).tmod 512 = q % 512 := Int.tmod_eq_emod_of_nonneg (by omega)
    subst hr
    rw [← h1]
    refine hd_of (by unfold l96_0; rfl) ?_
    have gg := trivial; repeat' first | simp (maxSteps := 2000000) (disch := omega) only [gg, r96_0, e1, go_sem] | (refine br ?_ ?_ <;> intro gg <;> try (exfalso; omega)) | (refine And.intro ?_ ?_; focus omega) | omega
  | k + 1, out, q, h1, h2, h3, h4 => by
    obtain ⟨hm, hm2⟩ := padN_succ h3
    have e1 : (q : Int).tmod 512 = q % 512 := Int.tmod_eq_emod_of_nonneg (by omega)
    have ih := h96o bd r0 k (out ++ [0]) (q + 1) (by simp [h1]) (by simp; omega) (by simpa using hm2) (by
      rw [h4, zs_succ]
      simp)
    have e : (out.map AVal.byte).take q = out.map .byte := List.take_of_length_le (by simp; omega)
    refine hd_of (by unfold l96_0; rfl) ?_
    have gg := trivial; repeat' first | simp (maxSteps := 2000000) (disch := omega) only [gg, e, e1, map_snoc, lp_head, go_sem] | (refine br ?_ ?_ <;> intro gg <;> try (exfalso; omega)) | (refine And.intro ?_ ?_; focus omega) | omega
theorem s96o (out b : List UInt8) (q p : Nat) (hq : q = out.length) (hp : p = b.length) (ho : out.length ≤ 1000000000) (hb : b.length ≤ 100000000) (hm : out.length % 512 = 0) :
    callT AA 96 [.own 0 1 0 q false, .own 1 1 0 p false] [(0, .row (out.map .byte) 1), (1, .row (b.map .byte) 1)] = some (.own 2 1 0 (out ++ padL b).length false, [(1, .row (b.map .byte) 1), (2, .row ((out ++ padL b).map .byte) 1)]) := by
  obtain ⟨p1, p2⟩ := padL_behind (b := b) hm
  have pl := padN_lt b.length
  rw [p2]
  have hh := h96o b (out ++ b ++ zs (padN b.length)) (padN b.length) (out ++ b) (q + b.length) (by simp [hq]) (by simp; omega) p1 rfl
  have e : (out.map AVal.byte).take q = out.map .byte := List.take_of_length_le (by simp; omega)
  subst hp
  generalize out ++ b ++ zs (padN b.length) = R at *
  refine enter fn96 np96 rfl ?_
  have gg := trivial; repeat' first | simp (maxSteps := 2000000) (disch := omega) only [gg, b96, e, List.drop_zero, ← List.map_append, lp_head, go_sem] | (refine br ?_ ?_ <;> intro gg <;> try (exfalso; omega)) | (refine And.intro ?_ ?_; focus omega) | omega
end Go.Abs
namespace Go.Abs
open Am Lib
set_option maxRecDepth 20000
set_option linter.unusedSimpArgs false
theorem s53 (out : List UInt8) (q : Nat) (hq : q = out.length) (ho : out.length ≤ 200000000) (hm : out.length % 512 = 0) (n : Int) (hn : 0 ≤ n) (hn' : n ≤ 1000000) (e : Ent) (hb : EntB e) (hk : e.kind = 1 ∨ e.kind = 2 ∨ e.kind = 3 ∨ e.kind = 4) (hd : e.data.l.length ≤ 1000000) (hok : pieceOk n e) :
    callT AA 53 [.own 0 1 0 q false, .int .i64 n, e.av] [(0, .row (out.map .byte) 1)] = some (.own 1 1 0 (out ++ pieceL n e).length false, [(1, .row ((out ++ pieceL n e).map .byte) 1)]) := by
  have h22 := s22 e hb
  have h97 := s97 e hb.2.2.2.2.2.2.2 hb.2.2.2.2.2.2.1 hk
  have hpl := fold_le (recsE e) (hdE e) hb.2.2.2.2.2.2.2 hb.2.2.2.2.2.2.1
  have h95 := s95 (hdrE e (recsE e)) hpl.1 hpl.2 hok.1
  have hl0 := encB_length (hdrE e (recsE e))
  have hpn := padN_lt e.data.l.length
  have hpe := padL_length e.data.l
  by_cases h0 : recsE e = []
  · have e1 : pieceL n e = encB (hdrE e (recsE e)) ++ padL e.data.l := by
      unfold pieceL preE
      rw [if_pos h0, List.nil_append]
    rw [e1]
    rw [h0, recV_nil, recH_nil] at h22
    generalize hH : hdrE e (recsE e) = H at *
    generalize hB : encB H = B at *
    have h96 := s96 (out ++ B) e.data (q + 512) (by simp [hq, hl0]) (by simp; omega) (by omega) (by simp [hl0]; omega)
    rw [List.append_assoc] at h96
    have hx1 : (out.map AVal.byte).take q = out.map AVal.byte := List.take_of_length_le (by simp; omega)
    have hx2 : (B.map AVal.byte).take 512 = B.map AVal.byte := List.take_of_length_le (by simp; omega)
    generalize out ++ (B ++ padL e.data.l) = R at *
    simp only [Hd.av, Ent.av] at *
    refine enter fn53 np53 rfl ?_
    have gg := trivial; repeat' first | simp (maxSteps := 2000000) (disch := omega) only [gg, b53, h22, h97, h95, h96, hx1, hx2, hl0, List.drop_zero, ← List.map_append, go_sem] | (refine br ?_ ?_ <;> intro gg <;> try (exfalso; omega)) | (refine And.intro ?_ ?_; focus omega) | omega
  · obtain ⟨body, hbd⟩ := Option.isSome_iff_exists.1 (hok.2 h0).1
    have hbe : bodyE e = body := by unfold bodyE; rw [hbd]; rfl
    have hok2 := (hok.2 h0).2
    rw [hbe] at hok2
    have hbl := paxE_le _ none [] body (by simp) hbd
    have hi := itoa_le (n := n) (by omega) (by omega)
    have h47 := s47 n (by omega) (by omega)
    have h95x := s95 (hdX n body) (by simp [hdX]; omega) (by simp [hdX]) hok2
    have hl1 := encB_length (hdX n body)
    have hrl : (recsE e).length ≤ 5 := by
      unfold recsE rst3 rst4 rst5 rst6 rst7 recIf
      repeat' split
      all_goals simp
    have h94 := s94 false true (recsE e) (by omega) (rcd_recsE hb)
    rw [hbd] at h94
    unfold paxRV paxH at h94
    have hpbl := padL_length body
    have hpbn := padN_lt body.length
    have e1 : out ++ pieceL n e = out ++ encB (hdX n body) ++ padL body ++ encB (hdrE e (recsE e)) ++ padL e.data.l := by
      unfold pieceL preE
      rw [if_neg h0, hbe]
      simp only [List.append_assoc]
    rw [e1]
    rw [show recV (recsE e) = .own 0 2 0 (recsE e).length false by simp [recV, h0], show recH (recsE e) = [(0, .row ((recsE e).map Rcd.av) 2)] by simp [recH, h0]] at h22
    generalize hH : hdrE e (recsE e) = H at *
    generalize hB : encB H = B at *
    generalize hC : encB (hdX n body) = C at *
    replace h95x : callT AA 95 [.agg [.str (112 :: 97 :: 120 :: 47 :: Lib.itoa n), .int .i64 0, .int .i64 0, .int .i64 0, .int .i64 body.length, .int .i64 0, .int .u8 120, .str []]] [] = some (.tuple [.own 0 1 0 512 false, .int .i64 0], [(0, .row (C.map .byte) 1)]) := h95x
    have hrp : 0 < (recsE e).length := by
      cases hq : recsE e with
      | nil => exact (h0 hq).elim
      | cons a b => simp
    have hrt : ((recsE e).map Rcd.av).take (recsE e).length = (recsE e).map Rcd.av := List.take_of_length_le (by simp)
    have h96x := s96o (out ++ C) body (q + 512) body.length (by simp [hq, hl1]) rfl (by simp; omega) (by omega) (by simp [hl1]; omega)
    have pb : (padL body).length % 512 = 0 := by
      rw [hpbl]
      unfold padN
      omega
    have hl2 : (out ++ C ++ padL body).length = out.length + 512 + (padL body).length := by simp [hl1]; omega
    have hl3 : (out ++ C).length = q + 512 := by simp [hl1, hq]
    have h96 := s96 (out ++ C ++ padL body ++ B) e.data ((out ++ C ++ padL body).length + 512) (by simp [hl0]; omega) (by rw [List.length_append, hl2, hl0]; omega) (by omega) (by rw [List.length_append, hl2, hl0]; omega)
    have hx0 : (body.map AVal.byte).take body.length = body.map AVal.byte := List.take_of_length_le (by simp)
    have hx1 : (out.map AVal.byte).take q = out.map AVal.byte := List.take_of_length_le (by simp; omega)
    have hx2 : (B.map AVal.byte).take 512 = B.map AVal.byte := List.take_of_length_le (by simp; omega)
    have hx3 : (C.map AVal.byte).take 512 = C.map AVal.byte := List.take_of_length_le (by simp; omega)
    generalize hO1 : out ++ C = O1 at *
    generalize hO2 : O1 ++ padL body = O2 at *
    have hx4 : (O2.map AVal.byte).take O2.length = O2.map AVal.byte := List.take_of_length_le (by simp)
    generalize hO3 : O2 ++ B = O3 at *
    have hy1 : out.map AVal.byte ++ C.map AVal.byte = O1.map .byte := by rw [← hO1, List.map_append]
    have hy3 : O2.map AVal.byte ++ B.map AVal.byte = O3.map .byte := by rw [← hO3, List.map_append]
    generalize O3 ++ padL e.data.l = R at *
    generalize hL2 : O2.length = L2 at *
    generalize recsE e = rs at *
    simp only [Hd.av, Ent.av] at *
    refine enter fn53 np53 rfl ?_
    have gg := trivial; repeat' first | simp (maxSteps := 2000000) (disch := omega) only [gg, b53, h22, h94, h47, h95x, h96x, h97, h95, h96, hrt, hx0, hx1, hx2, hx3, hx4, hy1, hy3, hl0, hl1, List.drop_zero, go_sem] | (refine br ?_ ?_ <;> intro gg <;> try (exfalso; omega)) | (refine And.intro ?_ ?_; focus omega) | omega
end Go.Abs
namespace Go.Abs
open Am Lib
set_option maxRecDepth 10000
set_option linter.unusedSimpArgs false
/-- what the code knows behind some entries, and these -/
structure CkOk (c : Ck) (done : List Ent) : Prop where
  ks : c.ks = done.map fun e => (e.path, e.kind)
  ord : ∀ d ∈ done, d.path = c.last ∨ cmpPath d.path c.last = -1
  size : 0 ≤ c.size ∧ c.size ≤ 1048576
theorem lk_kind (p : List UInt8) : ∀ done : List Ent, lk p (done.map fun e => (e.path, e.kind)) = kindF p done
  | [] => rfl
  | e :: r => by
    have ih := lk_kind p r
    simp only [List.map_cons, lk, kindF, ih]
    by_cases h : p = e.path
    · rw [if_pos h, if_pos h.symm]
    · rw [if_neg h, if_neg (fun hh => h hh.symm)]
theorem putK_new (p : List UInt8) (v : Int) : ∀ ks : Kinds, (∀ x ∈ ks, x.1 ≠ p) → putK p v ks = ks ++ [(p, v)]
  | [], _ => rfl
  | (q, u) :: r, h => by
    have ih := putK_new p v r fun x hx => h x (by simp [hx])
    have hq : ¬ p = q := fun hh => h (q, u) (by simp) hh.symm
    rw [putK, if_neg hq, ih]
    rfl
theorem ck_first : CkOk ⟨[], [], 0⟩ [] := ⟨rfl, by simp, by simp⟩
/-- the step, by the entries ahead -/
def stepE (done : List Ent) (last : List UInt8) (size : Int) (e : Ent) : Int :=
  if goodB e.path = false then 12 else
  if fieldsB e = false then 13 else
  if 0 < done.length ∧ cmpPath last e.path ≠ -1 then 13 else
  if (parentP e.path).2 = true ∧ kindF (parentP e.path).1 done ≠ 1 then 13 else
  if e.kind = 4 ∧ kindF e.link done ≠ 2 then 13 else
  if 1048576 < size + e.data.l.length then 18 else 0
theorem step_entry {c : Ck} {done : List Ent} (h : CkOk c done) (e : Ent) : (entryE c e).1 = stepE done c.last c.size e := by
  have hk := h.ks
  have h3 : (0 < c.ks.length ∧ 0 ≤ cmpPath c.last e.path) ↔ (0 < done.length ∧ cmpPath c.last e.path ≠ -1) := by
    rw [hk, List.length_map]
    have := path_range c.last e.path
    omega
  unfold entryE stepE
  rw [hk, lk_kind, lk_kind, ← hk]
  simp only [h3]
  repeat' split
  all_goals rfl
theorem step_ok {c : Ck} {done : List Ent} (h : CkOk c done) {e : Ent} (h0 : (entryE c e).1 = 0) : CkOk (entryE c e).2 (done ++ [e]) ∧ (entryE c e).2.last = e.path ∧ (entryE c e).2.size = c.size + e.data.l.length := by
  obtain ⟨a1, a2, a3⟩ := entryE_ok h0
  have hs := step_entry h e
  rw [h0] at hs
  have h3 : ¬ (0 < done.length ∧ cmpPath c.last e.path ≠ -1) := by
    intro hh
    unfold stepE at hs
    rw [if_pos hh] at hs
    split at hs
    · omega
    · split at hs
      · omega
      · omega
  have hn : ∀ d ∈ done, cmpPath d.path e.path = -1 := by
    intro d hd
    have hl : 0 < done.length := List.length_pos_of_mem hd
    have h4 : cmpPath c.last e.path = -1 := by
      apply Classical.byContradiction
      intro h5
      exact h3 ⟨hl, h5⟩
    rcases h.ord d hd with h5 | h5
    · rw [h5]; exact h4
    · exact path_trans h5 h4
  have hks : (entryE c e).2.ks = putK e.path e.kind c.ks := by
    clear hs a1 a2 a3 hn h3
    unfold entryE at h0 ⊢
    by_cases g1 : goodB e.path = false
    · rw [if_pos g1] at h0; simp at h0
    rw [if_neg g1] at h0 ⊢
    by_cases g2 : fieldsB e = false
    · rw [if_pos g2] at h0; simp at h0
    rw [if_neg g2] at h0 ⊢
    by_cases g3 : 0 < c.ks.length ∧ 0 ≤ cmpPath c.last e.path
    · rw [if_pos g3] at h0; simp at h0
    rw [if_neg g3] at h0 ⊢
    by_cases g4 : (parentP e.path).2 = true ∧ lk (parentP e.path).1 c.ks ≠ 1
    · rw [if_pos g4] at h0; simp at h0
    rw [if_neg g4] at h0 ⊢
    by_cases g5 : e.kind = 4 ∧ lk e.link c.ks ≠ 2
    · rw [if_pos g5] at h0; simp at h0
    rw [if_neg g5] at h0 ⊢
    by_cases g6 : 1048576 < c.size + (e.data.l.length : Int)
    · rw [if_pos g6] at h0; simp at h0
    rw [if_neg g6] at h0 ⊢
  refine ⟨⟨?_, ?_, ?_⟩, a1, a3⟩
  · rw [hks, putK_new, h.ks]
    · simp
    · intro x hx hxp
      rw [h.ks] at hx
      obtain ⟨d, hd, he⟩ := List.mem_map.1 hx
      have h6 := hn d hd
      have h7 : d.path = e.path := by rw [← hxp, ← he]
      rw [h7, path_self] at h6
      omega
  · intro d hd
    rw [a1]
    rcases List.mem_append.1 hd with hd | hd
    · exact Or.inr (hn d hd)
    · rw [List.mem_singleton.1 hd]; exact Or.inl rfl
  · have := h.size
    omega
end Go.Abs
