import Derived.Test.YtambgnjkakdoeaaGreatDoorBlocks10
import Derived.ChangeSame
import Derived.Deep.Fields
import Derived.Deep.Slices
import Derived.ProofKit
/- PART OF A PROOF (texts joined by a program): F35 Q3 F36 F37 N5 B7 B3 F39 T6 F40 F41 F42 R2 Q6 Q4 F88 N6. -/
set_option linter.unusedVariables false
set_option linter.unusedSimpArgs false
set_option linter.unusedSectionVars false
namespace Go.Abs
open Am
set_option maxRecDepth 10000
set_option linter.unusedSimpArgs false
theorem sl_le (a : BS) (i j : Nat) : (a.sl i j).l.length ≤ a.l.length - i := by
  rw [BS.sl_l, List.length_take, List.length_drop]
  omega
theorem hdrR_lt {b : BS} (h : (rdH b).2.2 = true) : (hdrR b).l.length + 512 ≤ b.l.length := by
  unfold rdH at h
  by_cases c1 : b.l.length < 512 ∨ decOk (b.sl 0 512).l = false
  · rw [if_pos c1] at h; cases h
  have c2 : ¬ b.l.length < 512 := fun hh => c1 (.inl hh)
  have c3 : ¬ decOk (b.sl 0 512).l = false := fun hh => c1 (.inr hh)
  unfold hdrR
  rw [if_neg c2, if_neg c3]
  have h1 := sl_le b 512 b.l.length
  split
  · have h2 := sl_le (b.sl 512 b.l.length) (wholeN (decH (b.sl 0 512).l).size).toNat (b.sl 512 b.l.length).l.length
    omega
  · omega
theorem decH_le (l : List UInt8) : (decH l).path.length ≤ 1000000 ∧ (decH l).link.length ≤ 1000000 := by
  have h1 := textF_le l 345 155
  have h2 := textF_le l 0 100
  have h3 := textF_le l 157 100
  unfold decH
  refine ⟨?_, by show (textF l 157 100).length ≤ _; omega⟩
  show (if textF l 345 155 = [] then textF l 0 100 else textF l 345 155 ++ [47] ++ textF l 0 100).length ≤ _
  split
  · omega
  · simp only [List.length_append, List.length_cons, List.length_nil]; omega
theorem rdH_le2 (b : BS) : (rdH b).1.path.length ≤ 1000000 ∧ (rdH b).1.link.length ≤ 1000000 := by
  unfold rdH
  split
  · exact ⟨by decide, by decide⟩
  · split <;> exact decH_le _
theorem tellE_le {e : Ent} {r : Rcd} (h1 : e.path.length ≤ 1000000) (h2 : e.link.length ≤ 1000000) (hr : RcdOk r) : (tellE e r).1.path.length ≤ 1000000 ∧ (tellE e r).1.link.length ≤ 1000000 := by
  have := hr.2
  unfold tellE
  repeat' split
  all_goals exact ⟨by first | exact h1 | exact hr.2, by first | exact h2 | exact hr.2⟩
theorem toldE_le : ∀ (rs : List Rcd) (e : Ent), e.path.length ≤ 1000000 → e.link.length ≤ 1000000 → (∀ r ∈ rs, RcdOk r) → (toldE e rs).1.path.length ≤ 1000000 ∧ (toldE e rs).1.link.length ≤ 1000000
  | [], e, h1, h2, _ => ⟨h1, h2⟩
  | r :: rs, e, h1, h2, h3 => by
    have ht := tellE_le h1 h2 (h3 r (by simp))
    unfold toldE
    split
    · exact toldE_le rs _ ht.1 ht.2 fun x hx => h3 x (by simp [hx])
    · exact ht
theorem entP_ok {b : BS} {e : Ent} {r : BS} (h : entP b = some (e, r)) : (e.path.length ≤ 1000000 ∧ e.link.length ≤ 1000000) ∧ (∃ l, e.data = .mk false false l ∧ l.length ≤ b.l.length) ∧ r.l.length + 512 ≤ b.l.length := by
  unfold entP at h
  by_cases c0 : (rdH b).2.2 = false
  · rw [if_pos c0] at h; cases h
  rw [if_neg c0] at h
  have c0 : (rdH b).2.2 = true := by simpa using c0
  have hr := hdrR_lt c0
  by_cases c1 : (rdH b).1.type = 120
  · rw [if_pos c1] at h
    cases c2 : paxD (rdH b).2.1.l with
    | none => rw [c2] at h; cases h
    | some rs =>
      rw [c2] at h
      simp only at h
      by_cases c3 : (rdH (hdrR b)).2.2 = false
      · rw [if_pos c3] at h; cases h
      rw [if_neg c3] at h
      have c3 : (rdH (hdrR b)).2.2 = true := by simpa using c3
      have hr2 := hdrR_lt c3
      have hp := rdH_le2 (hdrR b)
      have ht := toldE_le rs (mkE (rdH (hdrR b)).1) hp.1 hp.2 (paxD_ok c2).1
      by_cases c4 : (toldE (mkE (rdH (hdrR b)).1) rs).2 = true
      · rw [if_pos c4] at h
        cases h
        have := rdH_le (hdrR b)
        exact ⟨ht, ⟨_, rfl, by omega⟩, by omega⟩
      · rw [if_neg c4] at h; cases h
  · rw [if_neg c1] at h
    cases h
    have hp := rdH_le2 b
    exact ⟨hp, ⟨_, rfl, rdH_le b⟩, hr⟩
/-- the entries of blocks -/
def readP : Nat → BS → List Ent → Option (List Ent)
  | 0, _, acc => some acc
  | k + 1, b, acc => if b.l = [] then some acc else
    match entP b with
    | none => none
    | some (e, r) => if acc.length = 200 then none else readP k r (acc ++ [e])
/-- is this what was read? -/
def finR (l : List UInt8) : Option (List Ent) → Option (List Ent)
  | none => none
  | some t => if (checkT (t.map Ent.cp)).2 = 0 ∧ writeL t = l then some t else none
/-- an archive's tree -/
def readE (b : BS) : Option (List Ent) := if b.l.length < 1024 then none else finR b.l (readP b.l.length (b.sl 0 (b.l.length - 1024)) [])
def readV : Option (List Ent) → AVal
  | none => .tuple [.lit (.slice none 0 0), .iface 58 (.int .i64 16)]
  | some [] => .tuple [.lit (.slice none 0 0), .lit .nilIface]
  | some (e :: r) => .tuple [.own 0 8 0 (e :: r).length false, .lit .nilIface]
def readH : Option (List Ent) → Heap
  | none => []
  | some [] => []
  | some (e :: r) => [(0, .row ((e :: r).map Ent.av) 8)]
theorem readV_ne {t : List Ent} (h : t ≠ []) : readV (some t) = .tuple [.own 0 8 0 t.length false, .lit .nilIface] ∧ readH (some t) = [(0, .row (t.map Ent.av) 8)] := by
  cases t with
  | nil => exact (h rfl).elim
  | cons x y => exact ⟨rfl, rfl⟩
/-- entries as they are read -/
def RdE (e : Ent) : Prop := e.path.length ≤ 1000000 ∧ e.link.length ≤ 1000000 ∧ ∃ l, e.data = .mk false false l ∧ l.length ≤ 1000000
theorem rdE_ok {e : Ent} (h : RdE e) : EntOk e := by
  obtain ⟨h1, h2, l, h3, h4⟩ := h
  exact ⟨h2, h1, by rw [h3]; simp only [BS.l]; omega, by rw [h3]; rfl⟩
theorem w17no (c tmp : Bool) (t : List Ent) (hne : t ≠ []) (hl : t.length ≤ 1000000) (hq : ∀ e ∈ t, RdE e) (he : (checkT (t.map Ent.cp)).2 ≠ 0) :
    callT AA 17 [.view 8 (t.map Ent.av) c tmp] [] = some (.tuple [.lit (.slice none 0 0), .iface 58 (.int .i64 (checkT (t.map Ent.cp)).2)], []) := by
  cases t with
  | nil => exact (hne rfl).elim
  | cons e r =>
    have h := s17no c tmp e r hl (fun x hx => rdE_ok (hq x hx)) he (fun x hx => by
      obtain ⟨_, _, l, h3, h4⟩ := hq x hx
      rw [h3]
      simp only [BS.l]
      omega)
    unfold errV at h
    rw [if_neg he] at h
    exact h
theorem w17 (c tmp : Bool) (t : List Ent) (hne : t ≠ []) (hl : t.length ≤ 200) (hq : ∀ e ∈ t, RdE e) (he : (checkT (t.map Ent.cp)).2 = 0) :
    callT AA 17 [.view 8 (t.map Ent.av) c tmp] [] = some (.tuple [.own 0 1 0 (writeL t).length false, .lit .nilIface], [(0, .row ((writeL t).map .byte) 1)]) := by
  cases t with
  | nil => exact (hne rfl).elim
  | cons e r => exact s17 c tmp e r hl (fun x hx => rdE_ok (hq x hx)) he (checkT_pieces he)
set_option maxHeartbeats 4000000 in
theorem h24 (b0 : BS) (hb0 : b0.l.length ≤ 1000000) (R : Option (List Ent)) : ∀ (k : Nat) (b : BS) (acc : List Ent) (q : Nat), acc ≠ [] → q = acc.length → acc.length ≤ 200 → b.l.length ≤ k → b.l.length ≤ 1000000 → (∀ e ∈ acc, RdE e) → R = finR b0.l (readP k b acc) →
    HD AA 0 [0, 2, 3, 4, 5] l24_0 ⟨[b0.av, .junk, .lit (.slice none 0 0), .lit .nilIface, .ptr 0 0, .own 1 8 0 q false, .junk, .junk, .junk, .junk, .junk, .junk, .junk, .junk, .junk, .junk, .junk, .junk, .junk, .junk, .junk, .junk, .junk, .junk, .junk, .junk, .junk, .junk, .junk, .junk, .junk, .junk, .junk, .junk, .junk, .junk, .junk, .junk, .junk, .junk, .junk, .junk, .junk, .junk, .junk, .junk, .junk, .junk, .junk, .junk, .junk, .junk, .junk, .junk, .junk, .junk, .junk, .junk, .junk], [(0, .var [b.av]), (1, .row (acc.map Ent.av) 8)], 2⟩ [.blk 0, .code r24_0] (Fin [(2, none), (3, none)] 0 (readV R) (readH R))
  | k, b, acc, q, h0, h1, h2, h3, h4, h5, h6 => by
    have et : (acc.map Ent.av).take q = acc.map Ent.av := List.take_of_length_le (by simp; omega)
    by_cases hl : b.l = []
    · have hl0 : b.l.length = 0 := by rw [hl]; rfl
      have hr : readP k b acc = some acc := by
        cases k with
        | zero => rfl
        | succ k => unfold readP; rw [if_pos hl]
      rw [hr] at h6
      simp only [finR] at h6
      refine hd_of (by unfold l24_0; rfl) ?_
      by_cases hc : (checkT (acc.map Ent.cp)).2 = 0
      · have hw := w17 false true acc h0 h2 h5 hc
        have hwl : (writeL acc).length ≤ 1000000000 := by
          have := outL_le acc 0 (checkT_pieces hc)
          unfold writeL
          rw [List.length_append, zeros1024_length]
          omega
        generalize writeL acc = W at *
        have hs := fun c t => s62v W c t b0
        by_cases hd : W = b0.l
        · rw [if_pos ⟨hc, hd⟩] at h6
          rw [h6, (readV_ne h0).1, (readV_ne h0).2]
          have gg := trivial; repeat' first | simp (maxSteps := 2000000) (disch := omega) only [gg, r24_0, et, hw, hs, decide_eq_true hd, go_sem] | (refine br ?_ ?_ <;> intro gg <;> try (exfalso; omega)) | (refine And.intro ?_ ?_; focus omega) | omega
          simp [h1]
        · rw [if_neg (fun h => hd h.2)] at h6
          rw [h6]
          unfold readV readH
          have gg := trivial; repeat' first | simp (maxSteps := 2000000) (disch := omega) only [gg, r24_0, et, hw, hs, decide_eq_false hd, go_sem] | (refine br ?_ ?_ <;> intro gg <;> try (exfalso; omega)) | (refine And.intro ?_ ?_; focus omega) | omega
      · have hw := w17no false true acc h0 (by omega) h5 hc
        rw [if_neg (fun h => hc h.1)] at h6
        rw [h6]
        unfold readV readH
        have gg := trivial; repeat' first | simp (maxSteps := 2000000) (disch := omega) only [gg, r24_0, et, hw, go_sem] | (refine br ?_ ?_ <;> intro gg <;> try (exfalso; omega)) | (refine And.intro ?_ ?_; focus omega) | omega
    · have hl0 : 0 < b.l.length := by
        cases hz : b.l with
        | nil => exact (hl hz).elim
        | cons x y => simp
      match k, h3, h6 with
      | 0, h3, h6 => omega
      | k + 1, h3, h6 =>
        have hf := s61f b h4
        unfold EntR at hf
        unfold readP at h6
        rw [if_neg hl] at h6
        refine hd_of (by unfold l24_0; rfl) ?_
        cases hp : entP b with
        | none =>
          rw [hp] at hf h6
          simp only [finR] at h6
          rw [h6]
          unfold readV readH
          rcases hf with ⟨e, r, hf⟩ | ⟨e, r, l, hf⟩
          · simp only [entCs] at hf
            have gg := trivial; repeat' first | simp (maxSteps := 2000000) (disch := omega) only [gg, hf, lp_head, go_sem] | (refine br ?_ ?_ <;> intro gg <;> try (exfalso; omega)) | (refine And.intro ?_ ?_; focus omega) | omega
          · simp only [entCs] at hf
            have gg := trivial; repeat' first | simp (maxSteps := 2000000) (disch := omega) only [gg, hf, lp_head, go_sem] | (refine br ?_ ?_ <;> intro gg <;> try (exfalso; omega)) | (refine And.intro ?_ ?_; focus omega) | omega
        | some er =>
          obtain ⟨e, r⟩ := er
          rw [hp] at hf h6
          obtain ⟨⟨p1, p2⟩, ⟨l, p3, p4⟩, p5⟩ := entP_ok hp
          simp only [p3, BS.l, entCs] at hf
          simp only at h6
          by_cases hq : acc.length = 200
          · rw [if_pos hq] at h6
            simp only [finR] at h6
            rw [h6]
            unfold readV readH
            have gg := trivial; repeat' first | simp (maxSteps := 2000000) (disch := omega) only [gg, hf, lp_head, go_sem] | (refine br ?_ ?_ <;> intro gg <;> try (exfalso; omega)) | (refine And.intro ?_ ?_; focus omega) | omega
          · rw [if_neg hq] at h6
            have ih := h24 b0 hb0 R k r (acc ++ [e]) (q + 1) (by simp) (by simp [h1]) (by simp; omega) (by omega) (by omega) (by
              intro x hx
              rcases List.mem_append.1 hx with hx | hx
              · exact h5 x hx
              · rw [List.mem_singleton.1 hx]
                exact ⟨p1, p2, l, p3, by omega⟩) h6
            simp only [List.map_append, List.map_cons, List.map_nil, Ent.av, p3, mk_av] at ih et
            have gg := trivial; repeat' first | simp (maxSteps := 2000000) (disch := omega) only [gg, hf, et, lp_head, go_sem] | (refine br ?_ ?_ <;> intro gg <;> try (exfalso; omega)) | (refine And.intro ?_ ?_; focus omega) | omega
set_option maxHeartbeats 4000000 in
theorem s24 (b : BS) (hb : b.l.length ≤ 1000000) : callT AA 24 [b.av] [] = some (readV (readE b), readH (readE b)) := by
  refine enter fn24 np24 rfl ?_
  generalize hR : readE b = R
  unfold readE at hR
  by_cases c0 : b.l.length < 1024
  · rw [if_pos c0] at hR
    rw [← hR]
    unfold readV readH
    have gg := trivial; repeat' first | simp (maxSteps := 2000000) (disch := omega) only [gg, b24, go_sem] | (refine br ?_ ?_ <;> intro gg <;> try (exfalso; omega)) | (refine And.intro ?_ ?_; focus omega) | omega
  rw [if_neg c0] at hR
  have e0 : ((b.l.length : Int) - 1024).toNat = b.l.length - 1024 := by omega
  have gg := trivial; repeat' first | simp (maxSteps := 2000000) (disch := omega) only [gg, b24, e0, lp_head, go_sem] | (refine br ?_ ?_ <;> intro gg <;> try (exfalso; omega)) | (refine And.intro ?_ ?_; focus omega) | omega
  generalize hb1 : b.sl 0 (b.l.length - 1024) = b1 at *
  have hb2 : b1.l.length ≤ b.l.length := by
    have := sl_le b 0 (b.l.length - 1024)
    rw [hb1] at this
    omega
  obtain ⟨k, hk⟩ : ∃ k, b.l.length = k + 1 := ⟨b.l.length - 1, by omega⟩
  rw [hk] at hR
  unfold readP at hR
  refine hd_of (by unfold l24_0; rfl) ?_
  by_cases hl : b1.l = []
  · have hl0 : b1.l.length = 0 := by rw [hl]; rfl
    rw [if_pos hl] at hR
    simp only [finR] at hR
    have hcn : (checkT (([] : List Ent).map Ent.cp)).2 = 0 := rfl
    have hwn : writeL [] = zeros1024 := rfl
    have hs := fun c t => s62v zeros1024 c t b
    have hz := zeros1024_take
    have hzl := zeros1024_length
    rw [hwn] at hR
    by_cases hd : zeros1024 = b.l
    · rw [if_pos ⟨hcn, hd⟩] at hR
      rw [← hR]
      unfold readV readH
      have gg := trivial; repeat' first | simp (maxSteps := 2000000) (disch := omega) only [gg, r24_0, s17n, hs, decide_eq_true hd, hz, hzl, go_sem] | (refine br ?_ ?_ <;> intro gg <;> try (exfalso; omega)) | (refine And.intro ?_ ?_; focus omega) | omega
    · rw [if_neg (fun h => hd h.2)] at hR
      rw [← hR]
      unfold readV readH
      have gg := trivial; repeat' first | simp (maxSteps := 2000000) (disch := omega) only [gg, r24_0, s17n, hs, decide_eq_false hd, hz, hzl, go_sem] | (refine br ?_ ?_ <;> intro gg <;> try (exfalso; omega)) | (refine And.intro ?_ ?_; focus omega) | omega
  · have hl0 : 0 < b1.l.length := by
      cases hz : b1.l with
      | nil => exact (hl hz).elim
      | cons x y => simp
    rw [if_neg hl] at hR
    have hf := s61f b1 (by omega)
    unfold EntR at hf
    cases hp : entP b1 with
    | none =>
      rw [hp] at hf hR
      simp only [finR] at hR
      rw [← hR]
      unfold readV readH
      rcases hf with ⟨e, r, hf⟩ | ⟨e, r, l, hf⟩
      · simp only [entCs] at hf
        have gg := trivial; repeat' first | simp (maxSteps := 2000000) (disch := omega) only [gg, hf, lp_head, go_sem] | (refine br ?_ ?_ <;> intro gg <;> try (exfalso; omega)) | (refine And.intro ?_ ?_; focus omega) | omega
      · simp only [entCs] at hf
        have gg := trivial; repeat' first | simp (maxSteps := 2000000) (disch := omega) only [gg, hf, lp_head, go_sem] | (refine br ?_ ?_ <;> intro gg <;> try (exfalso; omega)) | (refine And.intro ?_ ?_; focus omega) | omega
    | some er =>
      obtain ⟨e, r⟩ := er
      rw [hp] at hf hR
      obtain ⟨⟨p1, p2⟩, ⟨l, p3, p4⟩, p5⟩ := entP_ok hp
      simp only [p3, BS.l, entCs] at hf
      simp only [List.length_nil, List.nil_append] at hR
      rw [if_neg (by omega)] at hR
      have ih := h24 b hb R k r [e] 1 (by simp) rfl (by simp) (by omega) (by omega) (by
        intro x hx
        rw [List.mem_singleton.1 hx]
        exact ⟨p1, p2, l, p3, by omega⟩) hR.symm
      simp only [List.map_cons, List.map_nil, Ent.av, p3, mk_av] at ih
      have gg := trivial; repeat' first | simp (maxSteps := 2000000) (disch := omega) only [gg, hf, lp_head, go_sem] | (refine br ?_ ?_ <;> intro gg <;> try (exfalso; omega)) | (refine And.intro ?_ ?_; focus omega) | omega
end Go.Abs
namespace Go.Abs
open Am
set_option maxRecDepth 10000
set_option linter.unusedSimpArgs false
theorem pad_whole (l : List UInt8) : ((padL l).length : Int) = wholeN l.length := by
  rw [padL_length]
  unfold padN wholeN
  omega
/-- a header and its bytes are read -/
theorem rd_block {b : BS} {h : Hd} {body rest : List UInt8} (hb : b.l = encB h ++ (padL body ++ rest)) (hok : encOk h = true) (hs : h.size = body.length) :
    (rdH b).1 = h ∧ (rdH b).2.1.l = body ∧ (rdH b).2.2 = true ∧ (hdrR b).l = rest := by
  have hl := encB_length h
  have hp := pad_whole body
  have hp2 := padL_length body
  have hbl : b.l.length = 512 + (padL body).length + rest.length := by rw [hb]; simp [hl]; omega
  have h0 : (b.sl 0 512).l = encB h := by
    rw [BS.sl_l, hb]
    simp only [List.drop_zero, Nat.sub_zero]
    exact List.take_left' hl
  have h1 : (b.sl 512 b.l.length).l = padL body ++ rest := by
    rw [BS.sl_l, List.take_of_length_le (by simp), hb]
    exact List.drop_left' hl
  have hd := decOk_encB hok
  have hdh := decH_encB hok
  have c1 : ¬ (b.l.length < 512 ∨ decOk (b.sl 0 512).l = false) := by
    rw [h0, hd]
    simp
    omega
  have c2 : wholeN h.size ≤ (b.sl 512 b.l.length).l.length := by
    rw [h1, List.length_append, hs]
    omega
  refine ⟨?_, ?_, ?_, ?_⟩
  · unfold rdH
    rw [if_neg c1, h0, hdh, if_pos c2]
  · unfold rdH
    rw [if_neg c1, h0, hdh, if_pos c2]
    simp only []
    rw [BS.sl_l, h1, hs]
    simp only [List.drop_zero, Nat.sub_zero, Int.toNat_natCast]
    unfold padL
    rw [List.append_assoc]
    exact List.take_left' rfl
  · unfold rdH
    rw [if_neg c1, h0, hdh, if_pos c2]
  · unfold hdrR
    rw [if_neg (by omega), h0, hd, if_neg (by simp), hdh, if_pos c2, BS.sl_l, h1, hs, List.take_of_length_le (by simp)]
    refine List.drop_left' ?_
    omega
/-- an entry as it is read -/
def rdEnt (e : Ent) : Ent := { e with data := .mk false false e.data.l }
theorem kind_type {k : Int} (h : k = 1 ∨ k = 2 ∨ k = 3 ∨ k = 4) : kindB (typeB k) = k ∧ typeB k ≠ 120 := by
  rcases h with rfl | rfl | rfl | rfl <;> decide
theorem told_back {e : Ent} (hf : FieldsOk e) (d : BS) : toldE ⟨if (splitN e.path).2.2 then e.path else paxB, e.kind, e.mode, if idB e.uid then e.uid else 0, if idB e.gid then e.gid else 0, if timeB e.time then e.time else 0, if linkE e.link then e.link else paxB, d⟩ (recsE e) = (⟨e.path, e.kind, e.mode, e.uid, e.gid, e.time, e.link, d⟩, true) := by
  have g := atoiV_itoa (n := e.gid) (by have := hf.gid; omega) (by have := hf.gid; omega)
  have u := atoiV_itoa (n := e.uid) (by have := hf.uid; omega) (by have := hf.uid; omega)
  have t := atoiV_itoa (n := e.time) (by have := hf.time; omega) (by have := hf.time; omega)
  unfold recsE rst3 rst4 rst5 rst6 rst7
  cases idB e.gid <;> cases linkE e.link <;> cases timeB e.time <;> cases (splitN e.path).2.2 <;> cases idB e.uid <;> simp [recIf, toldE, tellE, gidB, linkpathB, mtimeB, pathB, uidB, g, u, t]
/-- a piece is read -/
theorem entP_piece {b : BS} {n : Nat} {e : Ent} {rest : List UInt8} (hb : b.l = pieceL n e ++ rest) (hok : pieceOk n e) (hf : FieldsOk e) : ∃ r : BS, entP b = some (rdEnt e, r) ∧ r.l = rest := by
  have hk : e.kind = 1 ∨ e.kind = 2 ∨ e.kind = 3 ∨ e.kind = 4 := by
    rcases hf.kinds with h | h | h | h
    · exact .inl h.1
    · exact .inr (.inl h.1)
    · exact .inr (.inr (.inl h.1))
    · exact .inr (.inr (.inr h.1))
  obtain ⟨k1, k2⟩ := kind_type hk
  have hsz : (hdrE e (recsE e)).size = e.data.l.length := by rw [hdrE_eq]
  have hty : (hdrE e (recsE e)).type = typeB e.kind := by rw [hdrE_eq]
  have hmk : mkE (hdrE e (recsE e)) = ⟨if (splitN e.path).2.2 then e.path else paxB, e.kind, e.mode, if idB e.uid then e.uid else 0, if idB e.gid then e.gid else 0, if timeB e.time then e.time else 0, if linkE e.link then e.link else paxB, .nil⟩ := by
    unfold mkE
    rw [hdrE_eq]
    simp only [k1]
  have htold := told_back hf .nil
  obtain ⟨ok1, ok2⟩ := hok
  by_cases hr : recsE e = []
  · have hp : pieceL n e = encB (hdrE e (recsE e)) ++ padL e.data.l := by
      unfold pieceL preE
      rw [if_pos hr, List.nil_append]
    rw [hp, List.append_assoc] at hb
    obtain ⟨r1, r2, r3, r4⟩ := rd_block hb ok1 hsz
    refine ⟨hdrR b, ?_, r4⟩
    unfold entP
    rw [if_neg (by rw [r3]; simp), r1, hty, if_neg k2, r2, hmk]
    rw [hr] at htold
    simp only [toldE, Prod.mk.injEq, and_true] at htold
    rw [htold]
    rfl
  · obtain ⟨o1, o2⟩ := ok2 hr
    obtain ⟨body, hbo⟩ := Option.isSome_iff_exists.1 o1
    have hbe : bodyE e = body := by unfold bodyE; rw [hbo]; rfl
    have hp : pieceL n e = encB (hdX n body) ++ (padL body ++ (encB (hdrE e (recsE e)) ++ padL e.data.l)) := by
      unfold pieceL preE
      rw [if_neg hr, hbe]
      simp
    rw [hbe] at o2
    have hb1 : b.l = encB (hdX n body) ++ (padL body ++ (encB (hdrE e (recsE e)) ++ (padL e.data.l ++ rest))) := by
      rw [hb, hp]
      simp
    obtain ⟨r1, r2, r3, r4⟩ := rd_block hb1 o2 rfl
    obtain ⟨q1, q2, q3, q4⟩ := rd_block r4 ok1 hsz
    refine ⟨hdrR (hdrR b), ?_, q4⟩
    unfold entP
    rw [if_neg (by rw [r3]; simp), r1, if_pos (show (hdX n body).type = 120 from rfl), r2, paxD_paxE hbo]
    simp only []
    rw [if_neg (by rw [q3]; simp), q1, hmk, htold, q2]
    rfl
theorem readP_out : ∀ (t : List Ent) (i k : Nat) (b : BS) (acc : List Ent), b.l = outL i t → PiecesOk i t → (∀ e ∈ t, FieldsOk e) → b.l.length ≤ k → acc.length + t.length ≤ 200 → readP k b acc = some (acc ++ t.map rdEnt)
  | [], i, k, b, acc, hb, _, _, _, _ => by
    simp only [outL] at hb
    cases k with
    | zero => simp [readP]
    | succ k => simp [readP, hb]
  | e :: t, i, k, b, acc, hb, hp, hf, hk, hl => by
    obtain ⟨h1, h2, h3, h4⟩ := hp
    simp only [outL] at hb
    have hpl := pieceL_le h2 h3
    have hbl : b.l.length = (pieceL i e).length + (outL (i + 1) t).length := by rw [hb, List.length_append]
    obtain ⟨r, hr1, hr2⟩ := entP_piece hb h3 (hf e (by simp))
    obtain ⟨k, rfl⟩ : ∃ j, k = j + 1 := ⟨k - 1, by omega⟩
    have hne : b.l ≠ [] := by
      intro hh
      rw [hh] at hbl
      simp at hbl
      omega
    simp only [List.length_cons] at hl
    unfold readP
    rw [if_neg hne, hr1]
    simp only []
    rw [if_neg (by omega), readP_out t (i + 1) k r _ hr2 h4 (fun x hx => hf x (by simp [hx])) (by rw [hr2]; omega) (by simp; omega)]
    simp
theorem entryE_rd (c : Ck) {e f : Ent} (h1 : f.path = e.path) (h2 : f.kind = e.kind) (h3 : f.mode = e.mode) (h4 : f.uid = e.uid) (h5 : f.gid = e.gid) (h6 : f.time = e.time) (h7 : f.link = e.link) (h8 : f.data.l = e.data.l) : entryE c f = entryE c e := by
  have hf : fieldsB f = fieldsB e := by
    unfold fieldsB
    rw [h2, h3, h4, h5, h6, h7, h8]
  unfold entryE
  rw [hf, h1, h2, h7, h8]
/-- the same, their slices aside -/
def SameE (e f : Ent) : Prop := f.path = e.path ∧ f.kind = e.kind ∧ f.mode = e.mode ∧ f.uid = e.uid ∧ f.gid = e.gid ∧ f.time = e.time ∧ f.link = e.link ∧ f.data.l = e.data.l
theorem entryE_same {c : Ck} {e f : Ent} (h : SameE e f) : entryE c f = entryE c e := entryE_rd c h.1 h.2.1 h.2.2.1 h.2.2.2.1 h.2.2.2.2.1 h.2.2.2.2.2.1 h.2.2.2.2.2.2.1 h.2.2.2.2.2.2.2
theorem checkL_map (g : Ent → Ent) (hg : ∀ e, SameE e (g e)) : ∀ (t : List Ent) (c : Ck) (i : Int), checkL c i (t.map g) = checkL c i t
  | [], c, i => rfl
  | e :: t, c, i => by
    simp only [List.map_cons, checkL]
    rw [entryE_same (hg e), checkL_map g hg t]
theorem checkT_map (g : Ent → Ent) (hg : ∀ e, SameE e (g e)) (t : List Ent) : checkT (t.map g) = checkT t := by
  unfold checkT
  rw [List.length_map, checkL_map g hg]
theorem same_cp (e : Ent) : SameE e e.cp := ⟨rfl, rfl, rfl, rfl, rfl, rfl, rfl, cp_l⟩
theorem same_rd (e : Ent) : SameE e (rdEnt e) := ⟨rfl, rfl, rfl, rfl, rfl, rfl, rfl, rfl⟩
theorem outL_rd : ∀ (t : List Ent) (i : Nat), outL i (t.map rdEnt) = outL i t
  | [], _ => rfl
  | e :: t, i => by
    simp only [List.map_cons, outL]
    rw [outL_rd t]
    rfl
theorem writeL_rd (t : List Ent) : writeL (t.map rdEnt) = writeL t := by
  unfold writeL
  rw [outL_rd]
/-- THERE AND BACK: a tree's archive is read as that tree -/
theorem readE_writeL (c tmp : Bool) {t : List Ent} (h : (checkT t).2 = 0) : readE (.mk c tmp (writeL t)) = some (t.map rdEnt) := by
  obtain ⟨hl, hg⟩ := checkT_good h
  have hp : PiecesOk 0 t := piecesOk_of t 0 (by omega) hg
  have hf : ∀ e ∈ t, FieldsOk e := fun e he => fields_ok (hg e he).2
  have hwl : (writeL t).length = (outL 0 t).length + 1024 := by
    unfold writeL
    rw [List.length_append, zeros1024_length]
  unfold readE
  rw [if_neg (show ¬ (BS.mk c tmp (writeL t)).l.length < 1024 by rw [mk_l]; omega)]
  show finR (writeL t) (readP (writeL t).length ((BS.mk c tmp (writeL t)).sl 0 ((writeL t).length - 1024)) []) = _
  have hb : ((BS.mk c tmp (writeL t)).sl 0 ((writeL t).length - 1024)).l = outL 0 t := by
    rw [BS.sl_l]
    simp only [BS.l, List.drop_zero, Nat.sub_zero]
    unfold writeL
    rw [List.length_append, zeros1024_length]
    exact List.take_left' (by omega)
  rw [readP_out t 0 (writeL t).length _ [] hb hp hf (by rw [hb]; omega) (by simpa using hl)]
  simp only [List.nil_append, finR]
  rw [checkT_map Ent.cp same_cp, checkT_map rdEnt same_rd, writeL_rd, if_pos ⟨h, rfl⟩]
end Go.Abs
namespace Go.Abs
open Am
set_option maxRecDepth 10000
set_option linter.unusedSimpArgs false
theorem sl_own_both {sz id z off len : Nat} {k k' : IntKind} {i j : Int} : aSlice sz (.own id z off len false) (some (.int k i)) (some (.int k' j)) none = if 0 ≤ i ∧ i ≤ j ∧ j ≤ len ∧ z = sz then some (.own id z (off + i.toNat) (j.toNat - i.toNat) false) else none := by
  by_cases h0 : 0 ≤ i
  · by_cases h1 : 0 ≤ j
    · rw [sl_own (a := i.toNat) (c := j.toNat) (by simp [natOr, toNat?, h0]) (by simp [natOr, toNat?, h1])]
      simp only [true_or, and_true]
      have : (i.toNat ≤ j.toNat ∧ j.toNat ≤ len ∧ z = sz) = (0 ≤ i ∧ i ≤ j ∧ j ≤ len ∧ z = sz) := by
        apply propext
        constructor
        · rintro ⟨a, b, c⟩; exact ⟨h0, by omega, by omega, c⟩
        · rintro ⟨a, b, c, d⟩; exact ⟨by omega, by omega, d⟩
      exact (ite_congr this (fun _ => rfl) (fun _ => rfl))
    · have hf : ¬ (0 ≤ i ∧ i ≤ j ∧ j ≤ len ∧ z = sz) := by omega
      rw [if_neg hf]
      simp [aSlice, bounds, natOr, toNat?, h1, h0]
  · simp [aSlice, bounds, natOr, toNat?, h0]
theorem ldE_head {e : AVal} {r : List AVal} {o sz : Nat} {agg : Bool} {h : Heap} : ldE (e :: r) 0 o sz agg h = (part e.cells o sz agg).map (·, h) := rfl
def zerosB (l : List UInt8) : Bool := l.all fun b => decide (b = 0)
theorem zero_eq (x : UInt8) : decide ((x.toNat : Int) = 0) = decide (x = 0) := by
  rw [Bool.eq_iff_iff]
  simp only [decide_eq_true_eq]
  constructor
  · intro h
    have : x.toNat = 0 := by omega
    rw [← UInt8.toNat_inj, this]
    rfl
  · rintro rfl
    rfl
end Go.Abs
namespace Go.Abs
open Am
set_option maxRecDepth 100000
set_option linter.unusedSimpArgs false
def helloL : List UInt8 := [104, 101, 108, 108, 111]
def eA : Ent := ⟨[97], 2, 0, 0, 0, 0, [], .mk false false helloL⟩
def wA : List UInt8 := writeL [eA]
theorem checkA : (checkT [eA]).2 = 0 := by decide +kernel
theorem recsA : recsE eA = [] := by
  unfold recsE rst3 rst4 rst5 rst6 rst7
  have h1 : idB eA.gid = true := idB_iff.2 ⟨by decide, by decide⟩
  have h2 : linkE eA.link = true := rfl
  have h3 : timeB eA.time = true := timeB_iff.2 ⟨by decide, by decide⟩
  have h4 : (splitN eA.path).2.2 = true := by decide
  have h5 : idB eA.uid = true := idB_iff.2 ⟨by decide, by decide⟩
  rw [h1, h2, h3, h4, h5]
  rfl
theorem wA_eq : wA = encB (hdrE eA []) ++ (helloL ++ (List.replicate 507 0 ++ zeros1024)) := by
  unfold wA writeL outL pieceL preE
  rw [recsA, if_pos rfl]
  simp only [outL, List.nil_append, List.append_nil, List.append_assoc]
  rfl
theorem lenA : wA.length = 2048 := by
  rw [wA_eq]
  simp only [List.length_append, encB_length, zeros1024_length, List.length_replicate]
  rfl
theorem readA (c t : Bool) : readE (.mk c t wA) = some [rdEnt eA] := readE_writeL c t checkA
end Go.Abs
namespace Go.Abs
open Go.Proofs Go.RowKit
set_option maxRecDepth 100000
def dotA : List UInt8 := [46, 47, 97]
def normP : List AVal → Option AVal
  | [.str s] => if s = dotA then some (.tuple [.str [97], .lit .nilIface]) else none
  | _ => none
noncomputable def AB : AProg := { AA with prim := fun g => if g = 128 then some normP else prims g }
theorem fn128_none : AA.fn 128 = none := by kernel_rfl
theorem callF_ext : ∀ {k g : Nat} {args : List AVal} {h : Heap} {x : AVal × Heap}, callF AA k g args h = some x → callF AB k g args h = some x
  | 0, _, _, _, _, h => by simp [callF] at h
  | k + 1, g, args, h, x, hx => by
    have hle : Calls.Le { moves := AA.moves, run := callF AA k } { moves := AB.moves, run := callF AB k } := ⟨rfl, fun _ _ _ _ h => callF_ext h⟩
    by_cases hg : g = 128
    · subst hg
      unfold callF at hx
      have hp : AA.prim 128 = none := rfl
      rw [hp, fn128_none] at hx
      have hx : (none : Option (AVal × Heap)) = some x := hx
      cases hx
    · have hp : AB.prim g = AA.prim g := by
        show (if g = 128 then some normP else prims g) = prims g
        rw [if_neg hg]
      unfold callF at hx ⊢
      rw [hp]
      cases hq : AA.prim g with
      | some p =>
        rw [hq] at hx
        exact hx
      | none =>
        rw [hq] at hx
        have hf : AB.fn g = AA.fn g := rfl
        rw [hf]
        simp only at hx ⊢
        cases hfn : AA.fn g with
        | none =>
          rw [hfn] at hx
          exact hx
        | some fn =>
          rw [hfn] at hx
          exact runFn_mono hle (Nat.le_refl _) hx
theorem callT_ext {g : Nat} {args : List AVal} {h : Heap} {x : AVal × Heap} (hx : callT AA g args h = some x) : callT AB g args h = some x := by
  obtain ⟨k, hk⟩ := callT_iff.1 hx
  exact callT_iff.2 ⟨k, callF_ext hk⟩
theorem join_a : callF AA 60 163 [.view 1 [.str [97]] false false] [] = some (.tuple [.str [97], .lit .nilIface], []) := by kernel_rfl
theorem norm_dotA : normRun [] (Am.splitOn 47 dotA) = some [[97]] := by decide
theorem join_calls (base : Nat) (W : World) (v : Value) (hG : GG (fun b => b < W.heap.size) W) (hr : W.ownsRow base 9 1 v 1 [sv [97]]) : Go.Calls Tryz.prog 163 #[v] W fun e W' => e = .returned (.tuple #[sv [97], .nilIface]) ∧ RowKit.Below W.heap.size W W' := by
  rcases hr.2 with ⟨_, h0⟩ | ⟨g, cap, cur, rfl, _, hg, hp1, _⟩
  · cases h0
  have hc : W.cell? ⟨g, 0, none⟩ = some (sv [97]) := by
    have := hr.cellAt 0 (by omega)
    exact this
  have hrep : Rep (fun _ => none) (fun b => b < W.heap.size) (fun _ => False) W (.view 1 [.str [97]] false false) (.slice (some ⟨g, 0, none⟩) 1 cap) := by
    have hlt := (Array.getElem?_eq_some_iff.1 hg).1
    refine .view 1 [.str [97]] false false g 0 cap none (fun _ _ => sv [97]) (.inl rfl) hp1 (by simp) ?_ ?_ ?_ ?_ ?_
    · intro i e _
      exact hlt
    · intro i e he
      match i, he with
      | 0, he => cases he; rfl
      | i + 1, he => cases he
    · intro i e he
      match i, he with
      | 0, he => cases he; rfl
      | i + 1, he => cases he
    · intro i e j x he hx
      match i, he with
      | 0, he =>
        cases he
        match j, hx with
        | 0, hx => exact hc
        | j + 1, hx => cases hx
      | i + 1, he => cases he
    · intro i e j x he hx
      match i, he with
      | 0, he =>
        cases he
        match j, hx with
        | 0, hx => cases hx; exact .str _
        | j + 1, hx => cases hx
      | i + 1, he => cases he
  refine (ev_calls Tryz.func163 (by kernel_rfl) (by kernel_rfl) (callT_iff.2 ⟨60, join_a⟩) (vals := #[.slice (some ⟨g, 0, none⟩) 1 cap]) hG rfl (by
    intro i c v hc' hv
    match i, hc', hv with
    | 0, hc', hv => cases hc'; cases hv; exact hrep
    | i + 1, hc', hv => cases hc')).mono fun e w' => ?_
  rintro ⟨v, _, _, rfl, h1, h2⟩
  obtain ⟨arr, rfl, hl, hh⟩ := h1.tuple_inv
  refine ⟨?_, h2⟩
  have a0 := hh 0 _ (arr[0]'(by rw [← hl]; simp)) rfl (Array.getElem?_eq_getElem _)
  have a1 := hh 1 _ (arr[1]'(by rw [← hl]; simp)) rfl (Array.getElem?_eq_getElem _)
  have e0 := a0.str_inv
  have e1 := a1.lit_inv
  congr 2
  apply Array.ext
  · rw [← hl]; rfl
  · intro i h1 h2
    have hi : i < 2 := by rw [← hl] at h1; simpa using h1
    match i, hi with
    | 0, _ => exact e0
    | 1, _ => exact e1
theorem norm_calls (w : World) (hG : GG (fun b => b < w.heap.size) w) : Go.Calls Tryz.prog 128 #[sv dotA] w fun e W' => e = .returned (.tuple #[sv [97], .nilIface]) ∧ RowKit.Below w.heap.size w W' := by
  have h := nm_128 (fun _ => ([97], 0)) dotA (by decide) (fun q hq base W v hG hr => by
    rw [norm_dotA] at hq
    cases hq
    exact join_calls base W v hG hr) w hG
  have e : nmRes (fun _ => ([97], 0)) dotA = ([97], 0) := by unfold nmRes; rw [norm_dotA]
  rw [e] at h
  exact h
theorem gg_lt {ι : Emb} {S T : Nat → Prop} {w : World} {F : Free} (hg : GG S w) (hi : Inv ι S T [] w F) : GG (fun b => b < w.heap.size) w := ⟨hg.pow, hg.utf, hg.synt, hg.rang, fun b hb => hi.s_lt b (hg.low b hb)⟩
theorem norm_ok {ι : Emb} {S T : Nat → Prop} {w : World} (hg : GG S w) (hi : Inv ι S T [] w (Free.above 0)) : CallOK Tryz.prog 128 #[sv dotA] w (Back ι S T [] w (.tuple [.str [97], .lit .nilIface]) []) := by
  refine call_enter Tryz.func128 (by kernel_rfl) (by kernel_rfl) ?_
  refine (norm_calls w (gg_lt hg hi)).mono ?_
  rintro e w' ⟨rfl, hb⟩
  refine back_of hi hb fun ι' S' T' w'' => .tuple _ _ rfl fun i c u hc hu => ?_
  match i with
  | 0 => simp at hc hu; subst hc; subst hu; exact .str _
  | 1 => simp at hc hu; subst hc; subst hu; exact .lit _
  | i + 2 => simp at hc
theorem ab_of : AB.Of gl0 Tryz.prog [58] GG := {
  mix := aa_of.mix
  stable := aa_of.stable
  glob := aa_of.glob
  fn := fun g afn h => aa_of.fn g afn h
  prim := fun g p hp args r hr ι S T w vals hg hi hl hv => by
    by_cases h : g = 128
    · subst h
      have e : p = normP := by
        have : AB.prim 128 = some normP := rfl
        rw [this] at hp
        exact (Option.some.inj hp).symm
      subst e
      unfold normP at hr
      split at hr <;> try (simp at hr; done)
      split at hr <;> simp only [Option.some.injEq, reduceCtorEq] at hr
      subst hr
      rename_i s hs
      obtain ⟨v, rfl, h1⟩ := one_arg rfl hl hv
      rw [h1.str_inv, hs]
      exact norm_ok hg hi
    · have hp' : AA.prim g = some p := by
        have : AB.prim g = prims g := if_neg h
        rw [this] at hp
        exact hp
      exact aa_of.prim g p hp' args r hr ι S T w vals hg hi hl hv
  primh := aa_of.primh }
theorem law_callsB {g : Nat} {fn : Func} (hf : Tryz.prog.funcs[g]? = some fn) (hb : fn.body.isSome = true) (hn : (fn.name == "runtime.NumGoroutine") = false) {args : List AVal} (hs : callT AB g args [] = some (.bool true, [])) {w : World} {vals : Array Value}
    (hG : GG (fun b => b < w.heap.size) w) (hl : args.length = vals.size) (hr : ∀ (i : Nat) (c : AVal) (v : Value), args[i]? = some c → vals[i]? = some v → Rep (fun _ => none) (fun b => b < w.heap.size) (fun _ => False) w c v) :
    Go.Calls Tryz.prog g vals w fun e w' => e = .returned (.bool true) ∧ RowKit.Below w.heap.size w w' := by
  have hi : Inv (fun _ => none) (fun b => b < w.heap.size) (fun _ => False) [] w (Free.above 0) := ⟨by simp, by simp, by simp, fun _ _ => rfl, fun _ h => h, fun _ h => h.elim⟩
  have h := callT_sound ab_of g args [] (.bool true) [] hs _ _ _ w vals hG hi hl hr
  obtain ⟨c, hc⟩ := Option.isSome_iff_exists.1 hb
  have hrun : (callFunc g vals).run Tryz.prog w = .ok (.enter g vals) w := by
    have hn : ¬ fn.name = "runtime.NumGoroutine" := by simpa using hn
    simp [callFunc, hf, hn, hc]
  unfold CallOK at h
  rw [hrun] at h
  refine Go.Calls.mono h fun e w' he => ?_
  cases e with
  | returned v =>
    obtain ⟨ι', S', n', h1, h2, h3⟩ := he
    rw [h1.bool_inv]
    exact ⟨rfl, h3.os, h3.tape, h3.output, h3.size, fun k hk => h3.frame k hk fun ⟨e, he, _⟩ => by cases he⟩
  | panicked c => exact he.elim
  | outgrown => exact he.elim
end Go.Abs
namespace Go.Abs
def b39 : AFn := ⟨0, 60, [(0, none)], (.seq (rg [oo 0 (.mov (.c (.bool false)))]) (.seq (rg [oo 8 (.bslice 1 5 [(.int .u8 0)] [(.c (.int .u8 104)), (.c (.int .u8 101)), (.c (.int .u8 108)), (.c (.int .u8 108)), (.c (.int .u8 111))]), oo 9 (.cvb (.t 8)), oo 10 (.build [(.str []), (.int .i64 0), (.int .i64 0), (.int .i64 0), (.int .i64 0), (.int .i64 0), (.str []), (.lit (.slice none 0 0))] [(0, (1, (.c (.str [46, 47, 97])))), (1, (1, (ci 2))), (7, (1, (.t 9)))]), oo 11 (.bslice 8 1 [(.str []), (.int .i64 0), (.int .i64 0), (.int .i64 0), (.int .i64 0), (.int .i64 0), (.str []), (.lit (.slice none 0 0))] [(.t 10)]), cl 12 49 [(.t 11)], mv 7 12, oo 13 (.ext (.t 7) 0), oo 14 (.ext (.t 7) 1), mv 1 13, mv 2 14]) (.seq (rg [mv 16 1, cl 17 17 [(.t 16)], mv 15 17, oo 18 (.ext (.t 15) 0), oo 19 (.ext (.t 15) 1), mv 3 18, mv 4 19]) (.seq (rg [mv 21 3, cl 22 24 [(.t 21)], mv 20 22, oo 23 (.ext (.t 20) 0), oo 24 (.ext (.t 20) 1), mv 5 23, mv 6 24]) (.seq (rg [mv 25 2, oo 26 (.bin .eql (.iface [58]) true (.t 25) (.c (.lit .nilIface))), mv 27 26, og 28 (.mov (.t 4)) 27 true, og 29 (.bin .eql (.iface [58]) true (.t 28) (.c (.lit .nilIface))) 27 true, oo 30 (.pick (.t 27) (.t 29) (.c (.bool false))), mv 31 30, og 32 (.mov (.t 6)) 31 true, og 33 (.bin .eql (.iface [58]) true (.t 32) (.c (.lit .nilIface))) 31 true, oo 34 (.pick (.t 31) (.t 33) (.c (.bool false))), mv 35 34, og 36 (.mov (.t 3)) 35 true, og 37 (.len 1 (.t 36)) 35 true, og 38 (.bin .eql .other true (.t 37) (ci 2048)) 35 true, oo 39 (.pick (.t 35) (.t 38) (.c (.bool false))), mv 40 39, og 41 (.mov (.t 5)) 40 true, og 42 (.len 1 (.t 41)) 40 true, og 43 (.bin .eql .other true (.t 42) (ci 1)) 40 true, oo 44 (.pick (.t 40) (.t 43) (.c (.bool false))), mv 45 44, og 46 (.mov (.t 5)) 45 true, og 47 (.ixa 8 (.t 46) (ci 0)) 45 true, og 48 (.fa 0 (.t 47)) 45 true, og 49 (.ld 1 false (.t 48)) 45 true, og 50 (.bin .eql .other true (.t 49) (.c (.str [97]))) 45 true, oo 51 (.pick (.t 45) (.t 50) (.c (.bool false))), mv 52 51, og 53 (.mov (.t 5)) 52 true, og 54 (.ixa 8 (.t 53) (ci 0)) 52 true, og 55 (.fa 7 (.t 54)) 52 true, og 56 (.ld 1 false (.t 55)) 52 true, og 57 (.cvbs (.t 56)) 52 true, og 58 (.bin .eql .other true (.t 57) (.c (.str [104, 101, 108, 108, 111]))) 52 true, oo 59 (.pick (.t 52) (.t 58) (.c (.bool false))), mv 0 59]) .ret)))))⟩
theorem fn39 : AA.fn 39 = some b39 := by kernel_rfl
def b9 : AFn := ⟨1, 57, [(2, none)], (.seq (rg [oo 2 (.mov (.c (.bool false)))]) (.seq (.seq (rg [cl 9 39 [], oo 10 (.un .not (.t 9))]) (.cond (.t 10) (.seq (rg [oo 2 (.mov (.c (.bool false)))]) .ret) .skip)) (.seq (.seq (rg [mv 11 0, oo 12 (.len 1 (.t 11)), oo 13 (.bin .gtr .other true (.t 12) (ci 131072))]) (.cond (.t 13) (.seq (rg [oo 2 (.mov (.c (.bool true)))]) .ret) .skip)) (.seq (rg [mv 15 0, cl 16 23 [(.t 15)], cl 17 24 [(.t 16)], mv 14 17, oo 18 (.ext (.t 14) 0), oo 19 (.ext (.t 14) 1), mv 3 18, mv 4 19]) (.seq (.seq (rg [mv 20 4, oo 21 (.bin .neq (.iface [58]) true (.t 20) (.c (.lit .nilIface)))]) (.cond (.t 21) (.seq (rg [mv 22 4, oo 23 (.mkif 58 (ci 16)), oo 24 (.bin .eql (.iface [58]) false (.t 22) (.t 23)), mv 25 24, og 26 (.mov (.t 3)) 25 true, og 27 (.len 1 (.t 26)) 25 true, og 28 (.bin .eql .other true (.t 27) (ci 0)) 25 true, oo 29 (.pick (.t 25) (.t 28) (.c (.bool false))), mv 2 29]) .ret) .skip)) (.seq (rg [mv 31 3, cl 32 31 [(.t 31)], mv 30 32, oo 33 (.ext (.t 30) 0), oo 34 (.ext (.t 30) 1), mv 5 33, mv 6 34]) (.seq (rg [mv 36 3, cl 37 17 [(.t 36)], mv 35 37, oo 38 (.ext (.t 35) 0), oo 39 (.ext (.t 35) 1), mv 7 38, mv 8 39]) (.seq (rg [mv 40 5, oo 41 (.bin .eql .other true (.t 40) (.c (.int .i64 (-1)))), mv 42 41, og 43 (.mov (.t 6)) 42 true, og 44 (.bin .eql (.iface [58]) true (.t 43) (.c (.lit .nilIface))) 42 true, oo 45 (.pick (.t 42) (.t 44) (.c (.bool false))), mv 46 45, og 47 (.mov (.t 8)) 46 true, og 48 (.bin .eql (.iface [58]) true (.t 47) (.c (.lit .nilIface))) 46 true, oo 49 (.pick (.t 46) (.t 48) (.c (.bool false))), mv 50 49, og 51 (.mov (.t 7)) 50 true, og 52 (.cvbs (.t 51)) 50 true, og 53 (.mov (.t 0)) 50 true, og 54 (.cvbs (.t 53)) 50 true, og 55 (.bin .eql .other false (.t 52) (.t 54)) 50 true, oo 56 (.pick (.t 50) (.t 55) (.c (.bool false))), mv 2 56]) .ret))))))))⟩
def l10_0 : ACode := (.block 3 (.seq (.seq (rg [mv 67 3, oo 68 (.len 1 (.t 67)), oo 69 (.bin .lss .other true (.t 68) (ci 512))]) (.cond (.t 69) (.seq (rg [oo 2 (.mov (.c (.bool false)))]) .ret) .skip)) (.seq (rg [mv 71 3, oo 72 (.slc 1 (.t 71) none (some (ci 512)) none), cl 73 34 [(.t 72)], mv 70 73, oo 74 (.ext (.t 70) 0), oo 75 (.ext (.t 70) 1), oo 10 (.alloc [(.str []), (.int .i64 0), (.int .i64 0), (.int .i64 0), (.int .i64 0), (.int .i64 0), (.int .u8 0), (.str [])]), ⟨none, (.st 8 (.t 10) (.t 74)), none⟩, mv 11 75]) (.seq (rg [oo 76 (.fa 4 (.t 10)), oo 77 (.ld 1 false (.t 76)), oo 78 (.bin .add .other true (.t 77) (ci 511)), oo 79 (.bin .quo .other true (.t 78) (ci 512)), oo 80 (.bin .mul .other true (.t 79) (ci 512)), mv 12 80]) (.seq (.seq (rg [mv 81 11, oo 82 (.bin .neq (.iface [58]) true (.t 81) (.c (.lit .nilIface))), mv 83 82, og 84 (.mov (.t 12)) 83 false, og 85 (.mov (.t 3)) 83 false, og 86 (.len 1 (.t 85)) 83 false, og 87 (.bin .sub .other true (.t 86) (ci 512)) 83 false, og 88 (.bin .gtr .other false (.t 84) (.t 87)) 83 false, oo 89 (.pick (.t 83) (.c (.bool true)) (.t 88)), mv 90 89, og 91 (.mov (.t 3)) 90 false, og 92 (.fa 4 (.t 10)) 90 false, og 93 (.ld 1 false (.t 92)) 90 false, og 94 (.bin .add .other true (ci 512) (.t 93)) 90 false, og 95 (.mov (.t 12)) 90 false, og 96 (.bin .add .other true (ci 512) (.t 95)) 90 false, og 97 (.slc 1 (.t 91) (some (.t 94)) (some (.t 96)) none) 90 false, og 98 (.call (.c (.func (.func 42) [])) [(.t 97)]) 90 false, og 99 (.un .not (.t 98)) 90 false, oo 100 (.pick (.t 90) (.c (.bool true)) (.t 99))]) (.cond (.t 100) (.seq (rg [oo 2 (.mov (.c (.bool false)))]) .ret) .skip)) (.seq (rg [mv 101 3, oo 102 (.fa 4 (.t 10)), oo 103 (.ld 1 false (.t 102)), oo 104 (.bin .add .other true (ci 512) (.t 103)), oo 105 (.slc 1 (.t 101) (some (ci 512)) (some (.t 104)) none), mv 13 105]) (.seq (rg [mv 106 3, mv 107 12, oo 108 (.bin .add .other true (ci 512) (.t 107)), oo 109 (.slc 1 (.t 106) (some (.t 108)) none none), mv 3 109]) (.seq (.seq (rg [oo 110 (.fa 6 (.t 10)), oo 111 (.ld 1 false (.t 110)), oo 112 (.bin .neq .other true (.t 111) (.c (.int .u8 120)))]) (.cond (.t 112) (.seq (.seq (rg [mv 113 13, oo 114 (.cvbs (.t 113)), oo 115 (.fa 7 (.t 8)), oo 116 (.ld 1 false (.t 115)), oo 117 (.cvbs (.t 116)), oo 118 (.bin .neq .other false (.t 114) (.t 117)), mv 119 118, og 120 (.fa 1 (.t 10)) 119 false, og 121 (.ld 1 false (.t 120)) 119 false, og 122 (.fa 2 (.t 8)) 119 false, og 123 (.ld 1 false (.t 122)) 119 false, og 124 (.bin .neq .other false (.t 121) (.t 123)) 119 false, oo 125 (.pick (.t 119) (.c (.bool true)) (.t 124))]) (.cond (.t 125) (.seq (rg [oo 2 (.mov (.c (.bool false)))]) .ret) .skip)) (.exit 2)) .skip)) (.seq (rg [mv 127 13, cl 128 35 [(.t 127)], mv 126 128, oo 129 (.ext (.t 126) 0), oo 130 (.ext (.t 126) 1), mv 14 129, mv 15 130]) (.seq (.seq (rg [mv 131 15, oo 132 (.bin .neq (.iface [58]) true (.t 131) (.c (.lit .nilIface))), mv 133 132, og 134 (.mov (.t 14)) 133 false, og 135 (.len 1 (.t 134)) 133 false, og 136 (.bin .eql .other true (.t 135) (ci 0)) 133 false, oo 137 (.pick (.t 133) (.c (.bool true)) (.t 136)), mv 138 137, og 139 (.mov (.t 9)) 138 false, og 140 (.len 1 (.t 139)) 138 false, og 141 (.bin .gtr .other true (.t 140) (ci 0)) 138 false, oo 142 (.pick (.t 138) (.c (.bool true)) (.t 141))]) (.cond (.t 142) (.seq (rg [oo 2 (.mov (.c (.bool false)))]) .ret) .skip)) (rg [mv 143 14, mv 9 143])))))))))))
def r10_0 : ACode := (.seq (.reg true [(1, 3), (2, 3), (1, 4), (2, 4), (0, 5), (1, 5), (2, 5), (3, 5), (10, 17), (14, 17), (15, 17), (10, 18), (14, 18), (15, 18), (9, 19), (10, 19), (11, 19), (12, 19), (13, 19), (14, 19), (15, 19), (16, 19), (17, 19), (25, 27), (26, 27), (25, 28), (26, 28), (24, 29), (25, 29), (26, 29), (27, 29), (27, 30), (36, 38), (37, 38), (36, 39), (37, 39), (35, 40), (36, 40), (37, 40), (38, 40), (38, 41), (47, 49), (48, 49), (47, 50), (48, 50), (46, 51), (47, 51), (48, 51), (49, 51), (49, 52)] [oo 144 (.fa 0 (.t 8)), oo 145 (.ld 1 false (.t 144)), cl 146 44 [(.t 145)], mv 147 9, oo 148 (.fa 0 (.t 8)), oo 149 (.ld 1 false (.t 148)), oo 150 (.call (.c (.func (.func 43) [])) [(.t 146), (.t 147), (.c (.str [112, 97, 116, 104])), (.t 149)]), oo 151 (.un .not (.t 150)), mv 152 151, og 153 (.fa 6 (.t 8)) 152 false, og 154 (.ld 1 false (.t 153)) 152 false, og 155 (.bin .eql .other true (.t 154) (.c (.str []))) 152 false, og 156 (.mov (.t 155)) 152 false, og 157 (.fa 6 (.t 8)) 156 false, og 158 (.ld 1 false (.t 157)) 156 false, og 159 (.call (.c (.func (.func 45) [])) [(.t 158)]) 156 false, og 160 (.pick (.t 156) (.c (.bool true)) (.t 159)) 152 false, og 161 (.mov (.t 9)) 152 false, og 162 (.fa 6 (.t 8)) 152 false, og 163 (.ld 1 false (.t 162)) 152 false, og 164 (.call (.c (.func (.func 43) [])) [(.t 160), (.t 161), (.c (.str [108, 105, 110, 107, 112, 97, 116, 104])), (.t 163)]) 152 false, og 165 (.un .not (.t 164)) 152 false, oo 166 (.pick (.t 152) (.c (.bool true)) (.t 165)), mv 167 166, og 168 (.fa 3 (.t 8)) 167 false, og 169 (.ld 1 false (.t 168)) 167 false, og 170 (.call (.c (.func (.func 46) [])) [(.t 169)]) 167 false, og 171 (.mov (.t 9)) 167 false, og 172 (.fa 3 (.t 8)) 167 false, og 173 (.ld 1 false (.t 172)) 167 false, og 174 (.call (.c (.func (.func 47) [])) [(.t 173)]) 167 false, og 175 (.call (.c (.func (.func 43) [])) [(.t 170), (.t 171), (.c (.str [117, 105, 100])), (.t 174)]) 167 false, og 176 (.un .not (.t 175)) 167 false, oo 177 (.pick (.t 167) (.c (.bool true)) (.t 176)), mv 178 177, og 179 (.fa 4 (.t 8)) 178 false, og 180 (.ld 1 false (.t 179)) 178 false, og 181 (.call (.c (.func (.func 46) [])) [(.t 180)]) 178 false, og 182 (.mov (.t 9)) 178 false, og 183 (.fa 4 (.t 8)) 178 false, og 184 (.ld 1 false (.t 183)) 178 false, og 185 (.call (.c (.func (.func 47) [])) [(.t 184)]) 178 false, og 186 (.call (.c (.func (.func 43) [])) [(.t 181), (.t 182), (.c (.str [103, 105, 100])), (.t 185)]) 178 false, og 187 (.un .not (.t 186)) 178 false, oo 188 (.pick (.t 178) (.c (.bool true)) (.t 187)), mv 189 188, og 190 (.fa 5 (.t 8)) 189 false, og 191 (.ld 1 false (.t 190)) 189 false, og 192 (.call (.c (.func (.func 48) [])) [(.t 191)]) 189 false, og 193 (.mov (.t 9)) 189 false, og 194 (.fa 5 (.t 8)) 189 false, og 195 (.ld 1 false (.t 194)) 189 false, og 196 (.call (.c (.func (.func 47) [])) [(.t 195)]) 189 false, og 197 (.call (.c (.func (.func 43) [])) [(.t 192), (.t 193), (.c (.str [109, 116, 105, 109, 101])), (.t 196)]) 189 false, og 198 (.un .not (.t 197)) 189 false, oo 199 (.pick (.t 189) (.c (.bool true)) (.t 198)), mv 200 199, og 201 (.mov (.t 9)) 200 false, og 202 (.len 1 (.t 201)) 200 false, og 203 (.bin .gtr .other true (.t 202) (ci 5)) 200 false, oo 204 (.pick (.t 200) (.c (.bool true)) (.t 203))]) (.cond (.t 204) (.seq (rg [oo 2 (.mov (.c (.bool false)))]) .ret) .skip))
def r10_1 : ACode := (rg [oo 205 (.bin .add .other true (.t 62) (ci 1)), mv 62 205])
def l10_1 : ACode := (.seq (rg [oo 63 (.bin .lss .other false (.t 62) (.t 61))]) (.seq (.cond (.t 63) .skip (.exit 0)) (.seq (.block 1 (.seq (rg [oo 64 (.ixa 8 (.t 60) (.t 62)), oo 65 (.ld 8 true (.t 64)), oo 8 (.alloc [(.str []), (.int .i64 0), (.int .i64 0), (.int .i64 0), (.int .i64 0), (.int .i64 0), (.str []), (.lit (.slice none 0 0))]), ⟨none, (.st 8 (.t 8) (.t 65)), none⟩]) (.seq (rg [oo 66 (.bslice 2 0 [(.str []), (.str [])] []), mv 9 66]) (.seq (.block 2 (.loop [2, 3, 8, 9, 60, 61, 62] l10_0)) r10_0)))) r10_1)))
def r10_2 : ACode := (.seq (rg [mv 206 3, oo 207 (.len 1 (.t 206)), oo 208 (.bin .eql .other true (.t 207) (ci 0)), mv 2 208]) .ret)
def b10 : AFn := ⟨1, 209, [(2, none)], (.seq (rg [oo 2 (.mov (.c (.bool false)))]) (.seq (.seq (rg [cl 16 39 [], oo 17 (.un .not (.t 16))]) (.cond (.t 17) (.seq (rg [oo 2 (.mov (.c (.bool false)))]) .ret) .skip)) (.seq (.seq (rg [mv 18 0, cl 19 40 [(.t 18)], oo 20 (.un .not (.t 19))]) (.cond (.t 20) (.seq (rg [oo 2 (.mov (.c (.bool true)))]) .ret) .skip)) (.seq (rg [mv 22 0, cl 23 17 [(.t 22)], mv 21 23, oo 24 (.ext (.t 21) 0), oo 25 (.ext (.t 21) 1), mv 3 24, mv 4 25]) (.seq (.seq (rg [mv 26 4, oo 27 (.bin .neq (.iface [58]) true (.t 26) (.c (.lit .nilIface)))]) (.cond (.t 27) (.seq (rg [mv 29 0, cl 30 41 [(.t 29)], mv 28 30, oo 31 (.ext (.t 28) 0), oo 32 (.ext (.t 28) 1), mv 5 31, mv 6 32]) (.seq (rg [mv 33 4, cl 34 19 [(.t 33)], mv 35 6, oo 36 (.bin .eql .other false (.t 34) (.t 35)), mv 2 36]) .ret)) .skip)) (.seq (.seq (rg [mv 37 3, oo 38 (.len 1 (.t 37)), oo 39 (.bin .rem .other true (.t 38) (ci 512)), oo 40 (.bin .neq .other true (.t 39) (ci 0)), mv 41 40, og 42 (.mov (.t 3)) 41 false, og 43 (.len 1 (.t 42)) 41 false, og 44 (.bin .lss .other true (.t 43) (ci 1024)) 41 false, oo 45 (.pick (.t 41) (.c (.bool true)) (.t 44)), mv 46 45, og 47 (.mov (.t 3)) 46 false, og 48 (.mov (.t 3)) 46 false, og 49 (.len 1 (.t 48)) 46 false, og 50 (.bin .sub .other true (.t 49) (ci 1024)) 46 false, og 51 (.slc 1 (.t 47) (some (.t 50)) none none) 46 false, og 52 (.call (.c (.func (.func 42) [])) [(.t 51)]) 46 false, og 53 (.un .not (.t 52)) 46 false, oo 54 (.pick (.t 46) (.c (.bool true)) (.t 53))]) (.cond (.t 54) (.seq (rg [oo 2 (.mov (.c (.bool false)))]) .ret) .skip)) (.seq (rg [mv 55 3, mv 56 3, oo 57 (.len 1 (.t 56)), oo 58 (.bin .sub .other true (.t 57) (ci 1024)), oo 59 (.slc 1 (.t 55) none (some (.t 58)) none), mv 3 59]) (.seq (.seq (rg [mv 60 0, oo 61 (.len 1 (.t 60)), oo 62 (.mov (ci 0))]) (.block 0 (.loop [2, 3, 60, 61, 62] l10_1))) r10_2))))))))⟩
theorem fn10 : AA.fn 10 = some b10 := by kernel_rfl
def l13_0 : ACode := (.seq (rg [oo 82 (.bin .lss .other false (.t 81) (.t 80))]) (.seq (.cond (.t 82) .skip (.exit 0)) (.seq (.block 1 (.seq (rg [mv 83 81, oo 84 (.ixa 1 (.t 79) (.t 81)), oo 85 (.ld 1 false (.t 84)), mv 15 83, mv 16 85]) (.seq (rg [mv 86 14, mv 87 16, oo 88 (.bin .add .other false (.t 86) (.t 87)), mv 14 88]) (.seq (rg [mv 89 14, mv 90 13, oo 91 (.bin .leq .other false (.t 89) (.t 90)), mv 92 91, og 93 (.mov (.t 14)) 92 true, og 94 (.mov (.t 7)) 92 true, og 95 (.len 1 (.t 94)) 92 true, og 96 (.bin .lss .other false (.t 93) (.t 95)) 92 true, oo 97 (.pick (.t 92) (.t 96) (.c (.bool false))), mv 98 97, og 99 (.mov (.t 14)) 98 true, og 100 (.mov (.t 9)) 98 true, og 101 (.len 1 (.t 100)) 98 true, og 102 (.bin .lss .other false (.t 99) (.t 101)) 98 true, oo 103 (.pick (.t 98) (.t 102) (.c (.bool false))), mv 104 103, og 105 (.mov (.t 15)) 104 true, og 106 (.mov (.t 12)) 104 true, og 107 (.len 1 (.t 106)) 104 true, og 108 (.bin .geq .other false (.t 105) (.t 107)) 104 true, og 109 (.mov (.t 108)) 104 true, og 110 (.mov (.t 12)) 109 false, og 111 (.mov (.t 15)) 109 false, og 112 (.ixa 1 (.t 110) (.t 111)) 109 false, og 113 (.ld 1 false (.t 112)) 109 false, og 114 (.mov (.t 16)) 109 false, og 115 (.bin .neq .other false (.t 113) (.t 114)) 109 false, og 116 (.pick (.t 109) (.c (.bool true)) (.t 115)) 104 true, oo 117 (.pick (.t 104) (.t 116) (.c (.bool false)))]) (.cond (.t 117) (.seq (rg [oo 6 (.mov (.c (.bool false)))]) .ret) .skip))))) (rg [oo 118 (.bin .add .other true (.t 81) (ci 1)), mv 81 118]))))
def r13_0 : ACode := (.seq (rg [mv 119 14, mv 120 7, oo 121 (.len 1 (.t 120)), oo 122 (.bin .eql .other false (.t 119) (.t 121)), mv 6 122]) .ret)
def b13 : AFn := ⟨3, 123, [(6, none)], (.seq (rg [oo 3 (.box (.t 0)), oo 6 (.mov (.c (.bool false)))]) (.seq (.seq (rg [cl 17 39 [], oo 18 (.un .not (.t 17))]) (.cond (.t 18) (.seq (rg [oo 6 (.mov (.c (.bool false)))]) .ret) .skip)) (.seq (.seq (rg [mv 19 1, cl 20 40 [(.t 19)], oo 21 (.un .not (.t 20)), mv 22 21, og 23 (.mov (.t 2)) 22 false, og 24 (.call (.c (.func (.func 40) [])) [(.t 23)]) 22 false, og 25 (.un .not (.t 24)) 22 false, oo 26 (.pick (.t 22) (.c (.bool true)) (.t 25))]) (.cond (.t 26) (.seq (rg [oo 6 (.mov (.c (.bool true)))]) .ret) .skip)) (.seq (rg [mv 28 1, cl 29 17 [(.t 28)], mv 27 29, oo 30 (.ext (.t 27) 0), oo 31 (.ext (.t 27) 1), mv 7 30, mv 8 31]) (.seq (rg [mv 33 2, cl 34 17 [(.t 33)], mv 32 34, oo 35 (.ext (.t 32) 0), oo 36 (.ext (.t 32) 1), mv 9 35, mv 10 36]) (.seq (.seq (rg [mv 37 8, oo 38 (.bin .neq (.iface [58]) true (.t 37) (.c (.lit .nilIface))), mv 39 38, og 40 (.mov (.t 10)) 39 false, og 41 (.bin .neq (.iface [58]) true (.t 40) (.c (.lit .nilIface))) 39 false, oo 42 (.pick (.t 39) (.c (.bool true)) (.t 41))]) (.cond (.t 42) (.seq (rg [oo 6 (.mov (.c (.bool true)))]) .ret) .skip)) (.seq (rg [oo 44 (.ld 5 true (.t 3)), mv 45 7, cl 46 51 [(.t 44), (.t 45)], mv 43 46, oo 47 (.ext (.t 43) 0), oo 48 (.ext (.t 43) 1), mv 11 47, mv 8 48]) (.seq (rg [oo 50 (.ld 5 true (.t 3)), mv 51 9, cl 52 51 [(.t 50), (.t 51)], mv 49 52, oo 53 (.ext (.t 49) 0), oo 54 (.ext (.t 49) 1), mv 12 53, mv 10 54]) (.seq (.seq (rg [mv 55 8, oo 56 (.bin .neq (.iface [58]) true (.t 55) (.c (.lit .nilIface))), mv 57 56, og 58 (.mov (.t 10)) 57 false, og 59 (.bin .neq (.iface [58]) true (.t 58) (.c (.lit .nilIface))) 57 false, oo 60 (.pick (.t 57) (.c (.bool true)) (.t 59))]) (.cond (.t 60) (.seq (rg [mv 61 8, cl 62 19 [(.t 61)], mv 63 10, cl 64 19 [(.t 63)], oo 65 (.bin .eql .other false (.t 62) (.t 64)), mv 66 65, og 67 (.mov (.t 11)) 66 true, og 68 (.len 1 (.t 67)) 66 true, og 69 (.bin .eql .other true (.t 68) (ci 0)) 66 true, oo 70 (.pick (.t 66) (.t 69) (.c (.bool false))), mv 71 70, og 72 (.mov (.t 12)) 71 true, og 73 (.len 1 (.t 72)) 71 true, og 74 (.bin .eql .other true (.t 73) (ci 0)) 71 true, oo 75 (.pick (.t 71) (.t 74) (.c (.bool false))), mv 6 75]) .ret) .skip)) (.seq (rg [mv 76 7, mv 77 9, cl 78 52 [(.t 76), (.t 77)], mv 13 78]) (.seq (rg [oo 14 (.mov (ci 0))]) (.seq (.seq (rg [mv 79 11, oo 80 (.len 1 (.t 79)), oo 81 (.mov (ci 0))]) (.block 0 (.loop [6, 7, 9, 12, 13, 14, 79, 80, 81] l13_0))) r13_0))))))))))))⟩
def l42_0 : ACode := (.seq (rg [oo 8 (.bin .lss .other false (.t 7) (.t 6))]) (.seq (.cond (.t 8) .skip (.exit 0)) (.seq (.block 1 (.seq (rg [oo 9 (.ixa 1 (.t 5) (.t 7)), oo 10 (.ld 1 false (.t 9)), mv 4 10]) (.seq (rg [mv 11 4, oo 12 (.bin .neq .other true (.t 11) (.c (.int .u8 0)))]) (.cond (.t 12) (.seq (rg [oo 2 (.mov (.c (.bool false)))]) .ret) .skip)))) (rg [oo 13 (.bin .add .other true (.t 7) (ci 1)), mv 7 13]))))
def r42_0 : ACode := (.seq (rg [oo 2 (.mov (.c (.bool true)))]) .ret)
def b42 : AFn := ⟨1, 14, [(2, none)], (.seq (rg [oo 2 (.mov (.c (.bool false)))]) (.seq (.seq (rg [mv 5 0, oo 6 (.len 1 (.t 5)), oo 7 (.mov (ci 0))]) (.block 0 (.loop [2, 5, 6, 7] l42_0))) r42_0))⟩
theorem fn42 : AA.fn 42 = some b42 := by kernel_rfl
theorem np42 : AA.prim 42 = none := rfl
def b43 : AFn := ⟨4, 29, [(8, none)], (.seq (rg [oo 8 (.mov (.c (.bool false)))]) (.seq (rg [mv 12 1, mv 13 2, cl 14 80 [(.t 12), (.t 13)], mv 11 14, oo 15 (.ext (.t 11) 0), oo 16 (.ext (.t 11) 1), mv 9 15, mv 10 16]) (.seq (rg [mv 17 10, mv 18 0, oo 19 (.un .not (.t 18)), oo 20 (.bin .eql .bool false (.t 17) (.t 19)), mv 21 20, og 22 (.mov (.t 0)) 21 true, og 23 (.mov (.t 22)) 21 true, og 24 (.mov (.t 9)) 23 false, og 25 (.mov (.t 3)) 23 false, og 26 (.bin .eql .other false (.t 24) (.t 25)) 23 false, og 27 (.pick (.t 23) (.c (.bool true)) (.t 26)) 21 true, oo 28 (.pick (.t 21) (.t 27) (.c (.bool false))), mv 8 28]) .ret)))⟩
theorem fn43 : AA.fn 43 = some b43 := by kernel_rfl
theorem np43 : AA.prim 43 = none := rfl
end Go.Abs
namespace Go.Abs
def l15_0 : ACode := (.seq (rg [oo 9 (.bin .lss .other false (.t 8) (.t 7))]) (.seq (.cond (.t 9) .skip (.exit 0)) (.seq (.block 1 (.seq (rg [oo 10 (.ixa 8 (.t 6) (.t 8)), oo 11 (.ld 8 true (.t 10)), oo 5 (.alloc [(.str []), (.int .i64 0), (.int .i64 0), (.int .i64 0), (.int .i64 0), (.int .i64 0), (.str []), (.lit (.slice none 0 0))]), ⟨none, (.st 8 (.t 5) (.t 11)), none⟩]) (.seq (rg [mv 12 3, oo 13 (.fa 7 (.t 5)), oo 14 (.ld 1 false (.t 13)), oo 15 (.len 1 (.t 14)), oo 16 (.bin .add .other true (ci 512) (.t 15)), oo 17 (.fa 0 (.t 5)), oo 18 (.ld 1 false (.t 17)), oo 19 (.len 0 (.t 18)), oo 20 (.bin .add .other false (.t 16) (.t 19)), oo 21 (.fa 6 (.t 5)), oo 22 (.ld 1 false (.t 21)), oo 23 (.len 0 (.t 22)), oo 24 (.bin .add .other false (.t 20) (.t 23)), oo 25 (.bin .add .other false (.t 12) (.t 24)), mv 3 25]) (.seq (rg [mv 26 3, oo 27 (.bin .gtr .other true (.t 26) (ci 65536))]) (.cond (.t 27) (.seq (rg [oo 2 (.mov (.c (.bool true)))]) .ret) .skip))))) (rg [oo 28 (.bin .add .other true (.t 8) (ci 1)), mv 8 28]))))
def r15_0 : ACode := (.seq (rg [oo 2 (.mov (.c (.bool false)))]) .ret)
def l80_0 : ACode := (.seq (rg [oo 11 (.bin .lss .other false (.t 10) (.t 9))]) (.seq (.cond (.t 11) .skip (.exit 0)) (.seq (.block 1 (.seq (rg [oo 12 (.ixa 2 (.t 8) (.t 10)), oo 13 (.ld 2 true (.t 12)), oo 7 (.alloc [(.str []), (.str [])]), ⟨none, (.st 2 (.t 7) (.t 13)), none⟩]) (.seq (rg [oo 14 (.fa 0 (.t 7)), oo 15 (.ld 1 false (.t 14)), mv 16 1, oo 17 (.bin .eql .other false (.t 15) (.t 16))]) (.cond (.t 17) (.seq (rg [oo 18 (.fa 1 (.t 7)), oo 19 (.ld 1 false (.t 18)), mv 4 19, oo 5 (.mov (.c (.bool true)))]) .ret) .skip)))) (rg [oo 20 (.bin .add .other true (.t 10) (ci 1)), mv 10 20]))))
def r80_0 : ACode := (.seq (rg [oo 4 (.mov (.c (.str []))), oo 5 (.mov (.c (.bool false)))]) .ret)
def b80 : AFn := ⟨2, 21, [(4, none), (5, none)], (.seq (rg [oo 4 (.mov (.c (.str []))), oo 5 (.mov (.c (.bool false)))]) (.seq (.seq (rg [mv 8 0, oo 9 (.len 1 (.t 8)), oo 10 (.mov (ci 0))]) (.block 0 (.loop [1, 4, 5, 8, 9, 10] l80_0))) r80_0))⟩
theorem fn80 : AA.fn 80 = some b80 := by kernel_rfl
theorem np80 : AA.prim 80 = none := rfl
def l47_0 : ACode := (.seq (.seq (rg [mv 12 3, oo 13 (.bin .eql .other true (.t 12) (.c (.str []))), mv 14 13, og 15 (.mov (.t 0)) 14 false, og 16 (.bin .gtr .other true (.t 15) (ci 0)) 14 false, oo 17 (.pick (.t 14) (.c (.bool true)) (.t 16))]) (.cond (.t 17) .skip (.exit 0))) (.block 1 (.seq (rg [mv 18 0, oo 19 (.bin .rem .other true (.t 18) (ci 10)), oo 20 (.bin .add .other true (ci 48) (.t 19)), oo 21 (.cvi .u8 (.t 20)), oo 22 (.bslice 1 1 [(.int .u8 0)] [(.t 21)]), oo 23 (.cvbs (.t 22)), mv 24 3, oo 25 (.bin .add .other false (.t 23) (.t 24)), mv 3 25]) (rg [mv 26 0, oo 27 (.bin .quo .other true (.t 26) (ci 10)), mv 0 27]))))
def r47_0 : ACode := (.seq (.seq (rg [mv 28 4]) (.cond (.t 28) (.seq (rg [mv 29 3, oo 30 (.bin .add .other true (.c (.str [45])) (.t 29)), mv 2 30]) .ret) .skip)) (.seq (rg [mv 31 3, mv 2 31]) .ret))
def b47 : AFn := ⟨1, 32, [(2, none)], (.seq (rg [oo 2 (.mov (.c (.str [])))]) (.seq (.seq (rg [mv 5 0, oo 6 (.bin .eql .other true (.t 5) (.c (.int .i64 (-9223372036854775808))))]) (.cond (.t 6) (.seq (rg [oo 2 (.mov (.c (.str [45, 57, 50, 50, 51, 51, 55, 50, 48, 51, 54, 56, 53, 52, 55, 55, 53, 56, 48, 56])))]) .ret) .skip)) (.seq (rg [oo 3 (.mov (.c (.str [])))]) (.seq (rg [mv 7 0, oo 8 (.bin .lss .other true (.t 7) (ci 0)), mv 4 8]) (.seq (.seq (rg [mv 9 4]) (.cond (.t 9) (rg [mv 10 0, oo 11 (.un .neg (.t 10)), mv 0 11]) .skip)) (.seq (.block 0 (.loop [0, 2, 3, 4] l47_0)) r47_0))))))⟩
theorem fn47 : AA.fn 47 = some b47 := by kernel_rfl
theorem np47 : AA.prim 47 = none := rfl
def l7_0 : ACode := (.seq (.seq (rg [mv 49 6, mv 50 5, oo 51 (.bin .lss .other false (.t 49) (.t 50))]) (.cond (.t 51) .skip (.exit 0))) (.block 1 (.seq (rg [mv 53 3, mv 54 6, mv 55 6, oo 56 (.bin .add .other true (.t 55) (ci 512)), oo 57 (.slc 1 (.t 53) (some (.t 54)) (some (.t 56)) none), cl 58 34 [(.t 57)], mv 52 58, oo 59 (.ext (.t 52) 0), oo 60 (.ext (.t 52) 1), oo 10 (.alloc [(.str []), (.int .i64 0), (.int .i64 0), (.int .i64 0), (.int .i64 0), (.int .i64 0), (.int .u8 0), (.str [])]), ⟨none, (.st 8 (.t 10) (.t 59)), none⟩, mv 11 60]) (.seq (rg [mv 61 6, oo 62 (.bin .add .other true (.t 61) (ci 512)), mv 6 62]) (.seq (rg [oo 63 (.fa 4 (.t 10)), oo 64 (.ld 1 false (.t 63)), oo 65 (.bin .add .other true (.t 64) (ci 511)), oo 66 (.bin .quo .other true (.t 65) (ci 512)), oo 67 (.bin .mul .other true (.t 66) (ci 512)), mv 12 67]) (.seq (.seq (rg [mv 68 11, oo 69 (.bin .neq (.iface [58]) true (.t 68) (.c (.lit .nilIface))), mv 70 69, og 71 (.mov (.t 12)) 70 false, og 72 (.mov (.t 5)) 70 false, og 73 (.mov (.t 6)) 70 false, og 74 (.bin .sub .other false (.t 72) (.t 73)) 70 false, og 75 (.bin .gtr .other false (.t 71) (.t 74)) 70 false, oo 76 (.pick (.t 70) (.c (.bool true)) (.t 75)), mv 77 76, og 78 (.mov (.t 3)) 77 false, og 79 (.mov (.t 6)) 77 false, og 80 (.fa 4 (.t 10)) 77 false, og 81 (.ld 1 false (.t 80)) 77 false, og 82 (.bin .add .other false (.t 79) (.t 81)) 77 false, og 83 (.mov (.t 6)) 77 false, og 84 (.mov (.t 12)) 77 false, og 85 (.bin .add .other false (.t 83) (.t 84)) 77 false, og 86 (.slc 1 (.t 78) (some (.t 82)) (some (.t 85)) none) 77 false, og 87 (.call (.c (.func (.func 33) [])) [(.t 86)]) 77 false, og 88 (.un .not (.t 87)) 77 false, oo 89 (.pick (.t 77) (.c (.bool true)) (.t 88)), mv 90 89, og 91 (.mov (.t 7)) 90 false, og 92 (.mov (.t 0)) 90 false, og 93 (.len 1 (.t 92)) 90 false, og 94 (.bin .geq .other false (.t 91) (.t 93)) 90 false, oo 95 (.pick (.t 90) (.c (.bool true)) (.t 94))]) (.cond (.t 95) (.seq (rg [oo 2 (.mov (.c (.bool false)))]) .ret) .skip)) (.seq (rg [mv 96 3, mv 97 6, mv 98 6, oo 99 (.fa 4 (.t 10)), oo 100 (.ld 1 false (.t 99)), oo 101 (.bin .add .other false (.t 98) (.t 100)), oo 102 (.slc 1 (.t 96) (some (.t 97)) (some (.t 101)) none), mv 13 102]) (.seq (rg [mv 103 6, mv 104 12, oo 105 (.bin .add .other false (.t 103) (.t 104)), mv 6 105]) (.seq (.seq (rg [oo 106 (.fa 6 (.t 10)), oo 107 (.ld 1 false (.t 106)), oo 108 (.bin .eql .other true (.t 107) (.c (.int .u8 120)))]) (.cond (.t 108) (.seq (rg [mv 110 13, cl 111 35 [(.t 110)], mv 109 111, oo 112 (.ext (.t 109) 0), oo 113 (.ext (.t 109) 1), mv 14 112, mv 15 113]) (.seq (.seq (rg [mv 114 9, mv 115 114, og 116 (.mov (.t 15)) 115 false, og 117 (.bin .neq (.iface [58]) true (.t 116) (.c (.lit .nilIface))) 115 false, oo 118 (.pick (.t 115) (.c (.bool true)) (.t 117)), mv 119 118, og 120 (.mov (.t 14)) 119 false, og 121 (.len 1 (.t 120)) 119 false, og 122 (.bin .eql .other true (.t 121) (ci 0)) 119 false, oo 123 (.pick (.t 119) (.c (.bool true)) (.t 122))]) (.cond (.t 123) (.seq (rg [oo 2 (.mov (.c (.bool false)))]) .ret) .skip)) (.seq (rg [mv 124 14, mv 8 124, oo 9 (.mov (.c (.bool true)))]) (.exit 1)))) .skip)) (.seq (.seq (.reg true [(0, 1), (0, 2), (0, 3), (0, 4), (0, 5), (0, 6), (1, 6), (2, 6)] [oo 125 (.ld 8 true (.t 10)), mv 126 13, mv 127 8, mv 128 0, mv 129 7, oo 130 (.ixa 8 (.t 128) (.t 129)), oo 131 (.ld 8 true (.t 130)), cl 132 36 [(.t 125), (.t 126), (.t 127), (.t 131)], oo 133 (.un .not (.t 132))]) (.cond (.t 133) (.seq (rg [oo 2 (.mov (.c (.bool false)))]) .ret) .skip)) (.seq (rg [mv 134 7, oo 135 (.bin .add .other true (.t 134) (ci 1)), mv 7 135]) (rg [oo 8 (.mov (.c (.lit (.slice none 0 0)))), oo 9 (.mov (.c (.bool false)))]))))))))))))
def r7_0 : ACode := (.seq (rg [mv 136 9, oo 137 (.un .not (.t 136)), mv 138 137, og 139 (.mov (.t 7)) 138 true, og 140 (.mov (.t 0)) 138 true, og 141 (.len 1 (.t 140)) 138 true, og 142 (.bin .eql .other false (.t 139) (.t 141)) 138 true, oo 143 (.pick (.t 138) (.t 142) (.c (.bool false))), mv 2 143]) .ret)
def b7 : AFn := ⟨1, 144, [(2, none)], (.seq (rg [oo 2 (.mov (.c (.bool false)))]) (.seq (.seq (rg [cl 16 14 [], oo 17 (.un .not (.t 16))]) (.cond (.t 17) (.seq (rg [oo 2 (.mov (.c (.bool false)))]) .ret) .skip)) (.seq (.seq (rg [mv 18 0, cl 19 15 [(.t 18)]]) (.cond (.t 19) (.seq (rg [oo 2 (.mov (.c (.bool true)))]) .ret) .skip)) (.seq (rg [mv 21 0, cl 22 17 [(.t 21)], mv 20 22, oo 23 (.ext (.t 20) 0), oo 24 (.ext (.t 20) 1), mv 3 23, mv 4 24]) (.seq (.seq (rg [mv 25 4, oo 26 (.bin .neq (.iface [58]) true (.t 25) (.c (.lit .nilIface)))]) (.cond (.t 26) (.seq (rg [mv 27 3, oo 28 (.len 1 (.t 27)), oo 29 (.bin .eql .other true (.t 28) (ci 0)), mv 2 29]) .ret) .skip)) (.seq (rg [mv 30 3, oo 31 (.len 1 (.t 30)), oo 32 (.bin .sub .other true (.t 31) (ci 1024)), mv 5 32]) (.seq (.seq (rg [mv 33 5, oo 34 (.bin .lss .other true (.t 33) (ci 0)), mv 35 34, og 36 (.mov (.t 3)) 35 false, og 37 (.len 1 (.t 36)) 35 false, og 38 (.bin .rem .other true (.t 37) (ci 512)) 35 false, og 39 (.bin .neq .other true (.t 38) (ci 0)) 35 false, oo 40 (.pick (.t 35) (.c (.bool true)) (.t 39)), mv 41 40, og 42 (.mov (.t 3)) 41 false, og 43 (.mov (.t 5)) 41 false, og 44 (.slc 1 (.t 42) (some (.t 43)) none none) 41 false, og 45 (.call (.c (.func (.func 33) [])) [(.t 44)]) 41 false, og 46 (.un .not (.t 45)) 41 false, oo 47 (.pick (.t 41) (.c (.bool true)) (.t 46))]) (.cond (.t 47) (.seq (rg [oo 2 (.mov (.c (.bool false)))]) .ret) .skip)) (.seq (rg [oo 6 (.mov (ci 0)), oo 7 (.mov (ci 0))]) (.seq (rg [oo 48 (.bslice 2 0 [(.str []), (.str [])] []), mv 8 48]) (.seq (rg [oo 9 (.mov (.c (.bool false)))]) (.seq (.block 0 (.loop [0, 2, 3, 5, 6, 7, 8, 9] l7_0)) r7_0)))))))))))⟩
end Go.Abs
namespace Go.Abs
open Am
set_option maxRecDepth 10000
set_option linter.unusedSimpArgs false
/-- a list that is too large -/
def largeB : Int → List Ent → Bool
  | _, [] => false
  | n, e :: r => if 65536 < n + (512 + (e.data.l.length : Int) + e.path.length + e.link.length) then true else largeB (n + (512 + (e.data.l.length : Int) + e.path.length + e.link.length)) r
def EntL (e : Ent) : Prop := e.path.length ≤ 140737488351232 ∧ e.link.length ≤ 140737488351232 ∧ e.data.l.length ≤ 140737488351232
theorem h15 (c tmp : Bool) (t : List Ent) (ht : t.length ≤ 140737488351232) (hq : ∀ e ∈ t, EntL e) (r0 : Bool) : ∀ (rest done : List Ent) (acc n i : Int), t = done ++ rest → i = done.length → n = t.length → 0 ≤ acc → acc ≤ 65536 → r0 = largeB acc rest →
    HD AA 0 [2, 3, 6, 7, 8] l15_0 ⟨[.junk, .junk, .bool false, .int .i64 acc, .junk, .junk, .view 8 (t.map Ent.av) c tmp, .int .i64 n, .int .i64 i, .junk, .junk, .junk, .junk, .junk, .junk, .junk, .junk, .junk, .junk, .junk, .junk, .junk, .junk, .junk, .junk, .junk, .junk, .junk, .junk], [], 0⟩ [.blk 0, .code r15_0] (Fin [(2, none)] 0 (.bool r0) [])
  | [], done, acc, n, i, h1, h2, h3, h4, h5, h6 => by
    subst h1
    simp at h3
    refine hd_of (by unfold l15_0; rfl) ?_
    simp only [largeB] at h6
    rw [h6]
    have gg := trivial; repeat' first | simp (maxSteps := 2000000) (disch := omega) only [gg, r15_0, go_sem] | (refine br ?_ ?_ <;> intro gg <;> try (exfalso; omega)) | (refine And.intro ?_ ?_; focus omega) | omega
  | e :: rest, done, acc, n, i, h1, h2, h3, h4, h5, h6 => by
    have hg0 : t[i.toNat]? = some e := by
      rw [h1]
      simp [h2]
    have hl : i.toNat < t.length := by rw [h1]; simp; omega
    obtain ⟨l1, l2, l3⟩ := hq e (by simp [h1])
    unfold largeB at h6
    refine hd_of (by unfold l15_0; rfl) ?_
    by_cases hc : 65536 < acc + (512 + (e.data.l.length : Int) + e.path.length + e.link.length)
    · rw [if_pos hc] at h6
      rw [h6]
      have gg := trivial; repeat' first | simp (maxSteps := 2000000) (disch := omega) only [gg, hg0, lp_head, go_sem] | (refine br ?_ ?_ <;> intro gg <;> try (exfalso; omega)) | (refine And.intro ?_ ?_; focus omega) | omega
    · rw [if_neg hc] at h6
      have ih := h15 c tmp t ht hq r0 rest (done ++ [e]) (acc + (512 + (e.data.l.length : Int) + e.path.length + e.link.length)) n (i + 1) (by simp [h1]) (by first | omega | (simp; omega) | (simp; done)) h3 (by omega) (by omega) h6
      have gg := trivial; repeat' first | simp (maxSteps := 2000000) (disch := omega) only [gg, hg0, lp_head, go_sem] | (refine br ?_ ?_ <;> intro gg <;> try (exfalso; omega)) | (refine And.intro ?_ ?_; focus omega) | omega
inductive RS where
  | nil
  | mk (clip tmp : Bool) (l : List Rcd)
namespace RS
def av : RS → AVal
  | .nil => .lit (.slice none 0 0)
  | .mk c t l => .view 2 (l.map Rcd.av) c t
def l : RS → List Rcd
  | .nil => []
  | .mk _ _ l => l
def isTmp : RS → Bool
  | .nil => false
  | .mk _ t _ => t
end RS
section
variable {r : RS} {f : Nat → Option Nat} {h : Heap}
@[go_sem] theorem ids_rs : r.av.ids = [] := by cases r <;> rfl
@[go_sem] theorem ren_rs : r.av.ren f = r.av := by cases r <;> rfl
@[go_sem] theorem ownIds_rs : r.av.ownIds = [] := by cases r <;> rfl
@[go_sem] theorem lenV_rs : lenV r.av h = some (.int .i64 r.l.length, h) := by cases r <;> simp [lenV, RS.av, RS.l]
theorem xp_ixa_rs {k : IntKind} {i : Int} {K : AVal × Heap → Prop} : (∃ x, ixaV 2 r.av (.int k i) h = some x ∧ K x) ↔ (0 ≤ i ∧ i.toNat < r.l.length) ∧ ∀ a, r.l[i.toNat]? = some a → K (.rptr (Rcd.av a).cells r.isTmp, h) := by
  cases r with
  | nil =>
    simp only [RS.av, RS.l, List.length_nil, Nat.not_lt_zero, and_false, false_and, iff_false]
    rintro ⟨x, h1, _⟩
    unfold ixaV at h1
    simp at h1
  | mk clip tmp l =>
    simp only [RS.av, RS.l, xp_ixa_map, true_and, RS.isTmp]
@[go_sem] theorem op_ixa_rs {A : AProg} {m n nid : Nat} {d : Option Nat} {env : List AVal} {S : List Frame} {F : FinP} {ops : List AOper} {k : IntKind} {i : Int} : OP A m (ixaV 2 r.av (.int k i) h) d ops nid env n S F ↔ (0 ≤ i ∧ i.toNat < r.l.length) ∧ ∀ a, r.l[i.toNat]? = some a → RN A m ops (nid + stride) (setAt d (.rptr (Rcd.av a).cells r.isTmp) env) h n S F := xp_ixa_rs
end
def findR (key : List UInt8) : List Rcd → List UInt8 × Bool
  | [] => ([], false)
  | r :: rs => if r.key = key then (r.value, true) else findR key rs
theorem h80 (rs : RS) (key : List UInt8) (ht : rs.l.length ≤ 1000000) (r0 : List UInt8 × Bool) : ∀ (rest done : List Rcd) (n i : Int), rs.l = done ++ rest → i = done.length → n = rs.l.length → r0 = findR key rest →
    HD AA 0 [1, 4, 5, 8, 9, 10] l80_0 ⟨[.junk, .str key, .junk, .junk, .str [], .bool false, .junk, .junk, rs.av, .int .i64 n, .int .i64 i, .junk, .junk, .junk, .junk, .junk, .junk, .junk, .junk, .junk, .junk], [], 0⟩ [.blk 0, .code r80_0] (Fin [(4, none), (5, none)] 0 (.tuple [.str r0.1, .bool r0.2]) [])
  | [], done, n, i, h1, h2, h3, h4 => by
    have hl : rs.l.length = done.length := by rw [h1]; simp
    refine hd_of (by unfold l80_0; rfl) ?_
    simp only [findR] at h4
    rw [h4]
    have gg := trivial; repeat' first | simp (maxSteps := 2000000) (disch := omega) only [gg, r80_0, go_sem] | (refine br ?_ ?_ <;> intro gg <;> try (exfalso; omega)) | (refine And.intro ?_ ?_; focus omega) | omega
  | r :: rest, done, n, i, h1, h2, h3, h4 => by
    have hg0 : rs.l[i.toNat]? = some r := by
      rw [h1]
      simp [h2]
    have hl : i.toNat < rs.l.length := by rw [h1]; simp; omega
    unfold findR at h4
    refine hd_of (by unfold l80_0; rfl) ?_
    by_cases hc : r.key = key
    · rw [if_pos hc] at h4
      rw [h4]
      have gg := trivial; repeat' first | simp (maxSteps := 2000000) (disch := omega) only [gg, hg0, decide_eq_true hc, lp_head, go_sem] | (refine br ?_ ?_ <;> intro gg <;> try (exfalso; omega)) | (refine And.intro ?_ ?_; focus omega) | omega
    · rw [if_neg hc] at h4
      have ih := h80 rs key ht r0 rest (done ++ [r]) n (i + 1) (by simp [h1]) (by first | omega | (simp; omega) | (simp; done)) h3 h4
      have gg := trivial; repeat' first | simp (maxSteps := 2000000) (disch := omega) only [gg, hg0, decide_eq_false hc, lp_head, go_sem] | (refine br ?_ ?_ <;> intro gg <;> try (exfalso; omega)) | (refine And.intro ?_ ?_; focus omega) | omega
theorem s80 (rs : RS) (key : List UInt8) (ht : rs.l.length ≤ 1000000) : callT AA 80 [rs.av, .str key] [] = some (.tuple [.str (findR key rs.l).1, .bool (findR key rs.l).2], []) := by
  have hh := h80 rs key ht (findR key rs.l) rs.l [] rs.l.length 0 rfl rfl rfl rfl
  refine enter fn80 np80 rfl ?_
  have gg := trivial; repeat' first | simp (maxSteps := 2000000) (disch := omega) only [gg, b80, lp_head, go_sem] | (refine br ?_ ?_ <;> intro gg <;> try (exfalso; omega)) | (refine And.intro ?_ ?_; focus omega) | omega
theorem bytesOf_one {x : Int} : bytesOf [.int .u8 x] = some [UInt8.ofNat x.toNat] := rfl
theorem dec_small {n : Int} (h0 : 0 ≤ n) (h : n < 10) : Lib.decDigits n.toNat = [UInt8.ofNat (48 + n % 10).toNat] := by
  rw [Lib.decDigits, dif_pos (by omega)]
  congr 2
  omega
theorem dec_big {n : Int} (h0 : 0 ≤ n) (h : ¬ n < 10) : Lib.decDigits n.toNat = Lib.decDigits (n / 10).toNat ++ [UInt8.ofNat (48 + n % 10).toNat] := by
  rw [Lib.decDigits, dif_neg (by omega)]
  have e1 : n.toNat / 10 = (n / 10).toNat := by omega
  have e2 : 48 + n.toNat % 10 = (48 + n % 10).toNat := by omega
  rw [e1, e2]
theorem h47 (neg : Bool) (r0 : List UInt8) : ∀ (k : Nat) (n : Int) (s : List UInt8), 0 ≤ n → n < 10 ^ k → n ≤ 9223372036854775807 → s.length + k ≤ 20 → (s = [] ∨ 0 < n → r0 = (if neg then [45] else []) ++ (Lib.decDigits n.toNat ++ s)) → (s ≠ [] → n = 0 → r0 = (if neg then [45] else []) ++ s) → (s = [] → 0 < k) →
    HD AA 0 [0, 2, 3, 4] l47_0 ⟨[.int .i64 n, .junk, .str [], .str s, .bool neg, .junk, .junk, .junk, .junk, .junk, .junk, .junk, .junk, .junk, .junk, .junk, .junk, .junk, .junk, .junk, .junk, .junk, .junk, .junk, .junk, .junk, .junk, .junk, .junk, .junk, .junk, .junk], [], 0⟩ [.blk 0, .code r47_0] (Fin [(2, none)] 0 (.str r0) [])
  | k, n, s, h0, h1, h1', h2, h3, h4, h5 => by
    by_cases hs : s = [] ∨ 0 < n
    · have hk : 0 < k := by
        rcases hs with hs | hs
        · exact h5 hs
        · rcases Nat.eq_zero_or_pos k with hk | hk
          · rw [hk] at h1
            simp at h1
            omega
          · exact hk
      obtain ⟨k, rfl⟩ : ∃ j, k = j + 1 := ⟨k - 1, by omega⟩
      have e1 : n.tmod 10 = n % 10 := Int.tmod_eq_emod_of_nonneg h0
      have e2 : n.tdiv 10 = n / 10 := Int.tdiv_eq_ediv_of_nonneg h0
      have hr := h3 hs
      have hp : n / 10 < 10 ^ k := by
        rw [Int.pow_succ] at h1
        omega
      have ih := h47 neg r0 k (n / 10) (UInt8.ofNat (48 + n % 10).toNat :: s) (by omega) hp (by omega) (by simp; omega) (fun h => by
        have hb : ¬ n < 10 := by
          rcases h with h | h
          · cases h
          · omega
        rw [hr, dec_big h0 hb]
        simp) (fun _ h => by
        rw [hr, dec_small h0 (by omega)]
        simp) (fun h => by cases h)
      refine hd_of (by unfold l47_0; rfl) ?_
      by_cases hse : s = []
      · have gg := trivial; repeat' first | simp (maxSteps := 2000000) (disch := omega) only [gg, decide_eq_true hse, e1, e2, bytesOf_one, lp_head, go_sem] | (refine br ?_ ?_ <;> intro gg <;> try (exfalso; omega)) | (refine And.intro ?_ ?_; focus omega) | omega
      · have hn : 0 < n := by
          rcases hs with hs | hs
          · exact (hse hs).elim
          · exact hs
        have gg := trivial; repeat' first | simp (maxSteps := 2000000) (disch := omega) only [gg, decide_eq_false hse, e1, e2, bytesOf_one, lp_head, go_sem] | (refine br ?_ ?_ <;> intro gg <;> try (exfalso; omega)) | (refine And.intro ?_ ?_; focus omega) | omega
    · have hs1 : s ≠ [] := fun h => hs (.inl h)
      have hn : n = 0 := by
        have : ¬ 0 < n := fun h => hs (.inr h)
        omega
      have hr := h4 hs1 hn
      subst hn
      refine hd_of (by unfold l47_0; rfl) ?_
      cases neg
      · rw [hr]
        have gg := trivial; repeat' first | simp (maxSteps := 2000000) (disch := omega) only [gg, decide_eq_false hs1, r47_0, go_sem] | (refine br ?_ ?_ <;> intro gg <;> try (exfalso; omega)) | (refine And.intro ?_ ?_; focus omega) | omega
        all_goals simp
      · rw [hr]
        have gg := trivial; repeat' first | simp (maxSteps := 2000000) (disch := omega) only [gg, decide_eq_false hs1, r47_0, go_sem] | (refine br ?_ ?_ <;> intro gg <;> try (exfalso; omega)) | (refine And.intro ?_ ?_; focus omega) | omega
        all_goals simp
theorem itoa_min : Lib.itoa (-9223372036854775808) = [45, 57, 50, 50, 51, 51, 55, 50, 48, 51, 54, 56, 53, 52, 55, 55, 53, 56, 48, 56] := by
  have h : (-9223372036854775808 : Int).natAbs = 9223372036854775808 := rfl
  unfold Lib.itoa
  rw [if_pos (by omega), h]
  simp [Lib.decDigits]
theorem s47 (n : Int) (h1 : -9223372036854775808 ≤ n) (h2 : n ≤ 9223372036854775807) : callT AA 47 [.int .i64 n] [] = some (.str (Lib.itoa n), []) := by
  refine enter fn47 np47 rfl ?_
  by_cases hm : n = -9223372036854775808
  · subst hm
    rw [itoa_min]
    have gg := trivial; repeat' first | simp (maxSteps := 2000000) (disch := omega) only [gg, b47, go_sem] | (refine br ?_ ?_ <;> intro gg <;> try (exfalso; omega)) | (refine And.intro ?_ ?_; focus omega) | omega
  by_cases hn : n < 0
  · have hh := h47 true (Lib.itoa n) 19 (-n) [] (by omega) (by omega) (by omega) (by simp) (fun _ => by
      unfold Lib.itoa
      rw [if_pos hn]
      have e : n.natAbs = (-n).toNat := by omega
      rw [e]
      simp) (fun h => (h rfl).elim) (fun _ => by omega)
    have e : 0 - n = -n := by omega
    have gg := trivial; repeat' first | simp (maxSteps := 2000000) (disch := omega) only [gg, b47, e, lp_head, go_sem] | (refine br ?_ ?_ <;> intro gg <;> try (exfalso; omega)) | (refine And.intro ?_ ?_; focus omega) | omega
  · have hh := h47 false (Lib.itoa n) 19 n [] (by omega) (by omega) (by omega) (by simp) (fun _ => by
      unfold Lib.itoa
      rw [if_neg hn]
      simp) (fun h => (h rfl).elim) (fun _ => by omega)
    have gg := trivial; repeat' first | simp (maxSteps := 2000000) (disch := omega) only [gg, b47, lp_head, go_sem] | (refine br ?_ ?_ <;> intro gg <;> try (exfalso; omega)) | (refine And.intro ?_ ?_; focus omega) | omega
end Go.Abs
namespace Go.Abs
section
variable {A : AProg} {m nid n : Nat} {d : Option Nat} {env : List AVal} {h h' : Heap} {st : ASt} {S : List Frame} {F : FinP} {ops : List AOper} {v : AVal} {op : AOp} {ps : List (Nat × Nat)} {base : Nat} {fs : List Foot} {f : Foot}
def RZ (A : AProg) (m base : Nat) (ops : List AOper) (nid : Nat) (env : List AVal) (h : Heap) (n : Nat) (S : List Frame) (F : FinP) : Prop :=
  FeetT A ops nid ⟨env, h, n⟩ fun fs st => (∀ f ∈ fs, f.wr = [] ∧ ∀ id ∈ f.rd, id < base) ∧ toK A m F S .norm st
def GZ (A : AProg) (m base : Nat) (v : AVal) (want : Bool) (d : Option Nat) (op : AOp) (ops : List AOper) (nid : Nat) (env : List AVal) (h : Heap) (n : Nat) (S : List Frame) (F : FinP) : Prop := match v with
  | .bool b => (b = want → RZ A m base (⟨d, op, none⟩ :: ops) nid env h n S F) ∧ (b ≠ want → RZ A m base ops (nid + stride) (setAt d .undef env) h n S F)
  | .lit (.tuple _) => RZ A m base ops (nid + stride) (setAt d .undef env) h n S F
  | _ => False
@[go_sem] theorem gz_undef {want : Bool} : GZ A m base (.lit Go.undef) want d op ops nid env h n S F ↔ RZ A m base ops (nid + stride) (setAt d .undef env) h n S F := Iff.rfl
@[go_sem] theorem foot_wr {a b : List Nat} : Foot.wr ⟨a, b⟩ = b := rfl
@[go_sem] theorem foot_rd {a b : List Nat} : Foot.rd ⟨a, b⟩ = a := rfl
end
end Go.Abs
namespace Go.Abs
open Am
set_option maxRecDepth 10000
set_option linter.unusedSimpArgs false
end Go.Abs
namespace Go.Abs
open Am
set_option maxRecDepth 100000
set_option linter.unusedSimpArgs false
end Go.Abs
namespace Go.Abs
open Am
set_option maxRecDepth 100000
set_option linter.unusedSimpArgs false
theorem part_map {W X : List UInt8} {k n : Nat} (h : (W.drop k).take n = X) : List.take n (List.drop k (W.map AVal.byte)) = X.map .byte := by
  rw [← List.map_drop, ← List.map_take, h]
/-- what a header's block in an archive is -/
structure BlkAt (W : List UInt8) (k : Nat) (H : Hd) (body : List UInt8) (p : Nat) : Prop where
  ok : encOk H = true
  size : H.size = body.length
  pad : p = padN body.length
  hd : (W.drop k).take 512 = encB H
  bdy : (W.drop (k + 512)).take body.length = body
  zeros : (W.drop (k + 512 + body.length)).take p = List.replicate p 0
  lt : k + 512 + body.length + p + 1024 ≤ W.length
end Go.Abs
namespace Go.Abs
open Go.Proofs Go.RowKit Go.ChangeShapes Go.WideShapes Go.Deep
set_option maxRecDepth 100000
set_option linter.unusedSimpArgs false
/-- a value that is all old memory's -/
abbrev RepW (w : World) : AVal → Value → Prop := Rep (fun _ => none) (fun b => b < w.heap.size) (fun _ => False) w
section
variable {H : Type} {enc : TypeId × Value → H} {w : World} {n : Nat} {cs : List Value} {x : DataW H × List MemPlace}
theorem lt_of_cell {a : Addr} {v : Value} (h : w.cell? a = some v) : a.block < w.heap.size ∧ a.spot = none := by
  unfold World.cell? at h
  split at h
  · rename_i c e f hb
    refine ⟨(Array.getElem?_eq_some_iff.1 hb).1, ?_⟩
    cases hs : a.spot with
    | none => rfl
    | some k => rw [hs] at h; simp at h
  · cases h
theorem cell_add {b o i : Nat} {sp : Option Nat} {v : Value} (h : w.cell? ((⟨b, o, sp⟩ : Addr).add i) = some v) (hs : sp = none) : w.cell? ⟨b, o + i, none⟩ = some v := by
  subst hs
  rw [← h, Addr.add_none]
/-- no string, slice or map of it is larger than the reach -/
def Light (d : DataW H) (t : TypeId) : Prop := ∀ k ∈ d.weights Tryz.prog t, k ≤ reachBytes
theorem reach_eq : reachBytes = 140737488351232 := by decide
theorem str_of (hw : Light x.1 9) (h : DataW.trod enc Tryz.prog w 0 (fun _ => true) true n 9 cs = some x) : ∃ (l : List UInt8) (v : Value), cs = [v] ∧ RepW w (.str l) v ∧ l.length ≤ 140737488351232 := by
  obtain ⟨s, h1, hx, h2⟩ := DataW.trod_string Tryz.underlying9 h
  have hwl : s.data.toList.length ≤ 140737488351232 := by
    rw [← reach_eq]
    refine hw _ ?_
    rw [hx]
    simp [DataW.weights]
  refine ⟨s.data.toList, .string s, h1, ?_, hwl⟩
  · have := Rep.str (ι := fun _ => none) (S := fun b => b < w.heap.size) (T := fun _ => False) (w := w) s.data.toList
    simpa using this
theorem int_of (h : DataW.trod enc Tryz.prog w 0 (fun _ => true) true n 3 cs = some x) : ∃ (z : Int) (v : Value), cs = [v] ∧ RepW w (.int .i64 z) v ∧ -9223372036854775808 ≤ z ∧ z ≤ 9223372036854775807 := by
  obtain ⟨z, h1, _, h2⟩ := DataW.trod_int Tryz.underlying3 h
  simp only [Lit.wf, Bool.and_eq_true, decide_eq_true_eq] at h2
  exact ⟨z, _, h1, .int _ _, h2.1, h2.2⟩
theorem bytes_of (hw : Light x.1 26) (h : DataW.trod enc Tryz.prog w 0 (fun _ => true) true n 26 cs = some x) : ∃ (b : BS) (v : Value), cs = [v] ∧ RepW w b.av v ∧ b.isTmp = false ∧ b.l.length ≤ 140737488351232 := by
  rcases open_ints Tryz.underlying26 Tryz.underlying5 (by kernel_rfl) h with ⟨hcs, _⟩ | ⟨a, l, c, zs, hcs, _, hl, hm, hz, hx, hcell, hwz⟩
  · exact ⟨.nil, _, hcs, .lit _, rfl, by simp [BS.l]⟩
  · simp only [if_true] at hz
    have hwt : zs.length ≤ 140737488351232 := by
      have hb : Tryz.prog.bytesOf 5 = 1 := by kernel_rfl
      rw [← reach_eq]
      refine hw _ ?_
      rw [hx]
      simp only [DataW.weights, Tryz.underlying26, hb, lits, List.length_map, List.length_take, List.length_drop]
      refine List.mem_cons.2 (.inl ?_)
      omega
    have hw : ∀ i, i < zs.length → 0 ≤ zs.getD i 0 ∧ zs.getD i 0 ≤ 255 := by
      intro i hi
      have := hwz (zs.getD i 0) (by rw [List.getD, List.getElem?_eq_getElem hi]; exact List.getElem_mem hi)
      simpa [Lit.wf, IntKind.min, IntKind.max, IntKind.signed, IntKind.bits] using this
    obtain ⟨b, o, sp⟩ := a
    have hsp : sp = none ∨ c = 0 := by
      rcases Nat.eq_zero_or_pos c with h0 | h0
      · exact .inr h0
      · exact .inl (by simpa [Addr.add] using (lt_of_cell (hcell 0 (by omega))).2)
    let bs := (zs.take l).map fun z => UInt8.ofNat z.toNat
    have hlen : bs.length = l := by simp [bs]; omega
    have hget : ∀ (i : Nat) (e : AVal), (bs.map AVal.byte)[i]? = some e → i < l ∧ e = .int .u8 (zs.getD i 0) := by
      intro i e he
      have hi : i < l := by
        have := (List.getElem?_eq_some_iff.1 he).1
        simpa [hlen] using this
      refine ⟨hi, ?_⟩
      have hiz : i < zs.length := by omega
      have e1 : zs[i]? = some zs[i] := List.getElem?_eq_getElem hiz
      have e2 : zs.getD i 0 = zs[i] := by rw [List.getD, e1]; rfl
      have hb := hw i hiz
      rw [e2] at hb ⊢
      have e3 : (bs.map AVal.byte)[i]? = some (AVal.byte (UInt8.ofNat zs[i].toNat)) := by
        simp only [bs, List.getElem?_map, List.getElem?_take, hi, if_true, e1, Option.map_some]
      rw [e3] at he
      cases he
      unfold AVal.byte
      congr 1
      simp
      omega
    have hcl : ∀ i, i < zs.length → w.cell? ⟨b, o + i, none⟩ = some (.int .u8 (zs.getD i 0)) := by
      intro i hi
      refine cell_add (hcell i hi) ?_
      rcases hsp with h | h
      · exact h
      · omega
    have hcl1 : ∀ i, i < zs.length → w.cell? ⟨b, o + i * 1, none⟩ = some (.int .u8 (zs.getD i 0)) := by
      intro i hi
      rw [Nat.mul_one]
      exact hcl i hi
    have := Rep.view (ι := fun _ => none) (S := fun b => b < w.heap.size) (T := fun _ => False) (w := w) 1 (bs.map AVal.byte) false false b o c sp (fun i _ => .int .u8 (zs.getD i 0)) hsp (by simp [hlen]; omega) (by simp)
      (fun i e he => by
        obtain ⟨hi, rfl⟩ := hget i e he
        exact (lt_of_cell (hcl i (by omega))).1)
      (fun i e he => by
        obtain ⟨hi, rfl⟩ := hget i e he
        rfl)
      (fun i e he => by
        obtain ⟨hi, rfl⟩ := hget i e he
        rfl)
      (fun i e j y he hy => by
        obtain ⟨hi, rfl⟩ := hget i e he
        match j, hy with
        | 0, _ => exact hcl1 i (by omega)
        | j + 1, hy => simp [AVal.cells] at hy)
      (fun i e j y he hy => by
        obtain ⟨hi, rfl⟩ := hget i e he
        match j, hy with
        | 0, hy =>
          simp [AVal.cells] at hy
          subst hy
          exact .int _ _
        | j + 1, hy => simp [AVal.cells] at hy)
    refine ⟨.mk false false bs, _, hcs, ?_, rfl, ?_⟩
    · rw [List.length_map, hlen] at this
      exact this
    · simp only [BS.l, hlen]
      omega
structure EntW (e : Ent) : Prop where
  kind : -9223372036854775808 ≤ e.kind ∧ e.kind ≤ 9223372036854775807
  mode : -9223372036854775808 ≤ e.mode ∧ e.mode ≤ 9223372036854775807
  uid : -9223372036854775808 ≤ e.uid ∧ e.uid ≤ 9223372036854775807
  gid : -9223372036854775808 ≤ e.gid ∧ e.gid ≤ 9223372036854775807
  time : -9223372036854775808 ≤ e.time ∧ e.time ≤ 9223372036854775807
  path : e.path.length ≤ 140737488351232
  link : e.link.length ≤ 140737488351232
  data : e.data.l.length ≤ 140737488351232
  tmp : e.data.isTmp = false
theorem ent_of (hw : Light x.1 36) (h : DataW.trod enc Tryz.prog w 0 (fun _ => true) true n 36 cs = some x) : ∃ e : Ent, cs.length = 8 ∧ EntW e ∧ ∀ (j : Nat) (c : AVal) (v : Value), e.av.cells[j]? = some c → cs[j]? = some v → RepW w c v := by
  obtain ⟨xs, m, _, hx, hl, hxl, hf⟩ := DataW.trod_struct Tryz.underlying36 h
  have h8 : Tryz.prog.cellsOf 36 = 8 := by kernel_rfl
  have h9 : Tryz.prog.cellsOf 9 = 1 := by kernel_rfl
  have h3 : Tryz.prog.cellsOf 3 = 1 := by kernel_rfl
  have h26 : Tryz.prog.cellsOf 26 = 1 := by kernel_rfl
  rw [h8] at hl
  match cs, hl, xs, hxl with
  | [c0, c1, c2, c3, c4, c5, c6, c7], _, [y0, y1, y2, y3, y4, y5, y6, y7], _ =>
    have hws : (DataW.agg [y0.1, y1.1, y2.1, y3.1, y4.1, y5.1, y6.1, y7.1] : DataW H).weights Tryz.prog 36 = y0.1.weights Tryz.prog 9 ++ (y1.1.weights Tryz.prog 3 ++ (y2.1.weights Tryz.prog 3 ++ (y3.1.weights Tryz.prog 3 ++ (y4.1.weights Tryz.prog 3 ++ (y5.1.weights Tryz.prog 3 ++ (y6.1.weights Tryz.prog 9 ++ (y7.1.weights Tryz.prog 26 ++ []))))))) := by
      simp only [DataW.weights, Tryz.underlying36, List.map_cons, List.map_nil, DataW.weightsEach]
    have hw8 : ∀ k ∈ y0.1.weights Tryz.prog 9 ++ (y1.1.weights Tryz.prog 3 ++ (y2.1.weights Tryz.prog 3 ++ (y3.1.weights Tryz.prog 3 ++ (y4.1.weights Tryz.prog 3 ++ (y5.1.weights Tryz.prog 3 ++ (y6.1.weights Tryz.prog 9 ++ (y7.1.weights Tryz.prog 26 ++ []))))))), k ≤ reachBytes := by
      rw [← hws]
      intro k hk
      refine hw k ?_
      rw [hx]
      exact hk
    have w0 : Light y0.1 9 := fun k hk => hw8 k (by simp [hk])
    have w6 : Light y6.1 9 := fun k hk => hw8 k (by simp [hk])
    have w7 : Light y7.1 26 := fun k hk => hw8 k (by simp [hk])
    have g0 := hf 0 _ rfl
    have g1 := hf 1 _ rfl
    have g2 := hf 2 _ rfl
    have g3 := hf 3 _ rfl
    have g4 := hf 4 _ rfl
    have g5 := hf 5 _ rfl
    have g6 := hf 6 _ rfl
    have g7 := hf 7 _ rfl
    simp only [h9, h3, h26, List.drop_zero, List.drop_succ_cons, List.take_succ_cons, List.take_zero, List.getElem?_cons_zero, List.getElem?_cons_succ] at g0 g1 g2 g3 g4 g5 g6 g7
    obtain ⟨p, v0, e0, r0, b0⟩ := str_of w0 g0
    obtain ⟨k, v1, e1, r1, b1⟩ := int_of g1
    obtain ⟨md, v2, e2, r2, b2⟩ := int_of g2
    obtain ⟨u, v3, e3, r3, b3⟩ := int_of g3
    obtain ⟨gd, v4, e4, r4, b4⟩ := int_of g4
    obtain ⟨t, v5, e5, r5, b5⟩ := int_of g5
    obtain ⟨lk, v6, e6, r6, b6⟩ := str_of w6 g6
    obtain ⟨d, v7, e7, r7, b7, b8⟩ := bytes_of w7 g7
    cases e0; cases e1; cases e2; cases e3; cases e4; cases e5; cases e6; cases e7
    refine ⟨⟨p, k, md, u, gd, t, lk, d⟩, rfl, ⟨b1, b2, b3, b4, b5, b0, b6, b8, b7⟩, fun j c v hc hv => ?_⟩
    match j, hc, hv with
    | 0, hc, hv => cases hc; cases hv; exact r0
    | 1, hc, hv => cases hc; cases hv; exact r1
    | 2, hc, hv => cases hc; cases hv; exact r2
    | 3, hc, hv => cases hc; cases hv; exact r3
    | 4, hc, hv => cases hc; cases hv; exact r4
    | 5, hc, hv => cases hc; cases hv; exact r5
    | 6, hc, hv => cases hc; cases hv; exact r6
    | 7, hc, hv => cases hc; cases hv; exact r7
    | j + 8, hc, hv => cases hv
instance : Inhabited Ent := ⟨⟨[], 0, 0, 0, 0, 0, [], .nil⟩⟩
/-- a list of entries: nil, or a row -/
def esAv : Option (List Ent) → AVal
  | none => .lit (.slice none 0 0)
  | some t => .view 8 (t.map Ent.av) false false
def esL : Option (List Ent) → List Ent
  | none => []
  | some t => t
theorem weightsAll_mem : ∀ (l : List (DataW H)) (t : TypeId) (d : DataW H), d ∈ l → ∀ k ∈ d.weights Tryz.prog t, k ∈ DataW.weightsAll Tryz.prog t l
  | [], _, d, hd => by cases hd
  | a :: r, t, d, hd => by
    intro k hk
    simp only [DataW.weightsAll, List.mem_append]
    rcases List.mem_cons.1 hd with rfl | hd
    · exact .inl hk
    · exact .inr (weightsAll_mem r t d hd k hk)
theorem ents_of (hw : Light x.1 22) (h : DataW.trod enc Tryz.prog w 0 (fun _ => true) true n 22 cs = some x) : ∃ (t : Option (List Ent)) (v : Value), cs = [v] ∧ RepW w (esAv t) v ∧ (∀ e ∈ esL t, EntW e) ∧ (esL t).length ≤ 140737488351232 := by
  rcases open_slice Tryz.underlying22 h with ⟨hcs, _⟩ | ⟨a, len, cap, m, n', D, Pl, hcs, _, hl, hm, hmm, hx, hi⟩
  · exact ⟨none, _, hcs, .lit _, by simp [esL], by simp [esL]⟩
  · have h8 : Tryz.prog.cellsOf 36 = 8 := by kernel_rfl
    simp only [if_true] at hmm
    subst hmm
    rw [h8] at hi
    have hb : Tryz.prog.bytesOf 36 = 96 := by kernel_rfl
    have hws : x.1.weights Tryz.prog 22 = (((List.range len).map D).length + ((List.range (m - len)).map fun j => D (len + j)).length) * 96 :: (DataW.weightsAll Tryz.prog 36 ((List.range len).map D) ++ DataW.weightsAll Tryz.prog 36 ((List.range (m - len)).map fun j => D (len + j))) := by
      rw [hx]
      simp only [DataW.weights, Tryz.underlying22, hb]
    have hm96 : m * 96 ≤ 140737488351232 := by
      rw [← reach_eq]
      refine hw _ ?_
      rw [hws]
      simp only [List.length_map, List.length_range]
      refine List.mem_cons.2 (.inl ?_)
      congr 1
      omega
    have hwD : ∀ i, i < m → Light (D i) 36 := by
      intro i him k hk
      refine hw k ?_
      rw [hws]
      refine List.mem_cons.2 (.inr (List.mem_append.2 ?_))
      by_cases hil : i < len
      · exact .inl (weightsAll_mem _ _ _ (List.mem_map.2 ⟨i, List.mem_range.2 hil, rfl⟩) k hk)
      · refine .inr (weightsAll_mem _ _ (D i) (List.mem_map.2 ⟨i - len, List.mem_range.2 (by omega), ?_⟩) k hk)
        show D (len + (i - len)) = D i
        congr 1
        omega
    obtain ⟨V, hV⟩ := choose_lt (α := Ent × List Value) (n := m) (p := fun i z => w.cells? 0 (a.add (i * 8)) 8 = some z.2 ∧ z.2.length = 8 ∧ EntW z.1 ∧ ∀ (j : Nat) (c : AVal) (v : Value), z.1.av.cells[j]? = some c → z.2[j]? = some v → RepW w c v) (fun i him => by
      obtain ⟨cs', h1, h2⟩ := hi i him
      obtain ⟨e, e1, e2, e3⟩ := ent_of (hwD i him) h2
      exact ⟨(e, cs'), h1, e1, e2, e3⟩)
    obtain ⟨b, o, sp⟩ := a
    have hsp : sp = none ∨ m = 0 := by
      rcases Nat.eq_zero_or_pos m with h0 | h0
      · exact .inr h0
      · obtain ⟨h1, h2, _⟩ := hV 0 h0
        obtain ⟨_, _, h3⟩ := World.cells?_some h1
        have h4 := h3 0 (by omega)
        rw [List.getElem?_eq_getElem (by omega)] at h4
        exact .inl (by simpa [Addr.add] using (lt_of_cell h4).2)
    let t := (List.range len).map fun i => (V i).1
    have hlen : t.length = len := by simp [t]
    have hget : ∀ (i : Nat) (e : AVal), (t.map Ent.av)[i]? = some e → i < len ∧ e = (V i).1.av := by
      intro i e he
      have hi : i < len := by
        have := (List.getElem?_eq_some_iff.1 he).1
        simpa [hlen] using this
      refine ⟨hi, ?_⟩
      simp [t, hi] at he
      exact he.symm
    have hcell : ∀ (i j : Nat), i < len → j < 8 → w.cell? ⟨b, o + i * 8 + j, none⟩ = some ((V i).2.getD j undef) := by
      intro i j hi hj
      obtain ⟨h1, h2, _⟩ := hV i (by omega)
      obtain ⟨_, _, h3⟩ := World.cells?_some h1
      have h4 := h3 j hj
      have hs : sp = none := by
        rcases hsp with h | h
        · exact h
        · omega
      subst hs
      rw [Addr.add_none, Addr.add_none] at h4
      rw [h4, List.getD, List.getElem?_eq_getElem (by omega)]
      rfl
    have hcn : ∀ e : Ent, e.av.cells.length = 8 := fun _ => rfl
    have := Rep.view (ι := fun _ => none) (S := fun b => b < w.heap.size) (T := fun _ => False) (w := w) 8 (t.map Ent.av) false false b o m sp (fun i j => (V i).2.getD j undef) hsp (by simp [hlen]; omega) (by simp)
      (fun i e he => by
        obtain ⟨hi, rfl⟩ := hget i e he
        exact (lt_of_cell (hcell i 0 hi (by omega))).1)
      (fun i e he => by
        obtain ⟨hi, rfl⟩ := hget i e he
        rfl)
      (fun i e he => by
        obtain ⟨hi, rfl⟩ := hget i e he
        have ht := (hV i (by omega)).2.2.1.tmp
        have hf : (V i).1.data.av.flat = true := by rw [flat_bs, ht]; rfl
        simp only [AVal.closed, cells_ent, List.all_cons, List.all_nil, flat_str, flat_int, hf, Bool.and_true])
      (fun i e j y he hy => by
        obtain ⟨hi, rfl⟩ := hget i e he
        have hj : j < 8 := by
          have := (List.getElem?_eq_some_iff.1 hy).1
          rwa [hcn] at this
        exact hcell i j hi hj)
      (fun i e j y he hy => by
        obtain ⟨hi, rfl⟩ := hget i e he
        have hj : j < 8 := by
          have := (List.getElem?_eq_some_iff.1 hy).1
          rwa [hcn] at this
        obtain ⟨_, h2, _, h4⟩ := hV i (by omega)
        refine h4 j y _ hy ?_
        rw [List.getD, List.getElem?_eq_getElem (by omega)]
        rfl)
    refine ⟨some t, _, hcs, ?_, ?_, ?_⟩
    · rw [List.length_map, hlen] at this
      exact this
    · intro e he
      simp only [esL, t, List.mem_map, List.mem_range] at he
      obtain ⟨i, hi, rfl⟩ := he
      exact (hV i (by omega)).2.2.1
    · simp only [esL, hlen]
      omega
end
end Go.Abs
namespace Go.Abs
open Am
set_option maxRecDepth 10000
set_option linter.unusedSimpArgs false
theorem large_small : ∀ (t : List Ent) (n : Int), 0 ≤ n → largeB n t = false → n + 512 * t.length ≤ 65536 + (if t = [] then n else 0) ∧ ∀ e ∈ t, e.data.l.length ≤ 65536 ∧ e.path.length ≤ 65536 ∧ e.link.length ≤ 65536
  | [], n, _, _ => by simp; omega
  | e :: t, n, h0, h => by
    unfold largeB at h
    by_cases hc : 65536 < n + (512 + (e.data.l.length : Int) + e.path.length + e.link.length)
    · rw [if_pos hc] at h; cases h
    rw [if_neg hc] at h
    obtain ⟨h1, h2⟩ := large_small t _ (by omega) h
    refine ⟨?_, fun x hx => ?_⟩
    · simp only [List.length_cons, reduceCtorEq, if_false]
      split at h1
      · rename_i ht
        subst ht
        simp
        omega
      · omega
    · rcases List.mem_cons.1 hx with rfl | hx
      · omega
      · exact h2 x hx
theorem large_len {t : List Ent} (h : largeB 0 t = false) : t.length ≤ 128 := by
  have := (large_small t 0 (by omega) h).1
  split at this <;> omega
theorem entL_of {e : Ent} (h : EntW e) : EntL e := ⟨h.path, h.link, h.data⟩
theorem entOk_of {e : Ent} (h : EntW e) (h1 : e.data.l.length ≤ 65536 ∧ e.path.length ≤ 65536 ∧ e.link.length ≤ 65536) : EntOk e := ⟨by omega, by omega, by omega, h.tmp⟩
end Go.Abs
namespace Go.Abs
open Am
set_option maxRecDepth 10000
set_option linter.unusedSimpArgs false
theorem find_recs (e : Ent) :
    findR [112, 97, 116, 104] (recsE e) = (if (splitN e.path).2.2 then ([], false) else (e.path, true)) ∧
    findR [108, 105, 110, 107, 112, 97, 116, 104] (recsE e) = (if linkE e.link then ([], false) else (e.link, true)) ∧
    findR [117, 105, 100] (recsE e) = (if idB e.uid then ([], false) else (Lib.itoa e.uid, true)) ∧
    findR [103, 105, 100] (recsE e) = (if idB e.gid then ([], false) else (Lib.itoa e.gid, true)) ∧
    findR [109, 116, 105, 109, 101] (recsE e) = (if timeB e.time then ([], false) else (Lib.itoa e.time, true)) := by
  unfold recsE rst3 rst4 rst5 rst6 rst7
  cases idB e.gid <;> cases linkE e.link <;> cases timeB e.time <;> cases (splitN e.path).2.2 <;> cases idB e.uid <;> simp [recIf, findR, gidB, linkpathB, mtimeB, pathB, uidB]
theorem blkAt_of {W R : List UInt8} {k : Nat} {H : Hd} {body : List UInt8} (hW : W.drop k = encB H ++ (padL body ++ R)) (hok : encOk H = true) (hs : H.size = body.length) (hR : 1024 ≤ R.length) : BlkAt W k H body (padN body.length) := by
  have hl := encB_length H
  have hlen := congrArg List.length hW
  simp only [List.length_append, List.length_drop, padL_length] at hlen
  have d1 : W.drop (k + 512) = padL body ++ R := by
    rw [← List.drop_drop, hW, List.drop_left' hl]
  refine ⟨hok, hs, rfl, ?_, ?_, ?_, by omega⟩
  · rw [hW, List.take_left' hl]
  · rw [d1]
    unfold padL
    rw [List.append_assoc, List.take_left' rfl]
  · rw [← List.drop_drop, d1]
    unfold padL
    rw [List.append_assoc, List.drop_left' rfl, List.take_left' (by simp)]
theorem piece_mod (n : Int) (e : Ent) : (pieceL n e).length % 512 = 0 := by
  have h1 : ∀ l : List UInt8, (padL l).length % 512 = 0 := by
    intro l
    have := pad_whole l
    unfold wholeN at this
    omega
  have h2 := h1 e.data.l
  have h3 := encB_length (hdrE e (recsE e))
  have h4 : (preE n e).length % 512 = 0 := by
    unfold preE
    split
    · rfl
    · have := h1 (bodyE e)
      have := encB_length (hdX n (bodyE e))
      rw [List.length_append]
      omega
  unfold pieceL
  simp only [List.length_append]
  omega
theorem out_mod : ∀ (t : List Ent) (i : Nat), (outL i t).length % 512 = 0
  | [], _ => rfl
  | e :: t, i => by
    have h1 := piece_mod i e
    have h2 := out_mod t (i + 1)
    simp only [outL, List.length_append]
    omega
end Go.Abs
namespace Go.Abs
open Am
set_option maxRecDepth 20000
set_option linter.unusedSimpArgs false
theorem h42 (b : BS) (hb : b.l.length ≤ 1000000000) (r0 : Bool) : ∀ (rest done : List UInt8) (n i : Int), b.l = done ++ rest → i = done.length → n = b.l.length → r0 = zerosB rest →
    HD AA 0 [2, 5, 6, 7] l42_0 ⟨[.junk, .junk, .bool false, .junk, .junk, b.av, .int .i64 n, .int .i64 i, .junk, .junk, .junk, .junk, .junk, .junk], [], 0⟩ [.blk 0, .code r42_0] (Fin [(2, none)] 0 (.bool r0) [])
  | [], done, n, i, h1, h2, h3, h4 => by
    have hl : b.l.length = done.length := by rw [h1]; simp
    refine hd_of (by unfold l42_0; rfl) ?_
    rw [h4]
    have gg := trivial; repeat' first | simp (maxSteps := 2000000) (disch := omega) only [gg, r42_0, go_sem] | (refine br ?_ ?_ <;> intro gg <;> try (exfalso; omega)) | (refine And.intro ?_ ?_; focus omega) | omega
    all_goals simp [zerosB]
  | x :: rest, done, n, i, h1, h2, h3, h4 => by
    have hl : b.l.length = done.length + (rest.length + 1) := by rw [h1]; simp
    have hg0 : b.l[i.toNat]? = some x := by
      rw [h1]
      simp [h2]
    have ih := h42 b hb r0 rest (done ++ [x]) n (i + 1) (by simp [h1]) (by first | omega | (simp; omega) | (simp; done)) h3
    refine hd_of (by unfold l42_0; rfl) ?_
    by_cases hx : x = 0
    · have ih := ih (by rw [h4]; simp [zerosB, hx])
      have hx' : (x.toNat : Int) = 0 := by rw [hx]; rfl
      have gg := trivial; repeat' first | simp (maxSteps := 2000000) (disch := omega) only [gg, hg0, hx', lp_head, go_sem] | (refine br ?_ ?_ <;> intro gg <;> try (exfalso; omega)) | (refine And.intro ?_ ?_; focus omega) | omega
    · have hr : r0 = false := by rw [h4]; simp [zerosB, hx]
      have hx' : ¬ (x.toNat : Int) = 0 := by
        intro h
        have := zero_eq x
        simp [h, hx] at this
      rw [hr]
      have gg := trivial; repeat' first | simp (maxSteps := 2000000) (disch := omega) only [gg, hg0, hx', lp_head, go_sem] | (refine br ?_ ?_ <;> intro gg <;> try (exfalso; omega)) | (refine And.intro ?_ ?_; focus omega) | omega
theorem s42 (b : BS) (hb : b.l.length ≤ 1000000000) : callT AA 42 [b.av] [] = some (.bool (zerosB b.l), []) := by
  refine enter fn42 np42 rfl ?_
  have hh := h42 b hb (zerosB b.l) b.l [] b.l.length 0 rfl rfl rfl rfl
  have gg := trivial; repeat' first | simp (maxSteps := 2000000) (disch := omega) only [gg, b42, lp_head, go_sem] | (refine br ?_ ?_ <;> intro gg <;> try (exfalso; omega)) | (refine And.intro ?_ ?_; focus omega) | omega
theorem s43 (rs : RS) (ht : rs.l.length ≤ 1000000) (fits : Bool) (key value : List UInt8) (hf : findR key rs.l = if fits then ([], false) else (value, true)) : callT AA 43 [.bool fits, rs.av, .str key, .str value] [] = some (.bool true, []) := by
  have h := s80 rs key ht
  rw [hf] at h
  have hv : decide (value = value) = true := decide_eq_true rfl
  refine enter fn43 np43 rfl ?_
  cases fits
  all_goals
    simp only [if_true, Bool.false_eq_true, if_false] at h
    have gg := trivial; repeat' first | simp (maxSteps := 2000000) (disch := omega) only [gg, b43, h, hv, go_sem] | (refine br ?_ ?_ <;> intro gg <;> try (exfalso; omega)) | (refine And.intro ?_ ?_; focus omega) | omega
/-- the checks of an entry's records -/
theorem sl_to {k n : Nat} {b : Int} (h1 : b = 512) (h2 : 512 ≤ n) : aSlice 1 (.own 0 1 k n false) none (some (.int .i64 b)) none = some (.own 0 1 k 512 false) := by
  rw [sl_own (a := 0) (c := 512) rfl (by simp [natOr, toNat?, h1])]
  rw [if_pos (by simp; omega)]
  rfl
theorem sl_in {k n i m : Nat} {a b : Int} (h1 : a = i) (h2 : b = i + m) (h3 : i + m ≤ n) : aSlice 1 (.own 0 1 k n false) (some (.int .i64 a)) (some (.int .i64 b)) none = some (.own 0 1 (k + i) m false) := by
  rw [sl_own_both, if_pos ⟨by omega, by omega, by omega, rfl⟩]
  have e1 : a.toNat = i := by omega
  have e2 : b.toNat - i = m := by omega
  rw [e1, e2]
theorem sl_from {k n i : Nat} {a : Int} (h1 : a = i) (h3 : i ≤ n) : aSlice 1 (.own 0 1 k n false) (some (.int .i64 a)) none none = some (.own 0 1 (k + i) (n - i) false) := by
  rw [sl_own (a := i) (c := n) (by simp [natOr, toNat?, h1]) rfl]
  rw [if_pos (by simp; omega)]
end Go.Abs
namespace Go.Abs
open Go.Proofs Go.RowKit Am
set_option maxRecDepth 100000
set_option linter.unusedSimpArgs false
@[go_sem] theorem AB_moves {g : Nat} : AB.moves g = movesT g := AA_moves
theorem ab_fn {g : Nat} {fn : AFn} (h : AA.fn g = some fn) : AB.fn g = some fn := h
theorem build_run : callF AB 60 49 [.view 8 [.agg [.str [46, 47, 97], .int .i64 2, .int .i64 0, .int .i64 0, .int .i64 0, .int .i64 0, .str [], .view 1 [.int .u8 104, .int .u8 101, .int .u8 108, .int .u8 108, .int .u8 111] false false]] false true] [] =
    some (.tuple [.own 0 8 0 1 false, .lit .nilIface], [(0, .row [.agg [.str [97], .int .i64 2, .int .i64 0, .int .i64 0, .int .i64 0, .int .i64 0, .str [], .view 1 [.int .u8 104, .int .u8 101, .int .u8 108, .int .u8 108, .int .u8 111] false false]] 8)]) := by kernel_rfl
set_option maxHeartbeats 4000000 in
theorem s39 : callT AB 39 [] [] = some (.bool true, []) := by
  have h49 := callT_iff.2 ⟨60, build_run⟩
  have h17 : ∀ c t, callT AB 17 [.view 8 [.agg [.str [97], .int .i64 2, .int .i64 0, .int .i64 0, .int .i64 0, .int .i64 0, .str [], .view 1 [.int .u8 104, .int .u8 101, .int .u8 108, .int .u8 108, .int .u8 111] false false]] c t] [] = some (.tuple [.own 0 1 0 2048 false, .lit .nilIface], [(0, .row (wA.map .byte) 1)]) := by
    intro c t
    have h := w17 c t [eA] (by simp) (by simp) (by
      intro e he
      rw [List.mem_singleton.1 he]
      exact ⟨by decide, by decide, helloL, rfl, by decide⟩) (by rw [checkT_map Ent.cp same_cp]; exact checkA)
    rw [show writeL [eA] = wA from rfl, lenA] at h
    exact callT_ext h
  have h24 : ∀ c t, callT AB 24 [.view 1 (wA.map .byte) c t] [] = some (.tuple [.own 0 8 0 1 false, .lit .nilIface], [(0, .row [.agg [.str [97], .int .i64 2, .int .i64 0, .int .i64 0, .int .i64 0, .int .i64 0, .str [], .view 1 (helloL.map .byte) false false]] 8)]) := by
    intro c t
    have h := s24 (.mk c t wA) (by simp only [BS.l]; rw [lenA]; omega)
    rw [readA] at h
    exact callT_ext h
  have et : (wA.map AVal.byte).take 2048 = wA.map .byte := List.take_of_length_le (by rw [List.length_map, lenA]; omega)
  have hh : decide (helloL = [104, 101, 108, 108, 111]) = true := rfl
  have h97 : decide (([97] : List UInt8) = [97]) = true := rfl
  have hl : (wA.map AVal.byte).length = 2048 := by rw [List.length_map, lenA]
  have hw := lenA
  generalize wA = W at *
  refine enter (ab_fn fn39) rfl rfl ?_
  have gg := trivial; repeat' first | simp (maxSteps := 2000000) (disch := omega) only [gg, b39, h49, h17, h24, et, hh, h97, hl, hw, sl_own_both, ldE_head, go_sem] | (refine br ?_ ?_ <;> intro gg <;> try (exfalso; omega)) | (refine And.intro ?_ ?_; focus omega) | omega
end Go.Abs
