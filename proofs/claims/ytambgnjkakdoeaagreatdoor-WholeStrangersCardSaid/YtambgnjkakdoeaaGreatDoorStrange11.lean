/- WholeStrangers: at every row of bytes whatsoever the law WholeStrangers of the given program answers true: the row is an archive of just one tree, which is written again byte for byte, or it is refused. Conditions: none beyond the card's own. -/
import Derived.Test.YtambgnjkakdoeaaGreatDoorStrange10
import Derived.Carry
import Derived.ChangeSame
import Derived.Deep.Fields
import Derived.Deep.Slices
import Derived.LaidMore
import Derived.Lay
import Derived.Lib.LaidTab
import Derived.Lib.LaidU8T
import Derived.OpenShut
import Derived.ProofKit
import Derived.SevenTiedAt
import Derived.Stop.Joined
import Derived.Test.YtambgnjkakdoeaaGreatDoorCards
import Derived.Test.YtambgnjkakdoeaaGreatDoorTie
import Derived.WideShapes
set_option linter.unusedVariables false
set_option linter.unusedSimpArgs false
set_option linter.unusedSectionVars false
namespace Go.Abs
open Am
set_option maxRecDepth 10000
set_option linter.unusedSimpArgs false
theorem sl_le (a : BS) (i j : Nat) : (a.sl i j).l.length ≤ a.l.length - i := by
  rw [BS.sl_l, List.length_take, List.length_drop]
  omega
theorem hdrR_lt {b : BS} (h : (rdH b).2.2 = true) : (hdrR b).l.length + 512 ≤ b.l.length := by
  unfold rdH at h
  by_cases c1 : b.l.length < 512 ∨ decOk (b.sl 0 512).l = false
  · rw [if_pos c1] at h; cases h
  have c2 : ¬ b.l.length < 512 := fun hh => c1 (.inl hh)
  have c3 : ¬ decOk (b.sl 0 512).l = false := fun hh => c1 (.inr hh)
  unfold hdrR
  rw [if_neg c2, if_neg c3]
  have h1 := sl_le b 512 b.l.length
  split
  · have h2 := sl_le (b.sl 512 b.l.length) (wholeN (decH (b.sl 0 512).l).size).toNat (b.sl 512 b.l.length).l.length
    omega
  · omega
theorem decH_le (l : List UInt8) : (decH l).path.length ≤ 1000000 ∧ (decH l).link.length ≤ 1000000 := by
  have h1 := textF_le l 345 155
  have h2 := textF_le l 0 100
  have h3 := textF_le l 157 100
  unfold decH
  refine ⟨?_, by show (textF l 157 100).length ≤ _; omega⟩
  show (if textF l 345 155 = [] then textF l 0 100 else textF l 345 155 ++ [47] ++ textF l 0 100).length ≤ _
  split
  · omega
  · simp only [List.length_append, List.length_cons, List.length_nil]; omega
theorem rdH_le2 (b : BS) : (rdH b).1.path.length ≤ 1000000 ∧ (rdH b).1.link.length ≤ 1000000 := by
  unfold rdH
  split
  · exact ⟨by decide, by decide⟩
  · split <;> exact decH_le _
theorem tellE_le {e : Ent} {r : Rcd} (h1 : e.path.length ≤ 1000000) (h2 : e.link.length ≤ 1000000) (hr : RcdOk r) : (tellE e r).1.path.length ≤ 1000000 ∧ (tellE e r).1.link.length ≤ 1000000 := by
  have := hr.2
  unfold tellE
  repeat' split
  all_goals exact ⟨by first | exact h1 | exact hr.2, by first | exact h2 | exact hr.2⟩
theorem toldE_le : ∀ (rs : List Rcd) (e : Ent), e.path.length ≤ 1000000 → e.link.length ≤ 1000000 → (∀ r ∈ rs, RcdOk r) → (toldE e rs).1.path.length ≤ 1000000 ∧ (toldE e rs).1.link.length ≤ 1000000
  | [], e, h1, h2, _ => ⟨h1, h2⟩
  | r :: rs, e, h1, h2, h3 => by
    have ht := tellE_le h1 h2 (h3 r (by simp))
    unfold toldE
    split
    · exact toldE_le rs _ ht.1 ht.2 fun x hx => h3 x (by simp [hx])
    · exact ht
theorem entP_ok {b : BS} {e : Ent} {r : BS} (h : entP b = some (e, r)) : (e.path.length ≤ 1000000 ∧ e.link.length ≤ 1000000) ∧ (∃ l, e.data = .mk false false l ∧ l.length ≤ b.l.length) ∧ r.l.length + 512 ≤ b.l.length := by
  unfold entP at h
  by_cases c0 : (rdH b).2.2 = false
  · rw [if_pos c0] at h; cases h
  rw [if_neg c0] at h
  have c0 : (rdH b).2.2 = true := by simpa using c0
  have hr := hdrR_lt c0
  by_cases c1 : (rdH b).1.type = 120
  · rw [if_pos c1] at h
    cases c2 : paxD (rdH b).2.1.l with
    | none => rw [c2] at h; cases h
    | some rs =>
      rw [c2] at h
      simp only at h
      by_cases c3 : (rdH (hdrR b)).2.2 = false
      · rw [if_pos c3] at h; cases h
      rw [if_neg c3] at h
      have c3 : (rdH (hdrR b)).2.2 = true := by simpa using c3
      have hr2 := hdrR_lt c3
      have hp := rdH_le2 (hdrR b)
      have ht := toldE_le rs (mkE (rdH (hdrR b)).1) hp.1 hp.2 (paxD_ok c2).1
      by_cases c4 : (toldE (mkE (rdH (hdrR b)).1) rs).2 = true
      · rw [if_pos c4] at h
        cases h
        have := rdH_le (hdrR b)
        exact ⟨ht, ⟨_, rfl, by omega⟩, by omega⟩
      · rw [if_neg c4] at h; cases h
  · rw [if_neg c1] at h
    cases h
    have hp := rdH_le2 b
    exact ⟨hp, ⟨_, rfl, rdH_le b⟩, hr⟩
/-- the entries of blocks -/
def readP : Nat → BS → List Ent → Option (List Ent)
  | 0, _, acc => some acc
  | k + 1, b, acc => if b.l = [] then some acc else
    match entP b with
    | none => none
    | some (e, r) => if acc.length = 200 then none else readP k r (acc ++ [e])
/-- is this what was read? -/
def finR (l : List UInt8) : Option (List Ent) → Option (List Ent)
  | none => none
  | some t => if (checkT (t.map Ent.cp)).2 = 0 ∧ writeL t = l then some t else none
/-- an archive's tree -/
def readE (b : BS) : Option (List Ent) := if b.l.length < 1024 then none else finR b.l (readP b.l.length (b.sl 0 (b.l.length - 1024)) [])
def readV : Option (List Ent) → AVal
  | none => .tuple [.lit (.slice none 0 0), .iface 58 (.int .i64 16)]
  | some [] => .tuple [.lit (.slice none 0 0), .lit .nilIface]
  | some (e :: r) => .tuple [.own 0 8 0 (e :: r).length false, .lit .nilIface]
def readH : Option (List Ent) → Heap
  | none => []
  | some [] => []
  | some (e :: r) => [(0, .row ((e :: r).map Ent.av) 8)]
theorem readV_ne {t : List Ent} (h : t ≠ []) : readV (some t) = .tuple [.own 0 8 0 t.length false, .lit .nilIface] ∧ readH (some t) = [(0, .row (t.map Ent.av) 8)] := by
  cases t with
  | nil => exact (h rfl).elim
  | cons x y => exact ⟨rfl, rfl⟩
/-- entries as they are read -/
def RdE (e : Ent) : Prop := e.path.length ≤ 1000000 ∧ e.link.length ≤ 1000000 ∧ ∃ l, e.data = .mk false false l ∧ l.length ≤ 1000000
theorem rdE_ok {e : Ent} (h : RdE e) : EntOk e := by
  obtain ⟨h1, h2, l, h3, h4⟩ := h
  exact ⟨h2, h1, by rw [h3]; simp only [BS.l]; omega, by rw [h3]; rfl⟩
theorem w17no (c tmp : Bool) (t : List Ent) (hne : t ≠ []) (hl : t.length ≤ 1000000) (hq : ∀ e ∈ t, RdE e) (he : (checkT (t.map Ent.cp)).2 ≠ 0) :
    callT AA 17 [.view 8 (t.map Ent.av) c tmp] [] = some (.tuple [.lit (.slice none 0 0), .iface 58 (.int .i64 (checkT (t.map Ent.cp)).2)], []) := by
  cases t with
  | nil => exact (hne rfl).elim
  | cons e r =>
    have h := s17no c tmp e r hl (fun x hx => rdE_ok (hq x hx)) he (fun x hx => by
      obtain ⟨_, _, l, h3, h4⟩ := hq x hx
      rw [h3]
      simp only [BS.l]
      omega)
    unfold errV at h
    rw [if_neg he] at h
    exact h
theorem w17 (c tmp : Bool) (t : List Ent) (hne : t ≠ []) (hl : t.length ≤ 200) (hq : ∀ e ∈ t, RdE e) (he : (checkT (t.map Ent.cp)).2 = 0) :
    callT AA 17 [.view 8 (t.map Ent.av) c tmp] [] = some (.tuple [.own 0 1 0 (writeL t).length false, .lit .nilIface], [(0, .row ((writeL t).map .byte) 1)]) := by
  cases t with
  | nil => exact (hne rfl).elim
  | cons e r => exact s17 c tmp e r hl (fun x hx => rdE_ok (hq x hx)) he (checkT_pieces he)
set_option maxHeartbeats 4000000 in
theorem h24 (b0 : BS) (hb0 : b0.l.length ≤ 1000000) (R : Option (List Ent)) : ∀ (k : Nat) (b : BS) (acc : List Ent) (q : Nat), acc ≠ [] → q = acc.length → acc.length ≤ 200 → b.l.length ≤ k → b.l.length ≤ 1000000 → (∀ e ∈ acc, RdE e) → R = finR b0.l (readP k b acc) →
    HD AA 0 [0, 2, 3, 4, 5] l24_0 ⟨[b0.av, .junk, .lit (.slice none 0 0), .lit .nilIface, .ptr 0 0, .own 1 8 0 q false, .junk, .junk, .junk, .junk, .junk, .junk, .junk, .junk, .junk, .junk, .junk, .junk, .junk, .junk, .junk, .junk, .junk, .junk, .junk, .junk, .junk, .junk, .junk, .junk, .junk, .junk, .junk, .junk, .junk, .junk, .junk, .junk, .junk, .junk, .junk, .junk, .junk, .junk, .junk, .junk, .junk, .junk, .junk, .junk, .junk, .junk, .junk, .junk, .junk, .junk, .junk, .junk, .junk], [(0, .var [b.av]), (1, .row (acc.map Ent.av) 8)], 2⟩ [.blk 0, .code r24_0] (Fin [(2, none), (3, none)] 0 (readV R) (readH R))
  | k, b, acc, q, h0, h1, h2, h3, h4, h5, h6 => by
    have et : (acc.map Ent.av).take q = acc.map Ent.av := List.take_of_length_le (by simp; omega)
    by_cases hl : b.l = []
    · have hl0 : b.l.length = 0 := by rw [hl]; rfl
      have hr : readP k b acc = some acc := by
        cases k with
        | zero => rfl
        | succ k => unfold readP; rw [if_pos hl]
      rw [hr] at h6
      simp only [finR] at h6
      refine hd_of (by unfold l24_0; rfl) ?_
      by_cases hc : (checkT (acc.map Ent.cp)).2 = 0
      · have hw := w17 false true acc h0 h2 h5 hc
        have hwl : (writeL acc).length ≤ 1000000000 := by
          have := outL_le acc 0 (checkT_pieces hc)
          unfold writeL
          rw [List.length_append, zeros1024_length]
          omega
        generalize writeL acc = W at *
        have hs := fun c t => s62v W c t b0
        by_cases hd : W = b0.l
        · rw [if_pos ⟨hc, hd⟩] at h6
          rw [h6, (readV_ne h0).1, (readV_ne h0).2]
          have gg := trivial; repeat' first | simp (maxSteps := 2000000) (disch := omega) only [gg, r24_0, et, hw, hs, decide_eq_true hd, go_sem] | (refine br ?_ ?_ <;> intro gg <;> try (exfalso; omega)) | (refine And.intro ?_ ?_; focus omega) | omega
          simp [h1]
        · rw [if_neg (fun h => hd h.2)] at h6
          rw [h6]
          unfold readV readH
          have gg := trivial; repeat' first | simp (maxSteps := 2000000) (disch := omega) only [gg, r24_0, et, hw, hs, decide_eq_false hd, go_sem] | (refine br ?_ ?_ <;> intro gg <;> try (exfalso; omega)) | (refine And.intro ?_ ?_; focus omega) | omega
      · have hw := w17no false true acc h0 (by omega) h5 hc
        rw [if_neg (fun h => hc h.1)] at h6
        rw [h6]
        unfold readV readH
        have gg := trivial; repeat' first | simp (maxSteps := 2000000) (disch := omega) only [gg, r24_0, et, hw, go_sem] | (refine br ?_ ?_ <;> intro gg <;> try (exfalso; omega)) | (refine And.intro ?_ ?_; focus omega) | omega
    · have hl0 : 0 < b.l.length := by
        cases hz : b.l with
        | nil => exact (hl hz).elim
        | cons x y => simp
      match k, h3, h6 with
      | 0, h3, h6 => omega
      | k + 1, h3, h6 =>
        have hf := s61f b h4
        unfold EntR at hf
        unfold readP at h6
        rw [if_neg hl] at h6
        refine hd_of (by unfold l24_0; rfl) ?_
        cases hp : entP b with
        | none =>
          rw [hp] at hf h6
          simp only [finR] at h6
          rw [h6]
          unfold readV readH
          rcases hf with ⟨e, r, hf⟩ | ⟨e, r, l, hf⟩
          · simp only [entCs] at hf
            have gg := trivial; repeat' first | simp (maxSteps := 2000000) (disch := omega) only [gg, hf, lp_head, go_sem] | (refine br ?_ ?_ <;> intro gg <;> try (exfalso; omega)) | (refine And.intro ?_ ?_; focus omega) | omega
          · simp only [entCs] at hf
            have gg := trivial; repeat' first | simp (maxSteps := 2000000) (disch := omega) only [gg, hf, lp_head, go_sem] | (refine br ?_ ?_ <;> intro gg <;> try (exfalso; omega)) | (refine And.intro ?_ ?_; focus omega) | omega
        | some er =>
          obtain ⟨e, r⟩ := er
          rw [hp] at hf h6
          obtain ⟨⟨p1, p2⟩, ⟨l, p3, p4⟩, p5⟩ := entP_ok hp
          simp only [p3, BS.l, entCs] at hf
          simp only at h6
          by_cases hq : acc.length = 200
          · rw [if_pos hq] at h6
            simp only [finR] at h6
            rw [h6]
            unfold readV readH
            have gg := trivial; repeat' first | simp (maxSteps := 2000000) (disch := omega) only [gg, hf, lp_head, go_sem] | (refine br ?_ ?_ <;> intro gg <;> try (exfalso; omega)) | (refine And.intro ?_ ?_; focus omega) | omega
          · rw [if_neg hq] at h6
            have ih := h24 b0 hb0 R k r (acc ++ [e]) (q + 1) (by simp) (by simp [h1]) (by simp; omega) (by omega) (by omega) (by
              intro x hx
              rcases List.mem_append.1 hx with hx | hx
              · exact h5 x hx
              · rw [List.mem_singleton.1 hx]
                exact ⟨p1, p2, l, p3, by omega⟩) h6
            simp only [List.map_append, List.map_cons, List.map_nil, Ent.av, p3, mk_av] at ih et
            have gg := trivial; repeat' first | simp (maxSteps := 2000000) (disch := omega) only [gg, hf, et, lp_head, go_sem] | (refine br ?_ ?_ <;> intro gg <;> try (exfalso; omega)) | (refine And.intro ?_ ?_; focus omega) | omega
set_option maxHeartbeats 4000000 in
theorem s24 (b : BS) (hb : b.l.length ≤ 1000000) : callT AA 24 [b.av] [] = some (readV (readE b), readH (readE b)) := by
  refine enter fn24 np24 rfl ?_
  generalize hR : readE b = R
  unfold readE at hR
  by_cases c0 : b.l.length < 1024
  · rw [if_pos c0] at hR
    rw [← hR]
    unfold readV readH
    have gg := trivial; repeat' first | simp (maxSteps := 2000000) (disch := omega) only [gg, b24, go_sem] | (refine br ?_ ?_ <;> intro gg <;> try (exfalso; omega)) | (refine And.intro ?_ ?_; focus omega) | omega
  rw [if_neg c0] at hR
  have e0 : ((b.l.length : Int) - 1024).toNat = b.l.length - 1024 := by omega
  have gg := trivial; repeat' first | simp (maxSteps := 2000000) (disch := omega) only [gg, b24, e0, lp_head, go_sem] | (refine br ?_ ?_ <;> intro gg <;> try (exfalso; omega)) | (refine And.intro ?_ ?_; focus omega) | omega
  generalize hb1 : b.sl 0 (b.l.length - 1024) = b1 at *
  have hb2 : b1.l.length ≤ b.l.length := by
    have := sl_le b 0 (b.l.length - 1024)
    rw [hb1] at this
    omega
  obtain ⟨k, hk⟩ : ∃ k, b.l.length = k + 1 := ⟨b.l.length - 1, by omega⟩
  rw [hk] at hR
  unfold readP at hR
  refine hd_of (by unfold l24_0; rfl) ?_
  by_cases hl : b1.l = []
  · have hl0 : b1.l.length = 0 := by rw [hl]; rfl
    rw [if_pos hl] at hR
    simp only [finR] at hR
    have hcn : (checkT (([] : List Ent).map Ent.cp)).2 = 0 := rfl
    have hwn : writeL [] = zeros1024 := rfl
    have hs := fun c t => s62v zeros1024 c t b
    have hz := zeros1024_take
    have hzl := zeros1024_length
    rw [hwn] at hR
    by_cases hd : zeros1024 = b.l
    · rw [if_pos ⟨hcn, hd⟩] at hR
      rw [← hR]
      unfold readV readH
      have gg := trivial; repeat' first | simp (maxSteps := 2000000) (disch := omega) only [gg, r24_0, s17n, hs, decide_eq_true hd, hz, hzl, go_sem] | (refine br ?_ ?_ <;> intro gg <;> try (exfalso; omega)) | (refine And.intro ?_ ?_; focus omega) | omega
    · rw [if_neg (fun h => hd h.2)] at hR
      rw [← hR]
      unfold readV readH
      have gg := trivial; repeat' first | simp (maxSteps := 2000000) (disch := omega) only [gg, r24_0, s17n, hs, decide_eq_false hd, hz, hzl, go_sem] | (refine br ?_ ?_ <;> intro gg <;> try (exfalso; omega)) | (refine And.intro ?_ ?_; focus omega) | omega
  · have hl0 : 0 < b1.l.length := by
      cases hz : b1.l with
      | nil => exact (hl hz).elim
      | cons x y => simp
    rw [if_neg hl] at hR
    have hf := s61f b1 (by omega)
    unfold EntR at hf
    cases hp : entP b1 with
    | none =>
      rw [hp] at hf hR
      simp only [finR] at hR
      rw [← hR]
      unfold readV readH
      rcases hf with ⟨e, r, hf⟩ | ⟨e, r, l, hf⟩
      · simp only [entCs] at hf
        have gg := trivial; repeat' first | simp (maxSteps := 2000000) (disch := omega) only [gg, hf, lp_head, go_sem] | (refine br ?_ ?_ <;> intro gg <;> try (exfalso; omega)) | (refine And.intro ?_ ?_; focus omega) | omega
      · simp only [entCs] at hf
        have gg := trivial; repeat' first | simp (maxSteps := 2000000) (disch := omega) only [gg, hf, lp_head, go_sem] | (refine br ?_ ?_ <;> intro gg <;> try (exfalso; omega)) | (refine And.intro ?_ ?_; focus omega) | omega
    | some er =>
      obtain ⟨e, r⟩ := er
      rw [hp] at hf hR
      obtain ⟨⟨p1, p2⟩, ⟨l, p3, p4⟩, p5⟩ := entP_ok hp
      simp only [p3, BS.l, entCs] at hf
      simp only [List.length_nil, List.nil_append] at hR
      rw [if_neg (by omega)] at hR
      have ih := h24 b hb R k r [e] 1 (by simp) rfl (by simp) (by omega) (by omega) (by
        intro x hx
        rw [List.mem_singleton.1 hx]
        exact ⟨p1, p2, l, p3, by omega⟩) hR.symm
      simp only [List.map_cons, List.map_nil, Ent.av, p3, mk_av] at ih
      have gg := trivial; repeat' first | simp (maxSteps := 2000000) (disch := omega) only [gg, hf, lp_head, go_sem] | (refine br ?_ ?_ <;> intro gg <;> try (exfalso; omega)) | (refine And.intro ?_ ?_; focus omega) | omega
end Go.Abs
namespace Go.Abs
open Am
set_option maxRecDepth 10000
set_option linter.unusedSimpArgs false
theorem pad_whole (l : List UInt8) : ((padL l).length : Int) = wholeN l.length := by
  rw [padL_length]
  unfold padN wholeN
  omega
/-- a header and its bytes are read -/
theorem rd_block {b : BS} {h : Hd} {body rest : List UInt8} (hb : b.l = encB h ++ (padL body ++ rest)) (hok : encOk h = true) (hs : h.size = body.length) :
    (rdH b).1 = h ∧ (rdH b).2.1.l = body ∧ (rdH b).2.2 = true ∧ (hdrR b).l = rest := by
  have hl := encB_length h
  have hp := pad_whole body
  have hp2 := padL_length body
  have hbl : b.l.length = 512 + (padL body).length + rest.length := by rw [hb]; simp [hl]; omega
  have h0 : (b.sl 0 512).l = encB h := by
    rw [BS.sl_l, hb]
    simp only [List.drop_zero, Nat.sub_zero]
    exact List.take_left' hl
  have h1 : (b.sl 512 b.l.length).l = padL body ++ rest := by
    rw [BS.sl_l, List.take_of_length_le (by simp), hb]
    exact List.drop_left' hl
  have hd := decOk_encB hok
  have hdh := decH_encB hok
  have c1 : ¬ (b.l.length < 512 ∨ decOk (b.sl 0 512).l = false) := by
    rw [h0, hd]
    simp
    omega
  have c2 : wholeN h.size ≤ (b.sl 512 b.l.length).l.length := by
    rw [h1, List.length_append, hs]
    omega
  refine ⟨?_, ?_, ?_, ?_⟩
  · unfold rdH
    rw [if_neg c1, h0, hdh, if_pos c2]
  · unfold rdH
    rw [if_neg c1, h0, hdh, if_pos c2]
    simp only []
    rw [BS.sl_l, h1, hs]
    simp only [List.drop_zero, Nat.sub_zero, Int.toNat_natCast]
    unfold padL
    rw [List.append_assoc]
    exact List.take_left' rfl
  · unfold rdH
    rw [if_neg c1, h0, hdh, if_pos c2]
  · unfold hdrR
    rw [if_neg (by omega), h0, hd, if_neg (by simp), hdh, if_pos c2, BS.sl_l, h1, hs, List.take_of_length_le (by simp)]
    refine List.drop_left' ?_
    omega
/-- an entry as it is read -/
def rdEnt (e : Ent) : Ent := { e with data := .mk false false e.data.l }
theorem kind_type {k : Int} (h : k = 1 ∨ k = 2 ∨ k = 3 ∨ k = 4) : kindB (typeB k) = k ∧ typeB k ≠ 120 := by
  rcases h with rfl | rfl | rfl | rfl <;> decide
theorem told_back {e : Ent} (hf : FieldsOk e) (d : BS) : toldE ⟨if (splitN e.path).2.2 then e.path else paxB, e.kind, e.mode, if idB e.uid then e.uid else 0, if idB e.gid then e.gid else 0, if timeB e.time then e.time else 0, if linkE e.link then e.link else paxB, d⟩ (recsE e) = (⟨e.path, e.kind, e.mode, e.uid, e.gid, e.time, e.link, d⟩, true) := by
  have g := atoiV_itoa (n := e.gid) (by have := hf.gid; omega) (by have := hf.gid; omega)
  have u := atoiV_itoa (n := e.uid) (by have := hf.uid; omega) (by have := hf.uid; omega)
  have t := atoiV_itoa (n := e.time) (by have := hf.time; omega) (by have := hf.time; omega)
  unfold recsE rst3 rst4 rst5 rst6 rst7
  cases idB e.gid <;> cases linkE e.link <;> cases timeB e.time <;> cases (splitN e.path).2.2 <;> cases idB e.uid <;> simp [recIf, toldE, tellE, gidB, linkpathB, mtimeB, pathB, uidB, g, u, t]
/-- a piece is read -/
theorem entP_piece {b : BS} {n : Nat} {e : Ent} {rest : List UInt8} (hb : b.l = pieceL n e ++ rest) (hok : pieceOk n e) (hf : FieldsOk e) : ∃ r : BS, entP b = some (rdEnt e, r) ∧ r.l = rest := by
  have hk : e.kind = 1 ∨ e.kind = 2 ∨ e.kind = 3 ∨ e.kind = 4 := by
    rcases hf.kinds with h | h | h | h
    · exact .inl h.1
    · exact .inr (.inl h.1)
    · exact .inr (.inr (.inl h.1))
    · exact .inr (.inr (.inr h.1))
  obtain ⟨k1, k2⟩ := kind_type hk
  have hsz : (hdrE e (recsE e)).size = e.data.l.length := by rw [hdrE_eq]
  have hty : (hdrE e (recsE e)).type = typeB e.kind := by rw [hdrE_eq]
  have hmk : mkE (hdrE e (recsE e)) = ⟨if (splitN e.path).2.2 then e.path else paxB, e.kind, e.mode, if idB e.uid then e.uid else 0, if idB e.gid then e.gid else 0, if timeB e.time then e.time else 0, if linkE e.link then e.link else paxB, .nil⟩ := by
    unfold mkE
    rw [hdrE_eq]
    simp only [k1]
  have htold := told_back hf .nil
  obtain ⟨ok1, ok2⟩ := hok
  by_cases hr : recsE e = []
  · have hp : pieceL n e = encB (hdrE e (recsE e)) ++ padL e.data.l := by
      unfold pieceL preE
      rw [if_pos hr, List.nil_append]
    rw [hp, List.append_assoc] at hb
    obtain ⟨r1, r2, r3, r4⟩ := rd_block hb ok1 hsz
    refine ⟨hdrR b, ?_, r4⟩
    unfold entP
    rw [if_neg (by rw [r3]; simp), r1, hty, if_neg k2, r2, hmk]
    rw [hr] at htold
    simp only [toldE, Prod.mk.injEq, and_true] at htold
    rw [htold]
    rfl
  · obtain ⟨o1, o2⟩ := ok2 hr
    obtain ⟨body, hbo⟩ := Option.isSome_iff_exists.1 o1
    have hbe : bodyE e = body := by unfold bodyE; rw [hbo]; rfl
    have hp : pieceL n e = encB (hdX n body) ++ (padL body ++ (encB (hdrE e (recsE e)) ++ padL e.data.l)) := by
      unfold pieceL preE
      rw [if_neg hr, hbe]
      simp
    rw [hbe] at o2
    have hb1 : b.l = encB (hdX n body) ++ (padL body ++ (encB (hdrE e (recsE e)) ++ (padL e.data.l ++ rest))) := by
      rw [hb, hp]
      simp
    obtain ⟨r1, r2, r3, r4⟩ := rd_block hb1 o2 rfl
    obtain ⟨q1, q2, q3, q4⟩ := rd_block r4 ok1 hsz
    refine ⟨hdrR (hdrR b), ?_, q4⟩
    unfold entP
    rw [if_neg (by rw [r3]; simp), r1, if_pos (show (hdX n body).type = 120 from rfl), r2, paxD_paxE hbo]
    simp only []
    rw [if_neg (by rw [q3]; simp), q1, hmk, htold, q2]
    rfl
theorem readP_out : ∀ (t : List Ent) (i k : Nat) (b : BS) (acc : List Ent), b.l = outL i t → PiecesOk i t → (∀ e ∈ t, FieldsOk e) → b.l.length ≤ k → acc.length + t.length ≤ 200 → readP k b acc = some (acc ++ t.map rdEnt)
  | [], i, k, b, acc, hb, _, _, _, _ => by
    simp only [outL] at hb
    cases k with
    | zero => simp [readP]
    | succ k => simp [readP, hb]
  | e :: t, i, k, b, acc, hb, hp, hf, hk, hl => by
    obtain ⟨h1, h2, h3, h4⟩ := hp
    simp only [outL] at hb
    have hpl := pieceL_le h2 h3
    have hbl : b.l.length = (pieceL i e).length + (outL (i + 1) t).length := by rw [hb, List.length_append]
    obtain ⟨r, hr1, hr2⟩ := entP_piece hb h3 (hf e (by simp))
    obtain ⟨k, rfl⟩ : ∃ j, k = j + 1 := ⟨k - 1, by omega⟩
    have hne : b.l ≠ [] := by
      intro hh
      rw [hh] at hbl
      simp at hbl
      omega
    simp only [List.length_cons] at hl
    unfold readP
    rw [if_neg hne, hr1]
    simp only []
    rw [if_neg (by omega), readP_out t (i + 1) k r _ hr2 h4 (fun x hx => hf x (by simp [hx])) (by rw [hr2]; omega) (by simp; omega)]
    simp
theorem entryE_rd (c : Ck) {e f : Ent} (h1 : f.path = e.path) (h2 : f.kind = e.kind) (h3 : f.mode = e.mode) (h4 : f.uid = e.uid) (h5 : f.gid = e.gid) (h6 : f.time = e.time) (h7 : f.link = e.link) (h8 : f.data.l = e.data.l) : entryE c f = entryE c e := by
  have hf : fieldsB f = fieldsB e := by
    unfold fieldsB
    rw [h2, h3, h4, h5, h6, h7, h8]
  unfold entryE
  rw [hf, h1, h2, h7, h8]
/-- the same, their slices aside -/
def SameE (e f : Ent) : Prop := f.path = e.path ∧ f.kind = e.kind ∧ f.mode = e.mode ∧ f.uid = e.uid ∧ f.gid = e.gid ∧ f.time = e.time ∧ f.link = e.link ∧ f.data.l = e.data.l
theorem entryE_same {c : Ck} {e f : Ent} (h : SameE e f) : entryE c f = entryE c e := entryE_rd c h.1 h.2.1 h.2.2.1 h.2.2.2.1 h.2.2.2.2.1 h.2.2.2.2.2.1 h.2.2.2.2.2.2.1 h.2.2.2.2.2.2.2
theorem checkL_map (g : Ent → Ent) (hg : ∀ e, SameE e (g e)) : ∀ (t : List Ent) (c : Ck) (i : Int), checkL c i (t.map g) = checkL c i t
  | [], c, i => rfl
  | e :: t, c, i => by
    simp only [List.map_cons, checkL]
    rw [entryE_same (hg e), checkL_map g hg t]
theorem checkT_map (g : Ent → Ent) (hg : ∀ e, SameE e (g e)) (t : List Ent) : checkT (t.map g) = checkT t := by
  unfold checkT
  rw [List.length_map, checkL_map g hg]
theorem same_cp (e : Ent) : SameE e e.cp := ⟨rfl, rfl, rfl, rfl, rfl, rfl, rfl, cp_l⟩
theorem same_rd (e : Ent) : SameE e (rdEnt e) := ⟨rfl, rfl, rfl, rfl, rfl, rfl, rfl, rfl⟩
theorem outL_rd : ∀ (t : List Ent) (i : Nat), outL i (t.map rdEnt) = outL i t
  | [], _ => rfl
  | e :: t, i => by
    simp only [List.map_cons, outL]
    rw [outL_rd t]
    rfl
theorem writeL_rd (t : List Ent) : writeL (t.map rdEnt) = writeL t := by
  unfold writeL
  rw [outL_rd]
/-- THERE AND BACK: a tree's archive is read as that tree -/
theorem readE_writeL (c tmp : Bool) {t : List Ent} (h : (checkT t).2 = 0) : readE (.mk c tmp (writeL t)) = some (t.map rdEnt) := by
  obtain ⟨hl, hg⟩ := checkT_good h
  have hp : PiecesOk 0 t := piecesOk_of t 0 (by omega) hg
  have hf : ∀ e ∈ t, FieldsOk e := fun e he => fields_ok (hg e he).2
  have hwl : (writeL t).length = (outL 0 t).length + 1024 := by
    unfold writeL
    rw [List.length_append, zeros1024_length]
  unfold readE
  rw [if_neg (show ¬ (BS.mk c tmp (writeL t)).l.length < 1024 by rw [mk_l]; omega)]
  show finR (writeL t) (readP (writeL t).length ((BS.mk c tmp (writeL t)).sl 0 ((writeL t).length - 1024)) []) = _
  have hb : ((BS.mk c tmp (writeL t)).sl 0 ((writeL t).length - 1024)).l = outL 0 t := by
    rw [BS.sl_l]
    simp only [BS.l, List.drop_zero, Nat.sub_zero]
    unfold writeL
    rw [List.length_append, zeros1024_length]
    exact List.take_left' (by omega)
  rw [readP_out t 0 (writeL t).length _ [] hb hp hf (by rw [hb]; omega) (by simpa using hl)]
  simp only [List.nil_append, finR]
  rw [checkT_map Ent.cp same_cp, checkT_map rdEnt same_rd, writeL_rd, if_pos ⟨h, rfl⟩]
end Go.Abs
namespace Go.Abs
open Am
set_option maxRecDepth 10000
set_option linter.unusedSimpArgs false
theorem sl_own_both {sz id z off len : Nat} {k k' : IntKind} {i j : Int} : aSlice sz (.own id z off len false) (some (.int k i)) (some (.int k' j)) none = if 0 ≤ i ∧ i ≤ j ∧ j ≤ len ∧ z = sz then some (.own id z (off + i.toNat) (j.toNat - i.toNat) false) else none := by
  by_cases h0 : 0 ≤ i
  · by_cases h1 : 0 ≤ j
    · rw [sl_own (a := i.toNat) (c := j.toNat) (by simp [natOr, toNat?, h0]) (by simp [natOr, toNat?, h1])]
      simp only [true_or, and_true]
      have : (i.toNat ≤ j.toNat ∧ j.toNat ≤ len ∧ z = sz) = (0 ≤ i ∧ i ≤ j ∧ j ≤ len ∧ z = sz) := by
        apply propext
        constructor
        · rintro ⟨a, b, c⟩; exact ⟨h0, by omega, by omega, c⟩
        · rintro ⟨a, b, c, d⟩; exact ⟨by omega, by omega, d⟩
      exact (ite_congr this (fun _ => rfl) (fun _ => rfl))
    · have hf : ¬ (0 ≤ i ∧ i ≤ j ∧ j ≤ len ∧ z = sz) := by omega
      rw [if_neg hf]
      simp [aSlice, bounds, natOr, toNat?, h1, h0]
  · simp [aSlice, bounds, natOr, toNat?, h0]
theorem ldE_head {e : AVal} {r : List AVal} {o sz : Nat} {agg : Bool} {h : Heap} : ldE (e :: r) 0 o sz agg h = (part e.cells o sz agg).map (·, h) := rfl
end Go.Abs
namespace Go.Abs
open Am
set_option maxRecDepth 100000
set_option linter.unusedSimpArgs false
def helloL : List UInt8 := [104, 101, 108, 108, 111]
def eA : Ent := ⟨[97], 2, 0, 0, 0, 0, [], .mk false false helloL⟩
def wA : List UInt8 := writeL [eA]
theorem checkA : (checkT [eA]).2 = 0 := by decide +kernel
theorem recsA : recsE eA = [] := by
  unfold recsE rst3 rst4 rst5 rst6 rst7
  have h1 : idB eA.gid = true := idB_iff.2 ⟨by decide, by decide⟩
  have h2 : linkE eA.link = true := rfl
  have h3 : timeB eA.time = true := timeB_iff.2 ⟨by decide, by decide⟩
  have h4 : (splitN eA.path).2.2 = true := by decide
  have h5 : idB eA.uid = true := idB_iff.2 ⟨by decide, by decide⟩
  rw [h1, h2, h3, h4, h5]
  rfl
theorem wA_eq : wA = encB (hdrE eA []) ++ (helloL ++ (List.replicate 507 0 ++ zeros1024)) := by
  unfold wA writeL outL pieceL preE
  rw [recsA, if_pos rfl]
  simp only [outL, List.nil_append, List.append_nil, List.append_assoc]
  rfl
theorem lenA : wA.length = 2048 := by
  rw [wA_eq]
  simp only [List.length_append, encB_length, zeros1024_length, List.length_replicate]
  rfl
theorem readA (c t : Bool) : readE (.mk c t wA) = some [rdEnt eA] := readE_writeL c t checkA
end Go.Abs
namespace Go.Abs
open Go.Proofs Go.RowKit
set_option maxRecDepth 100000
def dotA : List UInt8 := [46, 47, 97]
def normP : List AVal → Option AVal
  | [.str s] => if s = dotA then some (.tuple [.str [97], .lit .nilIface]) else none
  | _ => none
noncomputable def AB : AProg := { AA with prim := fun g => if g = 128 then some normP else prims g }
theorem fn128_none : AA.fn 128 = none := by kernel_rfl
theorem callF_ext : ∀ {k g : Nat} {args : List AVal} {h : Heap} {x : AVal × Heap}, callF AA k g args h = some x → callF AB k g args h = some x
  | 0, _, _, _, _, h => by simp [callF] at h
  | k + 1, g, args, h, x, hx => by
    have hle : Calls.Le { moves := AA.moves, run := callF AA k } { moves := AB.moves, run := callF AB k } := ⟨rfl, fun _ _ _ _ h => callF_ext h⟩
    by_cases hg : g = 128
    · subst hg
      unfold callF at hx
      have hp : AA.prim 128 = none := rfl
      rw [hp, fn128_none] at hx
      simp at hx
    · have hp : AB.prim g = AA.prim g := by
        show (if g = 128 then some normP else prims g) = prims g
        rw [if_neg hg]
      unfold callF at hx ⊢
      rw [hp]
      cases hq : AA.prim g with
      | some p =>
        rw [hq] at hx
        exact hx
      | none =>
        rw [hq] at hx
        have hf : AB.fn g = AA.fn g := rfl
        rw [hf]
        simp only at hx ⊢
        cases hfn : AA.fn g with
        | none => rw [hfn] at hx; simp at hx
        | some fn =>
          rw [hfn] at hx
          exact runFn_mono hle (Nat.le_refl _) hx
theorem callT_ext {g : Nat} {args : List AVal} {h : Heap} {x : AVal × Heap} (hx : callT AA g args h = some x) : callT AB g args h = some x := by
  obtain ⟨k, hk⟩ := callT_iff.1 hx
  exact callT_iff.2 ⟨k, callF_ext hk⟩
theorem join_a : callF AA 60 163 [.view 1 [.str [97]] false false] [] = some (.tuple [.str [97], .lit .nilIface], []) := by kernel_rfl
theorem norm_dotA : normRun [] (Am.splitOn 47 dotA) = some [[97]] := by decide
theorem join_calls (base : Nat) (W : World) (v : Value) (hG : GG (fun b => b < W.heap.size) W) (hr : W.ownsRow base 9 1 v 1 [sv [97]]) : Go.Calls Tryz.prog 163 #[v] W fun e W' => e = .returned (.tuple #[sv [97], .nilIface]) ∧ RowKit.Below W.heap.size W W' := by
  rcases hr.2 with ⟨_, h0⟩ | ⟨g, cap, cur, rfl, _, hg, hp1, _⟩
  · cases h0
  have hc : W.cell? ⟨g, 0, none⟩ = some (sv [97]) := by
    have := hr.cellAt 0 (by omega)
    exact this
  have hrep : Rep (fun _ => none) (fun b => b < W.heap.size) (fun _ => False) W (.view 1 [.str [97]] false false) (.slice (some ⟨g, 0, none⟩) 1 cap) := by
    have hlt := (Array.getElem?_eq_some_iff.1 hg).1
    refine .view 1 [.str [97]] false false g 0 cap none (fun _ _ => sv [97]) (.inl rfl) hp1 (by simp) ?_ ?_ ?_ ?_ ?_
    · intro i e _
      exact hlt
    · intro i e he
      match i, he with
      | 0, he => cases he; rfl
      | i + 1, he => cases he
    · intro i e he
      match i, he with
      | 0, he => cases he; rfl
      | i + 1, he => cases he
    · intro i e j x he hx
      match i, he with
      | 0, he =>
        cases he
        match j, hx with
        | 0, hx => exact hc
        | j + 1, hx => cases hx
      | i + 1, he => cases he
    · intro i e j x he hx
      match i, he with
      | 0, he =>
        cases he
        match j, hx with
        | 0, hx => cases hx; exact .str _
        | j + 1, hx => cases hx
      | i + 1, he => cases he
  refine (ev_calls Tryz.func163 (by kernel_rfl) (by kernel_rfl) (callT_iff.2 ⟨60, join_a⟩) (vals := #[.slice (some ⟨g, 0, none⟩) 1 cap]) hG rfl (by
    intro i c v hc' hv
    match i, hc', hv with
    | 0, hc', hv => cases hc'; cases hv; exact hrep
    | i + 1, hc', hv => cases hc')).mono fun e w' => ?_
  rintro ⟨v, _, _, rfl, h1, h2⟩
  obtain ⟨arr, rfl, hl, hh⟩ := h1.tuple_inv
  refine ⟨?_, h2⟩
  have a0 := hh 0 _ (arr[0]'(by rw [← hl]; simp)) rfl (Array.getElem?_eq_getElem _)
  have a1 := hh 1 _ (arr[1]'(by rw [← hl]; simp)) rfl (Array.getElem?_eq_getElem _)
  have e0 := a0.str_inv
  have e1 := a1.lit_inv
  congr 2
  apply Array.ext
  · rw [← hl]; rfl
  · intro i h1 h2
    have hi : i < 2 := by rw [← hl] at h1; simpa using h1
    match i, hi with
    | 0, _ => exact e0
    | 1, _ => exact e1
theorem norm_calls (w : World) (hG : GG (fun b => b < w.heap.size) w) : Go.Calls Tryz.prog 128 #[sv dotA] w fun e W' => e = .returned (.tuple #[sv [97], .nilIface]) ∧ RowKit.Below w.heap.size w W' := by
  have h := nm_128 (fun _ => ([97], 0)) dotA (by decide) (fun q hq base W v hG hr => by
    rw [norm_dotA] at hq
    cases hq
    exact join_calls base W v hG hr) w hG
  have e : nmRes (fun _ => ([97], 0)) dotA = ([97], 0) := by unfold nmRes; rw [norm_dotA]
  rw [e] at h
  exact h
theorem gg_lt {ι : Emb} {S T : Nat → Prop} {w : World} {F : Free} (hg : GG S w) (hi : Inv ι S T [] w F) : GG (fun b => b < w.heap.size) w := ⟨hg.pow, hg.utf, hg.synt, hg.rang, fun b hb => hi.s_lt b (hg.low b hb)⟩
theorem norm_ok {ι : Emb} {S T : Nat → Prop} {w : World} (hg : GG S w) (hi : Inv ι S T [] w (Free.above 0)) : CallOK Tryz.prog 128 #[sv dotA] w (Back ι S T [] w (.tuple [.str [97], .lit .nilIface]) []) := by
  refine call_enter Tryz.func128 (by kernel_rfl) (by kernel_rfl) ?_
  refine (norm_calls w (gg_lt hg hi)).mono ?_
  rintro e w' ⟨rfl, hb⟩
  refine back_of hi hb fun ι' S' T' w'' => .tuple _ _ rfl fun i c u hc hu => ?_
  match i with
  | 0 => simp at hc hu; subst hc; subst hu; exact .str _
  | 1 => simp at hc hu; subst hc; subst hu; exact .lit _
  | i + 2 => simp at hc
theorem ab_of : AB.Of gl0 Tryz.prog [58] GG := {
  mix := aa_of.mix
  stable := aa_of.stable
  glob := aa_of.glob
  fn := fun g afn h => aa_of.fn g afn h
  prim := fun g p hp args r hr ι S T w vals hg hi hl hv => by
    by_cases h : g = 128
    · subst h
      have e : p = normP := by
        have : AB.prim 128 = some normP := rfl
        rw [this] at hp
        exact (Option.some.inj hp).symm
      subst e
      unfold normP at hr
      split at hr <;> try (simp at hr; done)
      split at hr <;> simp only [Option.some.injEq, reduceCtorEq] at hr
      subst hr
      rename_i s hs
      obtain ⟨v, rfl, h1⟩ := one_arg rfl hl hv
      rw [h1.str_inv, hs]
      exact norm_ok hg hi
    · have hp' : AA.prim g = some p := by
        have : AB.prim g = prims g := if_neg h
        rw [this] at hp
        exact hp
      exact aa_of.prim g p hp' args r hr ι S T w vals hg hi hl hv }
theorem law_callsB {g : Nat} {fn : Func} (hf : Tryz.prog.funcs[g]? = some fn) (hb : fn.body.isSome = true) (hn : (fn.name == "runtime.NumGoroutine") = false) {args : List AVal} (hs : callT AB g args [] = some (.bool true, [])) {w : World} {vals : Array Value}
    (hG : GG (fun b => b < w.heap.size) w) (hl : args.length = vals.size) (hr : ∀ (i : Nat) (c : AVal) (v : Value), args[i]? = some c → vals[i]? = some v → Rep (fun _ => none) (fun b => b < w.heap.size) (fun _ => False) w c v) :
    Go.Calls Tryz.prog g vals w fun e w' => e = .returned (.bool true) ∧ RowKit.Below w.heap.size w w' := by
  have hi : Inv (fun _ => none) (fun b => b < w.heap.size) (fun _ => False) [] w (Free.above 0) := ⟨by simp, by simp, by simp, fun _ _ => rfl, fun _ h => h, fun _ h => h.elim⟩
  have h := callT_sound ab_of g args [] (.bool true) [] hs _ _ _ w vals hG hi hl hr
  obtain ⟨c, hc⟩ := Option.isSome_iff_exists.1 hb
  have hrun : (callFunc g vals).run Tryz.prog w = .ok (.enter g vals) w := by
    have hn : ¬ fn.name = "runtime.NumGoroutine" := by simpa using hn
    simp [callFunc, hf, hn, hc]
  unfold CallOK at h
  rw [hrun] at h
  refine Go.Calls.mono h fun e w' he => ?_
  cases e with
  | returned v =>
    obtain ⟨ι', S', n', h1, h2, h3⟩ := he
    rw [h1.bool_inv]
    exact ⟨rfl, h3.os, h3.tape, h3.output, h3.size, fun k hk => h3.frame k hk fun ⟨e, he, _⟩ => by cases he⟩
  | panicked c => exact he.elim
  | outgrown => exact he.elim
end Go.Abs
namespace Go.Abs
def b39 : AFn := ⟨0, 60, [(0, none)], (.seq (rg [oo 0 (.mov (.c (.bool false)))]) (.seq (rg [oo 8 (.bslice 1 5 [(.int .u8 0)] [(.c (.int .u8 104)), (.c (.int .u8 101)), (.c (.int .u8 108)), (.c (.int .u8 108)), (.c (.int .u8 111))]), oo 9 (.cvb (.t 8)), oo 10 (.build [(.str []), (.int .i64 0), (.int .i64 0), (.int .i64 0), (.int .i64 0), (.int .i64 0), (.str []), (.lit (.slice none 0 0))] [(0, (1, (.c (.str [46, 47, 97])))), (1, (1, (ci 2))), (7, (1, (.t 9)))]), oo 11 (.bslice 8 1 [(.str []), (.int .i64 0), (.int .i64 0), (.int .i64 0), (.int .i64 0), (.int .i64 0), (.str []), (.lit (.slice none 0 0))] [(.t 10)]), cl 12 49 [(.t 11)], mv 7 12, oo 13 (.ext (.t 7) 0), oo 14 (.ext (.t 7) 1), mv 1 13, mv 2 14]) (.seq (rg [mv 16 1, cl 17 17 [(.t 16)], mv 15 17, oo 18 (.ext (.t 15) 0), oo 19 (.ext (.t 15) 1), mv 3 18, mv 4 19]) (.seq (rg [mv 21 3, cl 22 24 [(.t 21)], mv 20 22, oo 23 (.ext (.t 20) 0), oo 24 (.ext (.t 20) 1), mv 5 23, mv 6 24]) (.seq (rg [mv 25 2, oo 26 (.bin .eql (.iface [58]) true (.t 25) (.c (.lit .nilIface))), mv 27 26, og 28 (.mov (.t 4)) 27 true, og 29 (.bin .eql (.iface [58]) true (.t 28) (.c (.lit .nilIface))) 27 true, oo 30 (.pick (.t 27) (.t 29) (.c (.bool false))), mv 31 30, og 32 (.mov (.t 6)) 31 true, og 33 (.bin .eql (.iface [58]) true (.t 32) (.c (.lit .nilIface))) 31 true, oo 34 (.pick (.t 31) (.t 33) (.c (.bool false))), mv 35 34, og 36 (.mov (.t 3)) 35 true, og 37 (.len 1 (.t 36)) 35 true, og 38 (.bin .eql .other true (.t 37) (ci 2048)) 35 true, oo 39 (.pick (.t 35) (.t 38) (.c (.bool false))), mv 40 39, og 41 (.mov (.t 5)) 40 true, og 42 (.len 1 (.t 41)) 40 true, og 43 (.bin .eql .other true (.t 42) (ci 1)) 40 true, oo 44 (.pick (.t 40) (.t 43) (.c (.bool false))), mv 45 44, og 46 (.mov (.t 5)) 45 true, og 47 (.ixa 8 (.t 46) (ci 0)) 45 true, og 48 (.fa 0 (.t 47)) 45 true, og 49 (.ld 1 false (.t 48)) 45 true, og 50 (.bin .eql .other true (.t 49) (.c (.str [97]))) 45 true, oo 51 (.pick (.t 45) (.t 50) (.c (.bool false))), mv 52 51, og 53 (.mov (.t 5)) 52 true, og 54 (.ixa 8 (.t 53) (ci 0)) 52 true, og 55 (.fa 7 (.t 54)) 52 true, og 56 (.ld 1 false (.t 55)) 52 true, og 57 (.cvbs (.t 56)) 52 true, og 58 (.bin .eql .other true (.t 57) (.c (.str [104, 101, 108, 108, 111]))) 52 true, oo 59 (.pick (.t 52) (.t 58) (.c (.bool false))), mv 0 59]) .ret)))))⟩
theorem fn39 : AA.fn 39 = some b39 := by kernel_rfl
def b9 : AFn := ⟨1, 57, [(2, none)], (.seq (rg [oo 2 (.mov (.c (.bool false)))]) (.seq (.seq (rg [cl 9 39 [], oo 10 (.un .not (.t 9))]) (.cond (.t 10) (.seq (rg [oo 2 (.mov (.c (.bool false)))]) .ret) .skip)) (.seq (.seq (rg [mv 11 0, oo 12 (.len 1 (.t 11)), oo 13 (.bin .gtr .other true (.t 12) (ci 131072))]) (.cond (.t 13) (.seq (rg [oo 2 (.mov (.c (.bool true)))]) .ret) .skip)) (.seq (rg [mv 15 0, cl 16 23 [(.t 15)], cl 17 24 [(.t 16)], mv 14 17, oo 18 (.ext (.t 14) 0), oo 19 (.ext (.t 14) 1), mv 3 18, mv 4 19]) (.seq (.seq (rg [mv 20 4, oo 21 (.bin .neq (.iface [58]) true (.t 20) (.c (.lit .nilIface)))]) (.cond (.t 21) (.seq (rg [mv 22 4, oo 23 (.mkif 58 (ci 16)), oo 24 (.bin .eql (.iface [58]) false (.t 22) (.t 23)), mv 25 24, og 26 (.mov (.t 3)) 25 true, og 27 (.len 1 (.t 26)) 25 true, og 28 (.bin .eql .other true (.t 27) (ci 0)) 25 true, oo 29 (.pick (.t 25) (.t 28) (.c (.bool false))), mv 2 29]) .ret) .skip)) (.seq (rg [mv 31 3, cl 32 31 [(.t 31)], mv 30 32, oo 33 (.ext (.t 30) 0), oo 34 (.ext (.t 30) 1), mv 5 33, mv 6 34]) (.seq (rg [mv 36 3, cl 37 17 [(.t 36)], mv 35 37, oo 38 (.ext (.t 35) 0), oo 39 (.ext (.t 35) 1), mv 7 38, mv 8 39]) (.seq (rg [mv 40 5, oo 41 (.bin .eql .other true (.t 40) (.c (.int .i64 (-1)))), mv 42 41, og 43 (.mov (.t 6)) 42 true, og 44 (.bin .eql (.iface [58]) true (.t 43) (.c (.lit .nilIface))) 42 true, oo 45 (.pick (.t 42) (.t 44) (.c (.bool false))), mv 46 45, og 47 (.mov (.t 8)) 46 true, og 48 (.bin .eql (.iface [58]) true (.t 47) (.c (.lit .nilIface))) 46 true, oo 49 (.pick (.t 46) (.t 48) (.c (.bool false))), mv 50 49, og 51 (.mov (.t 7)) 50 true, og 52 (.cvbs (.t 51)) 50 true, og 53 (.mov (.t 0)) 50 true, og 54 (.cvbs (.t 53)) 50 true, og 55 (.bin .eql .other false (.t 52) (.t 54)) 50 true, oo 56 (.pick (.t 50) (.t 55) (.c (.bool false))), mv 2 56]) .ret))))))))⟩
theorem fn9 : AA.fn 9 = some b9 := by kernel_rfl
def l10_0 : ACode := (.block 3 (.seq (.seq (rg [mv 67 3, oo 68 (.len 1 (.t 67)), oo 69 (.bin .lss .other true (.t 68) (ci 512))]) (.cond (.t 69) (.seq (rg [oo 2 (.mov (.c (.bool false)))]) .ret) .skip)) (.seq (rg [mv 71 3, oo 72 (.slc 1 (.t 71) none (some (ci 512)) none), cl 73 34 [(.t 72)], mv 70 73, oo 74 (.ext (.t 70) 0), oo 75 (.ext (.t 70) 1), oo 10 (.alloc [(.str []), (.int .i64 0), (.int .i64 0), (.int .i64 0), (.int .i64 0), (.int .i64 0), (.int .u8 0), (.str [])]), ⟨none, (.st 8 (.t 10) (.t 74)), none⟩, mv 11 75]) (.seq (rg [oo 76 (.fa 4 (.t 10)), oo 77 (.ld 1 false (.t 76)), oo 78 (.bin .add .other true (.t 77) (ci 511)), oo 79 (.bin .quo .other true (.t 78) (ci 512)), oo 80 (.bin .mul .other true (.t 79) (ci 512)), mv 12 80]) (.seq (.seq (rg [mv 81 11, oo 82 (.bin .neq (.iface [58]) true (.t 81) (.c (.lit .nilIface))), mv 83 82, og 84 (.mov (.t 12)) 83 false, og 85 (.mov (.t 3)) 83 false, og 86 (.len 1 (.t 85)) 83 false, og 87 (.bin .sub .other true (.t 86) (ci 512)) 83 false, og 88 (.bin .gtr .other false (.t 84) (.t 87)) 83 false, oo 89 (.pick (.t 83) (.c (.bool true)) (.t 88)), mv 90 89, og 91 (.mov (.t 3)) 90 false, og 92 (.fa 4 (.t 10)) 90 false, og 93 (.ld 1 false (.t 92)) 90 false, og 94 (.bin .add .other true (ci 512) (.t 93)) 90 false, og 95 (.mov (.t 12)) 90 false, og 96 (.bin .add .other true (ci 512) (.t 95)) 90 false, og 97 (.slc 1 (.t 91) (some (.t 94)) (some (.t 96)) none) 90 false, og 98 (.call (.c (.func (.func 42) [])) [(.t 97)]) 90 false, og 99 (.un .not (.t 98)) 90 false, oo 100 (.pick (.t 90) (.c (.bool true)) (.t 99))]) (.cond (.t 100) (.seq (rg [oo 2 (.mov (.c (.bool false)))]) .ret) .skip)) (.seq (rg [mv 101 3, oo 102 (.fa 4 (.t 10)), oo 103 (.ld 1 false (.t 102)), oo 104 (.bin .add .other true (ci 512) (.t 103)), oo 105 (.slc 1 (.t 101) (some (ci 512)) (some (.t 104)) none), mv 13 105]) (.seq (rg [mv 106 3, mv 107 12, oo 108 (.bin .add .other true (ci 512) (.t 107)), oo 109 (.slc 1 (.t 106) (some (.t 108)) none none), mv 3 109]) (.seq (.seq (rg [oo 110 (.fa 6 (.t 10)), oo 111 (.ld 1 false (.t 110)), oo 112 (.bin .neq .other true (.t 111) (.c (.int .u8 120)))]) (.cond (.t 112) (.seq (.seq (rg [mv 113 13, oo 114 (.cvbs (.t 113)), oo 115 (.fa 7 (.t 8)), oo 116 (.ld 1 false (.t 115)), oo 117 (.cvbs (.t 116)), oo 118 (.bin .neq .other false (.t 114) (.t 117)), mv 119 118, og 120 (.fa 1 (.t 10)) 119 false, og 121 (.ld 1 false (.t 120)) 119 false, og 122 (.fa 2 (.t 8)) 119 false, og 123 (.ld 1 false (.t 122)) 119 false, og 124 (.bin .neq .other false (.t 121) (.t 123)) 119 false, oo 125 (.pick (.t 119) (.c (.bool true)) (.t 124))]) (.cond (.t 125) (.seq (rg [oo 2 (.mov (.c (.bool false)))]) .ret) .skip)) (.exit 2)) .skip)) (.seq (rg [mv 127 13, cl 128 35 [(.t 127)], mv 126 128, oo 129 (.ext (.t 126) 0), oo 130 (.ext (.t 126) 1), mv 14 129, mv 15 130]) (.seq (.seq (rg [mv 131 15, oo 132 (.bin .neq (.iface [58]) true (.t 131) (.c (.lit .nilIface))), mv 133 132, og 134 (.mov (.t 14)) 133 false, og 135 (.len 1 (.t 134)) 133 false, og 136 (.bin .eql .other true (.t 135) (ci 0)) 133 false, oo 137 (.pick (.t 133) (.c (.bool true)) (.t 136)), mv 138 137, og 139 (.mov (.t 9)) 138 false, og 140 (.len 1 (.t 139)) 138 false, og 141 (.bin .gtr .other true (.t 140) (ci 0)) 138 false, oo 142 (.pick (.t 138) (.c (.bool true)) (.t 141))]) (.cond (.t 142) (.seq (rg [oo 2 (.mov (.c (.bool false)))]) .ret) .skip)) (rg [mv 143 14, mv 9 143])))))))))))
def r10_0 : ACode := (.seq (.reg true [(1, 3), (2, 3), (1, 4), (2, 4), (0, 5), (1, 5), (2, 5), (3, 5), (10, 17), (14, 17), (15, 17), (10, 18), (14, 18), (15, 18), (9, 19), (10, 19), (11, 19), (12, 19), (13, 19), (14, 19), (15, 19), (16, 19), (17, 19), (25, 27), (26, 27), (25, 28), (26, 28), (24, 29), (25, 29), (26, 29), (27, 29), (27, 30), (36, 38), (37, 38), (36, 39), (37, 39), (35, 40), (36, 40), (37, 40), (38, 40), (38, 41), (47, 49), (48, 49), (47, 50), (48, 50), (46, 51), (47, 51), (48, 51), (49, 51), (49, 52)] [oo 144 (.fa 0 (.t 8)), oo 145 (.ld 1 false (.t 144)), cl 146 44 [(.t 145)], mv 147 9, oo 148 (.fa 0 (.t 8)), oo 149 (.ld 1 false (.t 148)), oo 150 (.call (.c (.func (.func 43) [])) [(.t 146), (.t 147), (.c (.str [112, 97, 116, 104])), (.t 149)]), oo 151 (.un .not (.t 150)), mv 152 151, og 153 (.fa 6 (.t 8)) 152 false, og 154 (.ld 1 false (.t 153)) 152 false, og 155 (.bin .eql .other true (.t 154) (.c (.str []))) 152 false, og 156 (.mov (.t 155)) 152 false, og 157 (.fa 6 (.t 8)) 156 false, og 158 (.ld 1 false (.t 157)) 156 false, og 159 (.call (.c (.func (.func 45) [])) [(.t 158)]) 156 false, og 160 (.pick (.t 156) (.c (.bool true)) (.t 159)) 152 false, og 161 (.mov (.t 9)) 152 false, og 162 (.fa 6 (.t 8)) 152 false, og 163 (.ld 1 false (.t 162)) 152 false, og 164 (.call (.c (.func (.func 43) [])) [(.t 160), (.t 161), (.c (.str [108, 105, 110, 107, 112, 97, 116, 104])), (.t 163)]) 152 false, og 165 (.un .not (.t 164)) 152 false, oo 166 (.pick (.t 152) (.c (.bool true)) (.t 165)), mv 167 166, og 168 (.fa 3 (.t 8)) 167 false, og 169 (.ld 1 false (.t 168)) 167 false, og 170 (.call (.c (.func (.func 46) [])) [(.t 169)]) 167 false, og 171 (.mov (.t 9)) 167 false, og 172 (.fa 3 (.t 8)) 167 false, og 173 (.ld 1 false (.t 172)) 167 false, og 174 (.call (.c (.func (.func 47) [])) [(.t 173)]) 167 false, og 175 (.call (.c (.func (.func 43) [])) [(.t 170), (.t 171), (.c (.str [117, 105, 100])), (.t 174)]) 167 false, og 176 (.un .not (.t 175)) 167 false, oo 177 (.pick (.t 167) (.c (.bool true)) (.t 176)), mv 178 177, og 179 (.fa 4 (.t 8)) 178 false, og 180 (.ld 1 false (.t 179)) 178 false, og 181 (.call (.c (.func (.func 46) [])) [(.t 180)]) 178 false, og 182 (.mov (.t 9)) 178 false, og 183 (.fa 4 (.t 8)) 178 false, og 184 (.ld 1 false (.t 183)) 178 false, og 185 (.call (.c (.func (.func 47) [])) [(.t 184)]) 178 false, og 186 (.call (.c (.func (.func 43) [])) [(.t 181), (.t 182), (.c (.str [103, 105, 100])), (.t 185)]) 178 false, og 187 (.un .not (.t 186)) 178 false, oo 188 (.pick (.t 178) (.c (.bool true)) (.t 187)), mv 189 188, og 190 (.fa 5 (.t 8)) 189 false, og 191 (.ld 1 false (.t 190)) 189 false, og 192 (.call (.c (.func (.func 48) [])) [(.t 191)]) 189 false, og 193 (.mov (.t 9)) 189 false, og 194 (.fa 5 (.t 8)) 189 false, og 195 (.ld 1 false (.t 194)) 189 false, og 196 (.call (.c (.func (.func 47) [])) [(.t 195)]) 189 false, og 197 (.call (.c (.func (.func 43) [])) [(.t 192), (.t 193), (.c (.str [109, 116, 105, 109, 101])), (.t 196)]) 189 false, og 198 (.un .not (.t 197)) 189 false, oo 199 (.pick (.t 189) (.c (.bool true)) (.t 198)), mv 200 199, og 201 (.mov (.t 9)) 200 false, og 202 (.len 1 (.t 201)) 200 false, og 203 (.bin .gtr .other true (.t 202) (ci 5)) 200 false, oo 204 (.pick (.t 200) (.c (.bool true)) (.t 203))]) (.cond (.t 204) (.seq (rg [oo 2 (.mov (.c (.bool false)))]) .ret) .skip))
def r10_1 : ACode := (rg [oo 205 (.bin .add .other true (.t 62) (ci 1)), mv 62 205])
def l10_1 : ACode := (.seq (rg [oo 63 (.bin .lss .other false (.t 62) (.t 61))]) (.seq (.cond (.t 63) .skip (.exit 0)) (.seq (.block 1 (.seq (rg [oo 64 (.ixa 8 (.t 60) (.t 62)), oo 65 (.ld 8 true (.t 64)), oo 8 (.alloc [(.str []), (.int .i64 0), (.int .i64 0), (.int .i64 0), (.int .i64 0), (.int .i64 0), (.str []), (.lit (.slice none 0 0))]), ⟨none, (.st 8 (.t 8) (.t 65)), none⟩]) (.seq (rg [oo 66 (.bslice 2 0 [(.str []), (.str [])] []), mv 9 66]) (.seq (.block 2 (.loop [2, 3, 8, 9, 60, 61, 62] l10_0)) r10_0)))) r10_1)))
def r10_2 : ACode := (.seq (rg [mv 206 3, oo 207 (.len 1 (.t 206)), oo 208 (.bin .eql .other true (.t 207) (ci 0)), mv 2 208]) .ret)
def b10 : AFn := ⟨1, 209, [(2, none)], (.seq (rg [oo 2 (.mov (.c (.bool false)))]) (.seq (.seq (rg [cl 16 39 [], oo 17 (.un .not (.t 16))]) (.cond (.t 17) (.seq (rg [oo 2 (.mov (.c (.bool false)))]) .ret) .skip)) (.seq (.seq (rg [mv 18 0, cl 19 40 [(.t 18)], oo 20 (.un .not (.t 19))]) (.cond (.t 20) (.seq (rg [oo 2 (.mov (.c (.bool true)))]) .ret) .skip)) (.seq (rg [mv 22 0, cl 23 17 [(.t 22)], mv 21 23, oo 24 (.ext (.t 21) 0), oo 25 (.ext (.t 21) 1), mv 3 24, mv 4 25]) (.seq (.seq (rg [mv 26 4, oo 27 (.bin .neq (.iface [58]) true (.t 26) (.c (.lit .nilIface)))]) (.cond (.t 27) (.seq (rg [mv 29 0, cl 30 41 [(.t 29)], mv 28 30, oo 31 (.ext (.t 28) 0), oo 32 (.ext (.t 28) 1), mv 5 31, mv 6 32]) (.seq (rg [mv 33 4, cl 34 19 [(.t 33)], mv 35 6, oo 36 (.bin .eql .other false (.t 34) (.t 35)), mv 2 36]) .ret)) .skip)) (.seq (.seq (rg [mv 37 3, oo 38 (.len 1 (.t 37)), oo 39 (.bin .rem .other true (.t 38) (ci 512)), oo 40 (.bin .neq .other true (.t 39) (ci 0)), mv 41 40, og 42 (.mov (.t 3)) 41 false, og 43 (.len 1 (.t 42)) 41 false, og 44 (.bin .lss .other true (.t 43) (ci 1024)) 41 false, oo 45 (.pick (.t 41) (.c (.bool true)) (.t 44)), mv 46 45, og 47 (.mov (.t 3)) 46 false, og 48 (.mov (.t 3)) 46 false, og 49 (.len 1 (.t 48)) 46 false, og 50 (.bin .sub .other true (.t 49) (ci 1024)) 46 false, og 51 (.slc 1 (.t 47) (some (.t 50)) none none) 46 false, og 52 (.call (.c (.func (.func 42) [])) [(.t 51)]) 46 false, og 53 (.un .not (.t 52)) 46 false, oo 54 (.pick (.t 46) (.c (.bool true)) (.t 53))]) (.cond (.t 54) (.seq (rg [oo 2 (.mov (.c (.bool false)))]) .ret) .skip)) (.seq (rg [mv 55 3, mv 56 3, oo 57 (.len 1 (.t 56)), oo 58 (.bin .sub .other true (.t 57) (ci 1024)), oo 59 (.slc 1 (.t 55) none (some (.t 58)) none), mv 3 59]) (.seq (.seq (rg [mv 60 0, oo 61 (.len 1 (.t 60)), oo 62 (.mov (ci 0))]) (.block 0 (.loop [2, 3, 60, 61, 62] l10_1))) r10_2))))))))⟩
def l13_0 : ACode := (.seq (rg [oo 82 (.bin .lss .other false (.t 81) (.t 80))]) (.seq (.cond (.t 82) .skip (.exit 0)) (.seq (.block 1 (.seq (rg [mv 83 81, oo 84 (.ixa 1 (.t 79) (.t 81)), oo 85 (.ld 1 false (.t 84)), mv 15 83, mv 16 85]) (.seq (rg [mv 86 14, mv 87 16, oo 88 (.bin .add .other false (.t 86) (.t 87)), mv 14 88]) (.seq (rg [mv 89 14, mv 90 13, oo 91 (.bin .leq .other false (.t 89) (.t 90)), mv 92 91, og 93 (.mov (.t 14)) 92 true, og 94 (.mov (.t 7)) 92 true, og 95 (.len 1 (.t 94)) 92 true, og 96 (.bin .lss .other false (.t 93) (.t 95)) 92 true, oo 97 (.pick (.t 92) (.t 96) (.c (.bool false))), mv 98 97, og 99 (.mov (.t 14)) 98 true, og 100 (.mov (.t 9)) 98 true, og 101 (.len 1 (.t 100)) 98 true, og 102 (.bin .lss .other false (.t 99) (.t 101)) 98 true, oo 103 (.pick (.t 98) (.t 102) (.c (.bool false))), mv 104 103, og 105 (.mov (.t 15)) 104 true, og 106 (.mov (.t 12)) 104 true, og 107 (.len 1 (.t 106)) 104 true, og 108 (.bin .geq .other false (.t 105) (.t 107)) 104 true, og 109 (.mov (.t 108)) 104 true, og 110 (.mov (.t 12)) 109 false, og 111 (.mov (.t 15)) 109 false, og 112 (.ixa 1 (.t 110) (.t 111)) 109 false, og 113 (.ld 1 false (.t 112)) 109 false, og 114 (.mov (.t 16)) 109 false, og 115 (.bin .neq .other false (.t 113) (.t 114)) 109 false, og 116 (.pick (.t 109) (.c (.bool true)) (.t 115)) 104 true, oo 117 (.pick (.t 104) (.t 116) (.c (.bool false)))]) (.cond (.t 117) (.seq (rg [oo 6 (.mov (.c (.bool false)))]) .ret) .skip))))) (rg [oo 118 (.bin .add .other true (.t 81) (ci 1)), mv 81 118]))))
def r13_0 : ACode := (.seq (rg [mv 119 14, mv 120 7, oo 121 (.len 1 (.t 120)), oo 122 (.bin .eql .other false (.t 119) (.t 121)), mv 6 122]) .ret)
def b13 : AFn := ⟨3, 123, [(6, none)], (.seq (rg [oo 3 (.box (.t 0)), oo 6 (.mov (.c (.bool false)))]) (.seq (.seq (rg [cl 17 39 [], oo 18 (.un .not (.t 17))]) (.cond (.t 18) (.seq (rg [oo 6 (.mov (.c (.bool false)))]) .ret) .skip)) (.seq (.seq (rg [mv 19 1, cl 20 40 [(.t 19)], oo 21 (.un .not (.t 20)), mv 22 21, og 23 (.mov (.t 2)) 22 false, og 24 (.call (.c (.func (.func 40) [])) [(.t 23)]) 22 false, og 25 (.un .not (.t 24)) 22 false, oo 26 (.pick (.t 22) (.c (.bool true)) (.t 25))]) (.cond (.t 26) (.seq (rg [oo 6 (.mov (.c (.bool true)))]) .ret) .skip)) (.seq (rg [mv 28 1, cl 29 17 [(.t 28)], mv 27 29, oo 30 (.ext (.t 27) 0), oo 31 (.ext (.t 27) 1), mv 7 30, mv 8 31]) (.seq (rg [mv 33 2, cl 34 17 [(.t 33)], mv 32 34, oo 35 (.ext (.t 32) 0), oo 36 (.ext (.t 32) 1), mv 9 35, mv 10 36]) (.seq (.seq (rg [mv 37 8, oo 38 (.bin .neq (.iface [58]) true (.t 37) (.c (.lit .nilIface))), mv 39 38, og 40 (.mov (.t 10)) 39 false, og 41 (.bin .neq (.iface [58]) true (.t 40) (.c (.lit .nilIface))) 39 false, oo 42 (.pick (.t 39) (.c (.bool true)) (.t 41))]) (.cond (.t 42) (.seq (rg [oo 6 (.mov (.c (.bool true)))]) .ret) .skip)) (.seq (rg [oo 44 (.ld 5 true (.t 3)), mv 45 7, cl 46 51 [(.t 44), (.t 45)], mv 43 46, oo 47 (.ext (.t 43) 0), oo 48 (.ext (.t 43) 1), mv 11 47, mv 8 48]) (.seq (rg [oo 50 (.ld 5 true (.t 3)), mv 51 9, cl 52 51 [(.t 50), (.t 51)], mv 49 52, oo 53 (.ext (.t 49) 0), oo 54 (.ext (.t 49) 1), mv 12 53, mv 10 54]) (.seq (.seq (rg [mv 55 8, oo 56 (.bin .neq (.iface [58]) true (.t 55) (.c (.lit .nilIface))), mv 57 56, og 58 (.mov (.t 10)) 57 false, og 59 (.bin .neq (.iface [58]) true (.t 58) (.c (.lit .nilIface))) 57 false, oo 60 (.pick (.t 57) (.c (.bool true)) (.t 59))]) (.cond (.t 60) (.seq (rg [mv 61 8, cl 62 19 [(.t 61)], mv 63 10, cl 64 19 [(.t 63)], oo 65 (.bin .eql .other false (.t 62) (.t 64)), mv 66 65, og 67 (.mov (.t 11)) 66 true, og 68 (.len 1 (.t 67)) 66 true, og 69 (.bin .eql .other true (.t 68) (ci 0)) 66 true, oo 70 (.pick (.t 66) (.t 69) (.c (.bool false))), mv 71 70, og 72 (.mov (.t 12)) 71 true, og 73 (.len 1 (.t 72)) 71 true, og 74 (.bin .eql .other true (.t 73) (ci 0)) 71 true, oo 75 (.pick (.t 71) (.t 74) (.c (.bool false))), mv 6 75]) .ret) .skip)) (.seq (rg [mv 76 7, mv 77 9, cl 78 52 [(.t 76), (.t 77)], mv 13 78]) (.seq (rg [oo 14 (.mov (ci 0))]) (.seq (.seq (rg [mv 79 11, oo 80 (.len 1 (.t 79)), oo 81 (.mov (ci 0))]) (.block 0 (.loop [6, 7, 9, 12, 13, 14, 79, 80, 81] l13_0))) r13_0))))))))))))⟩
end Go.Abs
namespace Go.Abs
open Go.Proofs Go.RowKit Am
set_option maxRecDepth 100000
set_option linter.unusedSimpArgs false
@[go_sem] theorem AB_moves {g : Nat} : AB.moves g = movesT g := AA_moves
theorem ab_fn {g : Nat} {fn : AFn} (h : AA.fn g = some fn) : AB.fn g = some fn := h
theorem build_run : callF AB 60 49 [.view 8 [.agg [.str [46, 47, 97], .int .i64 2, .int .i64 0, .int .i64 0, .int .i64 0, .int .i64 0, .str [], .view 1 [.int .u8 104, .int .u8 101, .int .u8 108, .int .u8 108, .int .u8 111] false false]] false true] [] =
    some (.tuple [.own 0 8 0 1 false, .lit .nilIface], [(0, .row [.agg [.str [97], .int .i64 2, .int .i64 0, .int .i64 0, .int .i64 0, .int .i64 0, .str [], .view 1 [.int .u8 104, .int .u8 101, .int .u8 108, .int .u8 108, .int .u8 111] false false]] 8)]) := by kernel_rfl
set_option maxHeartbeats 4000000 in
theorem s39 : callT AB 39 [] [] = some (.bool true, []) := by
  have h49 := callT_iff.2 ⟨60, build_run⟩
  have h17 : ∀ c t, callT AB 17 [.view 8 [.agg [.str [97], .int .i64 2, .int .i64 0, .int .i64 0, .int .i64 0, .int .i64 0, .str [], .view 1 [.int .u8 104, .int .u8 101, .int .u8 108, .int .u8 108, .int .u8 111] false false]] c t] [] = some (.tuple [.own 0 1 0 2048 false, .lit .nilIface], [(0, .row (wA.map .byte) 1)]) := by
    intro c t
    have h := w17 c t [eA] (by simp) (by simp) (by
      intro e he
      rw [List.mem_singleton.1 he]
      exact ⟨by decide, by decide, helloL, rfl, by decide⟩) (by rw [checkT_map Ent.cp same_cp]; exact checkA)
    rw [show writeL [eA] = wA from rfl, lenA] at h
    exact callT_ext h
  have h24 : ∀ c t, callT AB 24 [.view 1 (wA.map .byte) c t] [] = some (.tuple [.own 0 8 0 1 false, .lit .nilIface], [(0, .row [.agg [.str [97], .int .i64 2, .int .i64 0, .int .i64 0, .int .i64 0, .int .i64 0, .str [], .view 1 (helloL.map .byte) false false]] 8)]) := by
    intro c t
    have h := s24 (.mk c t wA) (by simp only [BS.l]; rw [lenA]; omega)
    rw [readA] at h
    exact callT_ext h
  have et : (wA.map AVal.byte).take 2048 = wA.map .byte := List.take_of_length_le (by rw [List.length_map, lenA]; omega)
  have hh : decide (helloL = [104, 101, 108, 108, 111]) = true := rfl
  have h97 : decide (([97] : List UInt8) = [97]) = true := rfl
  have hl : (wA.map AVal.byte).length = 2048 := by rw [List.length_map, lenA]
  have hw := lenA
  generalize wA = W at *
  refine enter (ab_fn fn39) rfl rfl ?_
  have gg := trivial; repeat' first | simp (maxSteps := 2000000) (disch := omega) only [gg, b39, h49, h17, h24, et, hh, h97, hl, hw, sl_own_both, ldE_head, go_sem] | (refine br ?_ ?_ <;> intro gg <;> try (exfalso; omega)) | (refine And.intro ?_ ?_; focus omega) | omega
end Go.Abs
namespace Go.Abs
def b23 : AFn := ⟨1, 14, [(2, none)], (.seq (rg [oo 2 (.mov (.c (.lit (.slice none 0 0))))]) (.seq (rg [mv 3 0, oo 4 (.len 1 (.t 3)), oo 5 (.bin .add .other true (.t 4) (ci 2)), oo 6 (.mksl 1 1 [(.int .u8 0)] (ci 0) (.t 5)), mv 7 0, oo 8 (.app 1 1 (.t 6) (.t 7)), oo 9 (.bslice 1 2 [(.int .u8 0)] [(.c (.int .u8 165)), (.c (.int .u8 90))]), oo 10 (.app 1 1 (.t 8) (.t 9)), mv 11 0, oo 12 (.len 1 (.t 11)), oo 13 (.slc 1 (.t 10) none (some (.t 12)) none), mv 2 13]) .ret))⟩
theorem fn23 : AA.fn 23 = some b23 := by kernel_rfl
theorem np23 : AA.prim 23 = none := rfl
end Go.Abs
namespace Go.Abs
open Go.Proofs Go.RowKit Am
set_option maxRecDepth 100000
set_option linter.unusedSimpArgs false
theorem readP_rd : ∀ (k : Nat) (b : BS) (acc R : List Ent), readP k b acc = some R → (∀ e ∈ acc, RdE e) → acc.length ≤ 200 → b.l.length ≤ 1000000 → (∀ e ∈ R, RdE e) ∧ R.length ≤ 200
  | 0, b, acc, R, h, h1, h2, h3 => by
    simp only [readP, Option.some.injEq] at h
    subst h
    exact ⟨h1, h2⟩
  | k + 1, b, acc, R, h, h1, h2, h3 => by
    unfold readP at h
    split at h
    · cases h
      exact ⟨h1, h2⟩
    · cases hp : entP b with
      | none => rw [hp] at h; cases h
      | some er =>
        obtain ⟨e, r⟩ := er
        rw [hp] at h
        simp only at h
        obtain ⟨⟨p1, p2⟩, ⟨l, p3, p4⟩, p5⟩ := entP_ok hp
        split at h
        · cases h
        · rename_i hq
          refine readP_rd k r (acc ++ [e]) R h ?_ (by simp; omega) (by omega)
          intro x hx
          rcases List.mem_append.1 hx with hx | hx
          · exact h1 x hx
          · rw [List.mem_singleton.1 hx]
            exact ⟨p1, p2, l, p3, by omega⟩
theorem readE_rd {b : BS} {t : List Ent} (h : readE b = some t) (hb : b.l.length ≤ 1000000) : (∀ e ∈ t, RdE e) ∧ t.length ≤ 200 ∧ (checkT (t.map Ent.cp)).2 = 0 ∧ writeL t = b.l := by
  unfold readE at h
  split at h
  · cases h
  · cases hp : readP b.l.length (b.sl 0 (b.l.length - 1024)) [] with
    | none => rw [hp] at h; cases h
    | some R =>
      rw [hp] at h
      simp only [finR] at h
      split at h
      · rename_i hc
        cases h
        have := readP_rd _ _ _ _ hp (by simp) (by simp) (by rw [BS.sl_l, List.length_take, List.length_drop]; omega)
        exact ⟨this.1, this.2, hc.1, hc.2⟩
      · cases h
def marks : List UInt8 := [165, 90]
theorem map_marks (l : List UInt8) : l.map AVal.byte ++ [.int .u8 165, .int .u8 90] = (l ++ marks).map .byte := by
  rw [List.map_append]
  rfl
theorem s23 (b : BS) (hb : b.l.length ≤ 1000000) : callT AA 23 [b.av] [] = some (.own 0 1 0 b.l.length false, [(0, .row ((b.l ++ marks).map .byte) 1)]) := by
  refine enter fn23 np23 rfl ?_
  have gg := trivial; repeat' first | simp (maxSteps := 2000000) (disch := omega) only [gg, b23, map_marks, go_sem] | (refine br ?_ ?_ <;> intro gg <;> try (exfalso; omega)) | (refine And.intro ?_ ?_; focus omega) | omega
theorem checkL_none : ∀ (t : List Ent) (c : Ck) (i : Int), (checkL c i t).2 = 0 → (checkL c i t).1 = -1
  | [], c, i, _ => rfl
  | e :: r, c, i, h => by
    unfold checkL at h ⊢
    split at h
    · rename_i hc
      rw [if_pos hc]
      exact checkL_none r _ _ h
    · rename_i hc
      exact (hc h).elim
theorem checkT_none {t : List Ent} (h : (checkT t).2 = 0) : (checkT t).1 = -1 := by
  unfold checkT at h ⊢
  split at h
  · cases h
  · rename_i hc
    rw [if_neg hc]
    exact checkL_none _ _ _ h
set_option maxHeartbeats 4000000 in
theorem s9 (b : BS) (hb : b.l.length ≤ 140737488351232) : callT AB 9 [b.av] [] = some (.bool true, []) := by
  have h39 := s39
  refine enter (ab_fn fn9) rfl rfl ?_
  by_cases hl : b.l.length ≤ 131072
  · have h23 := callT_ext (s23 b (by omega))
    have h24 := callT_ext (s24 (.mk false true b.l) (by rw [mk_l]; omega))
    rw [mk_av] at h24
    have et : ((b.l ++ marks).map AVal.byte).take b.l.length = b.l.map .byte := by
      rw [List.map_append, List.take_left' (by simp)]
    cases hR : readE (.mk false true b.l) with
    | none =>
      rw [hR] at h24
      unfold readV readH at h24
      have gg := trivial; repeat' first | simp (maxSteps := 2000000) (disch := omega) only [gg, b9, h39, h23, h24, et, List.drop_zero, go_sem] | (refine br ?_ ?_ <;> intro gg <;> try (exfalso; omega)) | (refine And.intro ?_ ?_; focus omega) | omega
    | some t =>
      obtain ⟨q1, q2, q3, q4⟩ := readE_rd hR (by rw [mk_l]; omega)
      rw [mk_l] at q4
      rw [hR] at h24
      cases t with
      | nil =>
        have hz : zeros1024 = b.l := by
          rw [← q4]
          rfl
        have h31 := callT_ext s31n
        have h17 := callT_ext s17n
        have ez := zeros1024_take
        have hlz := zeros1024_length
        unfold readV readH at h24
        have gg := trivial; repeat' first | simp (maxSteps := 2000000) (disch := omega) only [gg, b9, h39, h23, h24, h31, h17, et, ez, hlz, decide_eq_true hz, List.drop_zero, go_sem] | (refine br ?_ ?_ <;> intro gg <;> try (exfalso; omega)) | (refine And.intro ?_ ?_; focus omega) | omega
      | cons e r =>
        have hc : (checkT (e :: r)).2 = 0 := by rw [← checkT_map Ent.cp same_cp]; exact q3
        have h31 := callT_ext (s31 false true (e :: r) (fun x hx => rdE_ok (q1 x hx)) (by omega))
        rw [hc, checkT_none hc] at h31
        have h17 := callT_ext (w17 false true (e :: r) (by simp) q2 q1 q3)
        rw [q4] at h17
        have he0 : errV 0 = .lit .nilIface := rfl
        rw [he0] at h31
        rw [(readV_ne (by simp : e :: r ≠ [])).1, (readV_ne (by simp : e :: r ≠ [])).2] at h24
        have er : ((e :: r).map Ent.av).take (e :: r).length = (e :: r).map Ent.av := List.take_of_length_le (by rw [List.length_map]; exact Nat.le_refl _)
        have eb : (b.l.map AVal.byte).take b.l.length = b.l.map .byte := List.take_of_length_le (by rw [List.length_map]; exact Nat.le_refl _)
        generalize e :: r = t at *
        have gg := trivial; repeat' first | simp (maxSteps := 2000000) (disch := omega) only [gg, b9, h39, h23, h24, h31, h17, et, er, eb, List.drop_zero, go_sem] | (refine br ?_ ?_ <;> intro gg <;> try (exfalso; omega)) | (refine And.intro ?_ ?_; focus omega) | omega
  · have gg := trivial; repeat' first | simp (maxSteps := 2000000) (disch := omega) only [gg, b9, h39, go_sem] | (refine br ?_ ?_ <;> intro gg <;> try (exfalso; omega)) | (refine And.intro ?_ ?_; focus omega) | omega
end Go.Abs
namespace Go.Proofs.YtambgnjkakdoeaaGreatDoor
open Go.ChangeShapes Go.WideShapes Go.ChangeAt Go.RowKit Go.Abs
set_option maxRecDepth 100000
theorem ownNone : ownKnob Tryz.prog.godebug = none := by kernel_rfl
theorem laidOut : laidOutB Tryz.prog = true := by kernel_rfl
theorem iface_cells {H : Type} {enc : TypeId × Value → H} {P : Program} {w : World} {base : Nat} {sp : Nat → Bool} {held : Bool} {fuel : Nat} {t : TypeId} {ms : Array (String × TypeId)} {cs : List Value} {x : DataW H × List MemPlace}
    (ht : P.underlying t = some (.interface (ms))) (h : DataW.trod enc P w base sp held fuel t cs = some x) : ∃ v, cs = [v] ∧ (v = .nilIface ∨ ∃ u z, v = .iface u z) := by
  cases fuel with
  | zero => simp [DataW.trod] at h
  | succ fuel =>
    unfold DataW.trod at h
    rw [ht] at h
    split at h <;> first | (rename_i heq; cases heq; done) | skip
    · exact ⟨_, rfl, .inl rfl⟩
    · exact ⟨_, rfl, .inr ⟨_, _, rfl⟩⟩
    · cases h
theorem err_var {W : World} {nm : String} {d : DataW Unit} {k : Nat} (hk : Tryz.prog.globalNamed nm = some k) (ht : (Tryz.prog.globals[k]?).map (·.type) = some 28) (hr : Lib.VarReads Tryz.prog W nm d) :
    ∃ ev, W.cell? ⟨k, 0, none⟩ = some ev ∧ (ev = .nilIface ∨ ∃ te pe, ev = .iface te pe) := by
  obtain ⟨g, t, cs, fuel, p, hg, hty, hvar, hd⟩ := hr
  obtain rfl := Option.some.inj (hk.symm.trans hg)
  obtain rfl := Option.some.inj (ht.symm.trans hty)
  obtain ⟨v, hcs, hv⟩ := iface_cells Tryz.underlying28 hd
  refine ⟨v, ?_, hv⟩
  rw [World.var?_cell hg hvar 0, ← Array.getElem?_toList, hcs]
  rfl
theorem gg_of {W : World} (hL : laidMet Tryz.prog Rows.tarNoneRow.laid W) : GG (fun b => b < W.heap.size) W := by
  have r64 := Lib.laidMet.reads hL (.tail _ (.head _))
  have rpow := Lib.laidMet.reads hL (.tail _ (.tail _ (.head _)))
  have racc := Lib.laidMet.reads hL (.tail _ (.tail _ (.tail _ (.head _))))
  have rran := Lib.laidMet.reads hL (.tail _ (.tail _ (.tail _ (.tail _ (.head _)))))
  have rsyn := Lib.laidMet.reads hL (.tail _ (.tail _ (.tail _ (.tail _ (.tail _ (.head _))))))
  have rfst := Lib.laidMet.reads hL (.tail _ (.tail _ (.tail _ (.tail _ (.tail _ (.tail _ (.head _)))))))
  refine ⟨?_, ?_, err_var (by kernel_rfl) (by kernel_rfl) rsyn, err_var (by kernel_rfl) (by kernel_rfl) rran, fun b hb => ?_⟩
  · obtain ⟨g, t, cs, fuel, p, hg, hty, hvar, hd⟩ := rpow
    obtain rfl := Option.some.inj ((show Tryz.prog.globalNamed "internal/strconv.uint64pow10" = some 1 by kernel_rfl).symm.trans hg)
    obtain rfl := Option.some.inj ((show (Tryz.prog.globals[1]?).map (·.type) = some 247 by kernel_rfl).symm.trans hty)
    have hcs := Lib.cells_of_tab (zs := Lib.pow10Tab) (k := .u64) Tryz.underlying247 Tryz.underlying80 (by kernel_rfl) (by kernel_rfl) hd
    unfold Lib.TabIs
    rw [hvar, ← hcs]
  · exact utf8Tabs_of_readsT (U8Types.of196 Tryz.laysValid) ⟨by kernel_rfl, by kernel_rfl, by kernel_rfl, by kernel_rfl, by kernel_rfl, by kernel_rfl, by kernel_rfl⟩ rfst racc
  · obtain ⟨g, t, cs, fuel, p, hg, hty, hvar, hd⟩ := r64
    obtain rfl := Option.some.inj ((show Tryz.prog.globalNamed "math/bits.deBruijn64tab" = some 7 by kernel_rfl).symm.trans hg)
    have h7 : 7 < W.heap.size := by
      rcases Nat.lt_or_ge 7 W.heap.size with h | h
      · exact h
      · unfold World.var? at hvar
        rw [hg] at hvar
        simp [Array.getElem?_eq_none h] at hvar
    show b < W.heap.size
    omega
end Go.Proofs.YtambgnjkakdoeaaGreatDoor
namespace Go.Abs
open Go.Proofs Go.RowKit Go.ChangeShapes Go.WideShapes Go.Deep
set_option maxRecDepth 100000
set_option linter.unusedSimpArgs false
/-- a value that is all old memory's -/
abbrev RepW (w : World) : AVal → Value → Prop := Rep (fun _ => none) (fun b => b < w.heap.size) (fun _ => False) w
section
variable {H : Type} {enc : TypeId × Value → H} {w : World} {n : Nat} {cs : List Value} {x : DataW H × List MemPlace}
theorem lt_of_cell {a : Addr} {v : Value} (h : w.cell? a = some v) : a.block < w.heap.size ∧ a.spot = none := by
  unfold World.cell? at h
  split at h
  · rename_i c e f hb
    refine ⟨(Array.getElem?_eq_some_iff.1 hb).1, ?_⟩
    cases hs : a.spot with
    | none => rfl
    | some k => rw [hs] at h; simp at h
  · cases h
theorem cell_add {b o i : Nat} {sp : Option Nat} {v : Value} (h : w.cell? ((⟨b, o, sp⟩ : Addr).add i) = some v) (hs : sp = none) : w.cell? ⟨b, o + i, none⟩ = some v := by
  subst hs
  rw [← h, Addr.add_none]
/-- no string, slice or map of it is larger than the reach -/
def Light (d : DataW H) (t : TypeId) : Prop := ∀ k ∈ d.weights Tryz.prog t, k ≤ reachBytes
theorem reach_eq : reachBytes = 140737488351232 := by decide
theorem bytes_of (hw : Light x.1 26) (h : DataW.trod enc Tryz.prog w 0 (fun _ => true) true n 26 cs = some x) : ∃ (b : BS) (v : Value), cs = [v] ∧ RepW w b.av v ∧ b.isTmp = false ∧ b.l.length ≤ 140737488351232 := by
  rcases open_ints Tryz.underlying26 Tryz.underlying5 (by kernel_rfl) h with ⟨hcs, _⟩ | ⟨a, l, c, zs, hcs, _, hl, hm, hz, hx, hcell, hwz⟩
  · exact ⟨.nil, _, hcs, .lit _, rfl, by simp [BS.l]⟩
  · simp only [if_true] at hz
    have hwt : zs.length ≤ 140737488351232 := by
      have hb : Tryz.prog.bytesOf 5 = 1 := by kernel_rfl
      rw [← reach_eq]
      refine hw _ ?_
      rw [hx]
      simp only [DataW.weights, Tryz.underlying26, hb, lits, List.length_map, List.length_take, List.length_drop]
      refine List.mem_cons.2 (.inl ?_)
      omega
    have hw : ∀ i, i < zs.length → 0 ≤ zs.getD i 0 ∧ zs.getD i 0 ≤ 255 := by
      intro i hi
      have := hwz (zs.getD i 0) (by rw [List.getD, List.getElem?_eq_getElem hi]; exact List.getElem_mem hi)
      simpa [Lit.wf, IntKind.min, IntKind.max, IntKind.signed, IntKind.bits] using this
    obtain ⟨b, o, sp⟩ := a
    have hsp : sp = none ∨ c = 0 := by
      rcases Nat.eq_zero_or_pos c with h0 | h0
      · exact .inr h0
      · exact .inl (by simpa [Addr.add] using (lt_of_cell (hcell 0 (by omega))).2)
    let bs := (zs.take l).map fun z => UInt8.ofNat z.toNat
    have hlen : bs.length = l := by simp [bs]; omega
    have hget : ∀ (i : Nat) (e : AVal), (bs.map AVal.byte)[i]? = some e → i < l ∧ e = .int .u8 (zs.getD i 0) := by
      intro i e he
      have hi : i < l := by
        have := (List.getElem?_eq_some_iff.1 he).1
        simpa [hlen] using this
      refine ⟨hi, ?_⟩
      have hiz : i < zs.length := by omega
      have e1 : zs[i]? = some zs[i] := List.getElem?_eq_getElem hiz
      have e2 : zs.getD i 0 = zs[i] := by rw [List.getD, e1]; rfl
      have hb := hw i hiz
      rw [e2] at hb ⊢
      have e3 : (bs.map AVal.byte)[i]? = some (AVal.byte (UInt8.ofNat zs[i].toNat)) := by
        simp only [bs, List.getElem?_map, List.getElem?_take, hi, if_true, e1, Option.map_some]
      rw [e3] at he
      cases he
      unfold AVal.byte
      congr 1
      simp
      omega
    have hcl : ∀ i, i < zs.length → w.cell? ⟨b, o + i, none⟩ = some (.int .u8 (zs.getD i 0)) := by
      intro i hi
      refine cell_add (hcell i hi) ?_
      rcases hsp with h | h
      · exact h
      · omega
    have hcl1 : ∀ i, i < zs.length → w.cell? ⟨b, o + i * 1, none⟩ = some (.int .u8 (zs.getD i 0)) := by
      intro i hi
      rw [Nat.mul_one]
      exact hcl i hi
    have := Rep.view (ι := fun _ => none) (S := fun b => b < w.heap.size) (T := fun _ => False) (w := w) 1 (bs.map AVal.byte) false false b o c sp (fun i _ => .int .u8 (zs.getD i 0)) hsp (by simp [hlen]; omega) (by simp)
      (fun i e he => by
        obtain ⟨hi, rfl⟩ := hget i e he
        exact (lt_of_cell (hcl i (by omega))).1)
      (fun i e he => by
        obtain ⟨hi, rfl⟩ := hget i e he
        rfl)
      (fun i e he => by
        obtain ⟨hi, rfl⟩ := hget i e he
        rfl)
      (fun i e j y he hy => by
        obtain ⟨hi, rfl⟩ := hget i e he
        match j, hy with
        | 0, _ => exact hcl1 i (by omega)
        | j + 1, hy => simp [AVal.cells] at hy)
      (fun i e j y he hy => by
        obtain ⟨hi, rfl⟩ := hget i e he
        match j, hy with
        | 0, hy =>
          simp [AVal.cells] at hy
          subst hy
          exact .int _ _
        | j + 1, hy => simp [AVal.cells] at hy)
    refine ⟨.mk false false bs, _, hcs, ?_, rfl, ?_⟩
    · rw [List.length_map, hlen] at this
      exact this
    · simp only [BS.l, hlen]
      omega
instance : Inhabited Ent := ⟨⟨[], 0, 0, 0, 0, 0, [], .nil⟩⟩
end
end Go.Abs
namespace Go.Abs
open Go.Proofs Go.RowKit Go.ChangeShapes Go.WideShapes Go.Deep
set_option maxRecDepth 100000
section
variable {H : Type} {enc : TypeId × Value → H} {w : World}
end
end Go.Abs
namespace Go.Proofs.YtambgnjkakdoeaaGreatDoor
open Go.ChangeShapes Go.WideShapes Go.ChangeAt Go.RowKit Go.Abs
set_option maxRecDepth 100000
theorem bytesArg_of {H : Type} {enc : TypeId × Value → H} {w : World} {v : Value} {d : DataW H} {p : List MemPlace} {r : Reach} {b0 : Nat} (hw : Light d 26) (hv : Value.okWide Tryz.prog w r b0 26 v) (h : DataW.Trod enc Tryz.prog w 0 (fun _ => true) true 26 v d p) : ∃ b : BS, RepW w b.av v ∧ b.l.length ≤ 140737488351232 := by
  obtain ⟨a, len, cap, rfl⟩ := okWide_slice Tryz.underlying26 hv
  obtain ⟨m, hm⟩ := h
  obtain ⟨t, v', h1, h2, _, h3⟩ := bytes_of hw hm
  have e : v' = .slice a len cap := by
    have : (Value.slice a len cap).cells.toList = [.slice a len cap] := rfl
    rw [this] at h1
    exact (List.cons.inj h1).1.symm
  subst e
  exact ⟨t, h2, h3⟩
theorem lifted9 (sX : ∀ b : BS, b.l.length ≤ 140737488351232 → callT AB 9 [b.av] [] = some (.bool true, [])) (os : Os) (started : os.Started) (H : Type) (enc : TypeId × Value → H) :
    ReturnsInHanded {} Tryz.checked os 9 .any (fun w args => (Rows.wholeStrangersSpec.pre enc Tryz.prog Tryz.f9 Rows.wholeStrangersRow.domain false w args ∧ laidMetH Tryz.prog Rows.wholeStrangersRow.laid w) ∧ sizedMet enc Tryz.prog Tryz.f9 (OpenSpec.ofChange Rows.wholeStrangersSpec) false w args)
      (Rows.wholeStrangersSpec.post enc Tryz.prog Tryz.f9 false true false false) := by
  refine returnsInHanded_of_change_and (C := Tryz.checked) (X := fun w _ => laidMetH Tryz.prog Rows.wholeStrangersRow.laid w) (fun _ _ _ hh h => h.of_heap hh) ownNone started (by kernel_rfl) Tryz.func9
    (ChangeSpec.witness_shaped (enc := enc) (C := Tryz.checked) (os := os) (X := fun w _ => laidMetH Tryz.prog Rows.wholeStrangersRow.laid w) false (World.laidAll Tryz.prog os Rows.wholeStrangersRow.laid) #[.slice none 0 0] 8 (World.laidAll_os _ _ _)
      (World.shaped_of_ZipB (by kernel_rfl) (by kernel_rfl)) (by kernel_rfl) (by kernel_rfl) (by kernel_rfl)
      (by rw [MakeChecks.laidMetH_plain _ _ _ (by kernel_rfl)]; exact laidMet_laidAll _ (by kernel_rfl) (by kernel_rfl))) ?_
  intro W base args ds gs before hval0 hW hc hwt hL _
  have hval : ∀ (j : Nat) t v, Tryz.f9.params[j]? = some t → args[j]? = some v → Value.okWide Tryz.prog W .any base t v := hval0
  have hW' := hW
  obtain ⟨p, q, hA0, hV, rfl, _, _⟩ := hW
  have hA : DataW.TrodAll enc Tryz.prog W 0 (fun _ => true) true Tryz.f9.params.toList args.toList ds p := hA0
  rw [Tryz.params9] at hA hval
  obtain ⟨v0, d0, rfl, rfl, h0⟩ := trodAll_one hA
  obtain ⟨rfl, rfl⟩ := trodVars_none hV
  have k0 := h0
  have lt0 : ∀ x ∈ p, x.block < W.heap.size := by obtain ⟨m, hm⟩ := k0; exact DataW.trod_lt m _ _ _ hm
  have w0 : Light d0 26 := fun k hk => by
    rw [Tryz.params9] at hwt
    have := List.all_eq_true.1 hwt k (by
      show k ∈ DataW.weightsEach Tryz.prog (26 :: _) (d0 :: _)
      simp only [DataW.weightsEach, List.mem_append]
      exact .inl hk)
    simpa using this
  obtain ⟨t, hr, hl⟩ := bytesArg_of w0 (hval 0 26 v0 rfl rfl) h0
  rw [MakeChecks.laidMetH_plain _ _ _ (by kernel_rfl)] at hL
  refine (law_callsB (fn := Tryz.f9) Tryz.func9 (by kernel_rfl) (by kernel_rfl) (sX t hl) (gg_of hL) rfl ?_).mono fun e' W' ⟨he', bel⟩ => ?_
  · intro i c v hc' hv
    match i, hc', hv with
    | 0, hc', hv =>
      cases hc'
      cases hv
      exact hr
    | i + 1, hc', hv => cases hc'
  subst he'
  exact ⟨_, rfl, _, _, _, [], _, [], hW', trodAll_mk1 (shut_bool Tryz.underlying4 _), trodAll_mk1 (Below.trod laidOut (by kernel_rfl) (of_decide_eq_true (by kernel_rfl)) k0 bel lt0), rfl, bel.frame _, fun h => by cases h⟩
theorem inPlace9 : Tryz.prog.inPlace 9 = Rows.wholeStrangersRow.inPlace := by kernel_rfl
theorem unfollowed9 : Tryz.prog.unfollowed 9 = true := by kernel_rfl
theorem recurses9 : Tryz.prog.recurses 9 = true := by kernel_rfl
theorem varsNamed9 : Tryz.prog.varsNamed 9 = Rows.wholeStrangersRow.named := by kernel_rfl
theorem facts9 : joinedFacts Tryz.prog 9 Tryz.f9 Rows.wholeStrangersSpec Rows.wholeStrangersRow = true := by
  unfold joinedFacts
  rw [inPlace9, unfollowed9, recurses9, varsNamed9]
  kernel_rfl
theorem over9 (sX : ∀ b : BS, b.l.length ≤ 140737488351232 → callT AB 9 [b.av] [] = some (.bool true, [])) : Rows.WholeStrangersSaid :=
  OpenClaim.holds_of_wide 9 Tryz.f9 rfl rfl rfl rfl rfl rfl rfl ⟨rfl, rfl, rfl, rfl, rfl⟩ rfl rfl rfl rfl rfl (by kernel_rfl) Tryz.func9 facts9
    (of_decide_eq_true (by kernel_rfl)) (by unfold Func.isWrapper; first | (rw [if_pos (by decide +kernel)]; kernel_rfl) | (rw [if_neg (by decide +kernel)]; exact ⟨rfl, rfl⟩))
    (fun os started H enc _ => lifted9 sX os started H enc)
theorem card9 (sX : ∀ b : BS, b.l.length ≤ 140737488351232 → callT AB 9 [b.av] [] = some (.bool true, [])) : Rows.WholeStrangersCardSaid :=
  Claim7.holds_tied_plain_at .later [] [.data, .data, .data, .data, .sentinel, .sentinel, .pinned] true (true, "9a27f009568e5a9d23452f5acf9f8ca070d2ce250d64b6051559486034a94d0c") true (over9 sX) (fun _ h => by cases h) (by kernel_rfl) (fun _ h => by cases h) wholeStrangers_row_tie rfl ⟨rfl, rfl⟩ (by kernel_rfl) rfl
    (fun f fn hf hfn => by
      obtain rfl : f = 9 := Option.some.inj ((show Tryz.prog.funcNamed "amphora/amphoratop.WholeStrangers" = some 9 by kernel_rfl).symm.trans hf) |>.symm
      obtain rfl : fn = Tryz.f9 := (Option.some.inj (Tryz.func9.symm.trans hfn)).symm
      exact ⟨by kernel_rfl, fun j t ht => by
        rw [Tryz.params9] at ht
        have hm : t ∈ [26] := by simpa using Array.mem_of_getElem? ht
        have hall : ([26].all fun u => !Tryz.prog.wantsStandIn u) = true := by kernel_rfl
        exact (show Tryz.prog.wantsStandIn t = false by simpa using List.all_eq_true.1 hall t hm)⟩)
    (by kernel_rfl)
end Go.Proofs.YtambgnjkakdoeaaGreatDoor
namespace Go.Proofs.YtambgnjkakdoeaaGreatDoor
open Go.Abs
theorem wholeStrangers_holds : Rows.WholeStrangersCardSaid := card9 s9
end Go.Proofs.YtambgnjkakdoeaaGreatDoor
