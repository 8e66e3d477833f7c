import Derived.Test.YtambgnjkakdoeaaGreatDoorTampers10
/- PART OF A PROOF (texts joined by a program): F28 F29 F30 F31 F32 F33 F34 Q2 F35 Q3 F36 F37 F86 N5. -/
set_option linter.unusedVariables false
set_option linter.unusedSimpArgs false
set_option linter.unusedSectionVars false
namespace Go.Abs
open Am
set_option maxRecDepth 10000
set_option linter.unusedSimpArgs false
/-- the next header, its bytes; is there one? -/
def rdH (b : BS) : Hd × BS × Bool :=
  if b.l.length < 512 ∨ decOk (b.sl 0 512).l = false then (hd0, .nil, false) else
  if wholeN (decH (b.sl 0 512).l).size ≤ (b.sl 512 b.l.length).l.length then (decH (b.sl 0 512).l, (b.sl 512 b.l.length).sl 0 (decH (b.sl 0 512).l).size.toNat, true)
  else (decH (b.sl 0 512).l, .nil, false)
theorem hdrV_eq (b : BS) : hdrV b = .tuple [(rdH b).1.av, (rdH b).2.1.av, .bool (rdH b).2.2] := by
  unfold hdrV rdH
  split
  · rfl
  · split <;> rfl
theorem s100r (b : BS) (hb : b.l.length ≤ 1000000000) : callT AA 100 [.ptr 0 0] [(0, .var [b.av])] = some (.tuple [(rdH b).1.av, (rdH b).2.1.av, .bool (rdH b).2.2], [(0, .var [(hdrR b).av])]) := by
  rw [← hdrV_eq]
  exact s100 b hb
theorem hdrR_le (b : BS) : (hdrR b).l.length ≤ b.l.length := by
  have h : ∀ (a : BS) (i j : Nat), (a.sl i j).l.length ≤ a.l.length := by
    intro a i j
    rw [BS.sl_l, List.length_take, List.length_drop]
    omega
  unfold hdrR
  repeat' split
  · exact Nat.le_refl _
  · exact h _ _ _
  · exact Nat.le_trans (h _ _ _) (h _ _ _)
  · exact h _ _ _
theorem rdH_le (b : BS) : (rdH b).2.1.l.length ≤ b.l.length := by
  have h : ∀ (a : BS) (i j : Nat), (a.sl i j).l.length ≤ a.l.length := by
    intro a i j
    rw [BS.sl_l, List.length_take, List.length_drop]
    omega
  unfold rdH
  repeat' split
  · exact Nat.zero_le _
  · exact Nat.le_trans (h _ _ _) (h _ _ _)
  · exact Nat.zero_le _
/-- the kind of a type -/
def kindB (t : UInt8) : Int := if t = 49 then 4 else if t = 50 then 3 else if t = 48 then 2 else if t = 53 then 1 else 0
theorem fits_type {h : Hd} (hf : fitsB h = true) : h.type = 48 ∨ h.type = 49 ∨ h.type = 50 ∨ h.type = 53 ∨ h.type = 120 := by
  unfold fitsB at hf
  simp only [Bool.and_eq_true] at hf
  have h := hf.2
  split at h
  · rename_i hc
    rcases hc with hc | hc
    · exact .inr (.inl hc)
    · exact .inr (.inr (.inl hc))
  · split at h
    · rename_i hc
      exact .inr (.inr (.inr (.inl hc)))
    · split at h
      · rename_i hc
        rcases hc with hc | hc
        · exact .inl hc
        · exact .inr (.inr (.inr (.inr hc)))
      · cases h
theorem rdH_type {b : BS} (h : (rdH b).2.2 = true) : (rdH b).1.type = 48 ∨ (rdH b).1.type = 49 ∨ (rdH b).1.type = 50 ∨ (rdH b).1.type = 53 ∨ (rdH b).1.type = 120 := by
  unfold rdH at h ⊢
  by_cases c1 : b.l.length < 512 ∨ decOk (b.sl 0 512).l = false
  · rw [if_pos c1] at h
    cases h
  · rw [if_neg c1] at h ⊢
    have hd : decOk (b.sl 0 512).l = true := by
      cases hd : decOk (b.sl 0 512).l with
      | true => rfl
      | false => exact (c1 (.inr hd)).elim
    have hf : fitsB (decH (b.sl 0 512).l) = true := by
      unfold decOk encOk at hd
      simp only [Bool.and_eq_true] at hd
      exact hd.1.2
    by_cases c2 : wholeN (decH (b.sl 0 512).l).size ≤ (b.sl 512 b.l.length).l.length
    · rw [if_pos c2]
      exact fits_type hf
    · rw [if_neg c2] at h
      cases h
theorem type_kind {b : BS} (h : (rdH b).2.2 = true) : (((rdH b).1.type.toNat : Int) = 48 ∧ kindB (rdH b).1.type = 2) ∨ (((rdH b).1.type.toNat : Int) = 49 ∧ kindB (rdH b).1.type = 4) ∨ (((rdH b).1.type.toNat : Int) = 50 ∧ kindB (rdH b).1.type = 3) ∨ (((rdH b).1.type.toNat : Int) = 53 ∧ kindB (rdH b).1.type = 1) ∨ (((rdH b).1.type.toNat : Int) = 120 ∧ kindB (rdH b).1.type = 0) := by
  rcases rdH_type h with h | h | h | h | h <;> rw [h]
  · exact .inl ⟨rfl, rfl⟩
  · exact .inr (.inl ⟨rfl, rfl⟩)
  · exact .inr (.inr (.inl ⟨rfl, rfl⟩))
  · exact .inr (.inr (.inr (.inl ⟨rfl, rfl⟩)))
  · exact .inr (.inr (.inr (.inr ⟨rfl, rfl⟩)))
/-- the entry of a header, without its data -/
def mkE (h : Hd) : Ent := ⟨h.path, kindB h.type, h.mode, h.uid, h.gid, h.time, h.link, .nil⟩
end Go.Abs
namespace Go.Abs
open Am
set_option maxRecDepth 10000
set_option linter.unusedSimpArgs false
theorem s61no (b : BS) (hb : b.l.length ≤ 1000000000) (h : (rdH b).2.2 = false) : callT AA 61 [.ptr 0 0] [(0, .var [b.av])] = some (.tuple [.agg (entCs ⟨[], 0, 0, 0, 0, 0, [], .nil⟩ (.lit (.slice none 0 0))), .bool false], [(0, .var [(hdrR b).av])]) := by
  have h1 := s100r b hb
  rw [h] at h1
  simp only [Hd.av] at h1
  refine enter fn61 np61 rfl ?_
  have gg := trivial; repeat' first | simp (maxSteps := 2000000) (disch := omega) only [gg, b61, h1, go_sem] | (refine br ?_ ?_ <;> intro gg <;> try (exfalso; omega)) | (refine And.intro ?_ ?_; focus omega) | omega
set_option maxHeartbeats 40000000 in
theorem s61p (b : BS) (hb : b.l.length ≤ 1000000000) (h : (rdH b).2.2 = true) (c t : Bool) (l : List UInt8) (hbd : (rdH b).2.1 = .mk c t l) (hl : l.length ≤ 1000000000) (hx : (rdH b).1.type ≠ 120) :
    callT AA 61 [.ptr 0 0] [(0, .var [b.av])] = some (.tuple [.agg (entCs (mkE (rdH b).1) (.own 1 1 0 l.length false)), .bool true], [(0, .var [(hdrR b).av]), (1, .row (l.map .byte) 1)]) := by
  have h1 := s100r b hb
  have k1 := s102 1
  have k2 := s102 2
  have k3 := s102 3
  have k4 := s102 4
  have hc := s101 c t l (by omega)
  have e1 : ((typeB 1).toNat : Int) = 53 := rfl
  have e2 : ((typeB 2).toNat : Int) = 48 := rfl
  have e3 : ((typeB 3).toNat : Int) = 50 := rfl
  have e4 : ((typeB 4).toNat : Int) = 49 := rfl
  rw [e1] at k1
  rw [e2] at k2
  rw [e3] at k3
  rw [e4] at k4
  have hty := type_kind h
  have hx' : ¬ ((rdH b).1.type.toNat : Int) = 120 := by
    intro hh
    rcases rdH_type h with h0 | h0 | h0 | h0 | h0
    all_goals rw [h0] at hh hx
    all_goals first | exact hx rfl | (simp at hh)
  rw [h, hbd] at h1
  simp only [Hd.av, mk_av] at h1 hc
  unfold mkE
  generalize (rdH b).1 = H at *
  have ht := fun k => s103on l.length (l.map .byte) ⟨H.path, k, H.mode, H.uid, H.gid, H.time, H.link, .nil⟩
  simp only [entCs] at ht
  rcases hty with ⟨hT, hK⟩ | ⟨hT, hK⟩ | ⟨hT, hK⟩ | ⟨hT, hK⟩ | ⟨hT, hK⟩
  any_goals (exfalso; omega)
  all_goals rw [hT] at h1
  all_goals rw [hK]
  all_goals clear hT hK hx'
  all_goals refine enter fn61 np61 rfl ?_
  all_goals (have gg := trivial; repeat' first | simp (maxSteps := 2000000) (disch := omega) only [gg, b61, h1, hc, lp_head, go_sem] | (refine br ?_ ?_ <;> intro gg <;> try (exfalso; omega)) | (refine And.intro ?_ ?_; focus omega) | omega)
  all_goals refine hd_of (by unfold l61_0; rfl) ?_
  all_goals (have gg := trivial; repeat' first | simp (maxSteps := 2000000) (disch := omega) only [gg, k1, lp_head, Int.reduceAdd, go_sem] | (refine br ?_ ?_ <;> intro gg <;> try (exfalso; omega)) | (refine And.intro ?_ ?_; focus omega) | omega)
  all_goals refine hd_of (by unfold l61_0; rfl) ?_
  all_goals (have gg := trivial; repeat' first | simp (maxSteps := 2000000) (disch := omega) only [gg, k2, lp_head, Int.reduceAdd, go_sem] | (refine br ?_ ?_ <;> intro gg <;> try (exfalso; omega)) | (refine And.intro ?_ ?_; focus omega) | omega)
  all_goals refine hd_of (by unfold l61_0; rfl) ?_
  all_goals (have gg := trivial; repeat' first | simp (maxSteps := 2000000) (disch := omega) only [gg, k3, lp_head, Int.reduceAdd, go_sem] | (refine br ?_ ?_ <;> intro gg <;> try (exfalso; omega)) | (refine And.intro ?_ ?_; focus omega) | omega)
  all_goals refine hd_of (by unfold l61_0; rfl) ?_
  all_goals (have gg := trivial; repeat' first | simp (maxSteps := 2000000) (disch := omega) only [gg, k4, lp_head, Int.reduceAdd, go_sem] | (refine br ?_ ?_ <;> intro gg <;> try (exfalso; omega)) | (refine And.intro ?_ ?_; focus omega) | omega)
  all_goals refine hd_of (by unfold l61_0; rfl) ?_
  all_goals (have gg := trivial; repeat' first | simp (maxSteps := 2000000) (disch := omega) only [gg, r61_0, ht, entCs, go_sem] | (refine br ?_ ?_ <;> intro gg <;> try (exfalso; omega)) | (refine And.intro ?_ ?_; focus omega) | omega)
end Go.Abs
namespace Go.Abs
open Am
set_option maxRecDepth 10000
set_option linter.unusedSimpArgs false
theorem s61x (b : BS) (hb : b.l.length ≤ 1000000) (h : (rdH b).2.2 = true) (hty : (rdH b).1.type = 120) (hd : paxD (rdH b).2.1.l = none) : callT AA 61 [.ptr 0 0] [(0, .var [b.av])] = some (.tuple [.agg (entCs ⟨[], 0, 0, 0, 0, 0, [], .nil⟩ (.lit (.slice none 0 0))), .bool false], [(0, .var [(hdrR b).av])]) := by
  have h1 := s100r b (by omega)
  have h2 := s35 (rdH b).2.1 (Nat.le_trans (rdH_le b) hb)
  have hT : ((rdH b).1.type.toNat : Int) = 120 := by rw [hty]; rfl
  rw [hd] at h2
  simp only [pdV, pdH] at h2
  rw [h] at h1
  simp only [Hd.av] at h1
  rw [hT] at h1
  refine enter fn61 np61 rfl ?_
  have gg := trivial; repeat' first | simp (maxSteps := 2000000) (disch := omega) only [gg, b61, h1, h2, go_sem] | (refine br ?_ ?_ <;> intro gg <;> try (exfalso; omega)) | (refine And.intro ?_ ?_; focus omega) | omega
theorem s61xf (b : BS) (hb : b.l.length ≤ 1000000) (h : (rdH b).2.2 = true) (hty : (rdH b).1.type = 120) (rs : List Rcd) (hd : paxD (rdH b).2.1.l = some rs) (h' : (rdH (hdrR b)).2.2 = false) : callT AA 61 [.ptr 0 0] [(0, .var [b.av])] = some (.tuple [.agg (entCs ⟨[], 0, 0, 0, 0, 0, [], .nil⟩ (.lit (.slice none 0 0))), .bool false], [(0, .var [(hdrR (hdrR b)).av])]) := by
  have h1 := s100r b (by omega)
  have h3 := s100r (hdrR b) (by have := hdrR_le b; omega)
  have h2 := s35 (rdH b).2.1 (Nat.le_trans (rdH_le b) hb)
  have hT : ((rdH b).1.type.toNat : Int) = 120 := by rw [hty]; rfl
  rw [hd] at h2
  rw [h] at h1
  rw [h'] at h3
  simp only [Hd.av] at h1 h3
  rw [hT] at h1
  refine enter fn61 np61 rfl ?_
  cases rs with
  | nil =>
    simp only [pdV, pdH] at h2
    have gg := trivial; repeat' first | simp (maxSteps := 2000000) (disch := omega) only [gg, b61, h1, h2, h3, go_sem] | (refine br ?_ ?_ <;> intro gg <;> try (exfalso; omega)) | (refine And.intro ?_ ?_; focus omega) | omega
  | cons r rs =>
    simp only [pdV, pdH] at h2
    have gg := trivial; repeat' first | simp (maxSteps := 2000000) (disch := omega) only [gg, b61, h1, h2, h3, go_sem] | (refine br ?_ ?_ <;> intro gg <;> try (exfalso; omega)) | (refine And.intro ?_ ?_; focus omega) | omega
end Go.Abs
namespace Go.Abs
open Am
set_option maxRecDepth 10000
set_option linter.unusedSimpArgs false
set_option maxHeartbeats 40000000 in
theorem s61x1 (b : BS) (hb : b.l.length ≤ 1000000) (h : (rdH b).2.2 = true) (hx : (rdH b).1.type = 120) (r : Rcd) (rs : List Rcd) (hd : paxD (rdH b).2.1.l = some (r :: rs)) (h' : (rdH (hdrR b)).2.2 = true) (c t : Bool) (l : List UInt8) (hbd : (rdH (hdrR b)).2.1 = .mk c t l) (hl : l.length ≤ 1000000000) (hrs : ∀ x ∈ r :: rs, RcdOk x) (hrl : (r :: rs).length ≤ 1000000) :
    callT AA 61 [.ptr 0 0] [(0, .var [b.av])] = some (.tuple [.agg (entCs (toldE (mkE (rdH (hdrR b)).1) (r :: rs)).1 (.own 1 1 0 l.length false)), .bool (toldE (mkE (rdH (hdrR b)).1) (r :: rs)).2], [(0, .var [(hdrR (hdrR b)).av]), (1, .row (l.map .byte) 1)]) := by
  have h1 := s100r b (by omega)
  have h3 := s100r (hdrR b) (by have := hdrR_le b; omega)
  have h2 := s35 (rdH b).2.1 (Nat.le_trans (rdH_le b) hb)
  have k1 := s102 1
  have k2 := s102 2
  have k3 := s102 3
  have k4 := s102 4
  have hc := s101 c t l (by omega)
  have e1 : ((typeB 1).toNat : Int) = 53 := rfl
  have e2 : ((typeB 2).toNat : Int) = 48 := rfl
  have e3 : ((typeB 3).toNat : Int) = 50 := rfl
  have e4 : ((typeB 4).toNat : Int) = 49 := rfl
  rw [e1] at k1
  rw [e2] at k2
  rw [e3] at k3
  rw [e4] at k4
  rw [hd] at h2
  simp only [pdV, pdH] at h2
  rw [h] at h1
  have hty := type_kind h'
  rw [h', hbd] at h3
  simp only [Hd.av, mk_av] at h1 h3 hc
  have hTx : ((rdH b).1.type.toNat : Int) = 120 := by rw [hx]; rfl
  unfold mkE
  generalize (rdH (hdrR b)).1 = H at *
  rw [hTx] at h1
  clear hTx hx
  rcases hty with ⟨hT, hK⟩ | ⟨hT, hK⟩ | ⟨hT, hK⟩ | ⟨hT, hK⟩ | ⟨hT, hK⟩
  all_goals rw [hT] at h3
  all_goals rw [hK]
  all_goals clear hT hK
  all_goals have ht := fun cc tt k => s103o cc tt (r :: rs) hrl hrs l.length (l.map .byte) ⟨H.path, k, H.mode, H.uid, H.gid, H.time, H.link, .nil⟩
  all_goals generalize toldE = TE at *
  all_goals generalize r :: rs = L at *
  all_goals simp only [entCs] at ht
  all_goals refine enter fn61 np61 rfl ?_
  all_goals (have gg := trivial; repeat' first | simp (maxSteps := 2000000) (disch := omega) only [gg, b61, h1, h2, h3, hc, lp_head, go_sem] | (refine br ?_ ?_ <;> intro gg <;> try (exfalso; omega)) | (refine And.intro ?_ ?_; focus omega) | omega)
  all_goals refine hd_of (by unfold l61_0; rfl) ?_
  all_goals (have gg := trivial; repeat' first | simp (maxSteps := 2000000) (disch := omega) only [gg, k1, lp_head, Int.reduceAdd, go_sem] | (refine br ?_ ?_ <;> intro gg <;> try (exfalso; omega)) | (refine And.intro ?_ ?_; focus omega) | omega)
  all_goals refine hd_of (by unfold l61_0; rfl) ?_
  all_goals (have gg := trivial; repeat' first | simp (maxSteps := 2000000) (disch := omega) only [gg, k2, lp_head, Int.reduceAdd, go_sem] | (refine br ?_ ?_ <;> intro gg <;> try (exfalso; omega)) | (refine And.intro ?_ ?_; focus omega) | omega)
  all_goals refine hd_of (by unfold l61_0; rfl) ?_
  all_goals (have gg := trivial; repeat' first | simp (maxSteps := 2000000) (disch := omega) only [gg, k3, lp_head, Int.reduceAdd, go_sem] | (refine br ?_ ?_ <;> intro gg <;> try (exfalso; omega)) | (refine And.intro ?_ ?_; focus omega) | omega)
  all_goals refine hd_of (by unfold l61_0; rfl) ?_
  all_goals (have gg := trivial; repeat' first | simp (maxSteps := 2000000) (disch := omega) only [gg, k4, lp_head, Int.reduceAdd, go_sem] | (refine br ?_ ?_ <;> intro gg <;> try (exfalso; omega)) | (refine And.intro ?_ ?_; focus omega) | omega)
  all_goals refine hd_of (by unfold l61_0; rfl) ?_
  all_goals (have gg := trivial; repeat' first | simp (maxSteps := 2000000) (disch := omega) only [gg, r61_0, ht, entCs, go_sem] | (refine br ?_ ?_ <;> intro gg <;> try (exfalso; omega)) | (refine And.intro ?_ ?_; focus omega) | omega)
end Go.Abs
namespace Go.Abs
open Am
set_option maxRecDepth 10000
set_option linter.unusedSimpArgs false
set_option maxHeartbeats 40000000 in
theorem s61y1 (b : BS) (hb : b.l.length ≤ 1000000) (h : (rdH b).2.2 = true) (hx : (rdH b).1.type = 120) (hd : paxD (rdH b).2.1.l = some []) (h' : (rdH (hdrR b)).2.2 = true) (c t : Bool) (l : List UInt8) (hbd : (rdH (hdrR b)).2.1 = .mk c t l) (hl : l.length ≤ 1000000000) :
    callT AA 61 [.ptr 0 0] [(0, .var [b.av])] = some (.tuple [.agg (entCs (mkE (rdH (hdrR b)).1) (.own 1 1 0 l.length false)), .bool true], [(0, .var [(hdrR (hdrR b)).av]), (1, .row (l.map .byte) 1)]) := by
  have h1 := s100r b (by omega)
  have h3 := s100r (hdrR b) (by have := hdrR_le b; omega)
  have h2 := s35 (rdH b).2.1 (Nat.le_trans (rdH_le b) hb)
  have k1 := s102 1
  have k2 := s102 2
  have k3 := s102 3
  have k4 := s102 4
  have hc := s101 c t l (by omega)
  have e1 : ((typeB 1).toNat : Int) = 53 := rfl
  have e2 : ((typeB 2).toNat : Int) = 48 := rfl
  have e3 : ((typeB 3).toNat : Int) = 50 := rfl
  have e4 : ((typeB 4).toNat : Int) = 49 := rfl
  rw [e1] at k1
  rw [e2] at k2
  rw [e3] at k3
  rw [e4] at k4
  rw [hd] at h2
  simp only [pdV, pdH] at h2
  rw [h] at h1
  have hty := type_kind h'
  rw [h', hbd] at h3
  simp only [Hd.av, mk_av] at h1 h3 hc
  have hTx : ((rdH b).1.type.toNat : Int) = 120 := by rw [hx]; rfl
  unfold mkE
  generalize (rdH (hdrR b)).1 = H at *
  rw [hTx] at h1
  clear hTx hx
  rcases hty with ⟨hT, hK⟩ | ⟨hT, hK⟩ | ⟨hT, hK⟩ | ⟨hT, hK⟩ | ⟨hT, hK⟩
  all_goals rw [hT] at h3
  all_goals rw [hK]
  all_goals clear hT hK
  all_goals have ht := fun k => s103on l.length (l.map .byte) ⟨H.path, k, H.mode, H.uid, H.gid, H.time, H.link, .nil⟩
  all_goals simp only [entCs] at ht
  all_goals refine enter fn61 np61 rfl ?_
  all_goals (have gg := trivial; repeat' first | simp (maxSteps := 2000000) (disch := omega) only [gg, b61, h1, h2, h3, hc, lp_head, go_sem] | (refine br ?_ ?_ <;> intro gg <;> try (exfalso; omega)) | (refine And.intro ?_ ?_; focus omega) | omega)
  all_goals refine hd_of (by unfold l61_0; rfl) ?_
  all_goals (have gg := trivial; repeat' first | simp (maxSteps := 2000000) (disch := omega) only [gg, k1, lp_head, Int.reduceAdd, go_sem] | (refine br ?_ ?_ <;> intro gg <;> try (exfalso; omega)) | (refine And.intro ?_ ?_; focus omega) | omega)
  all_goals refine hd_of (by unfold l61_0; rfl) ?_
  all_goals (have gg := trivial; repeat' first | simp (maxSteps := 2000000) (disch := omega) only [gg, k2, lp_head, Int.reduceAdd, go_sem] | (refine br ?_ ?_ <;> intro gg <;> try (exfalso; omega)) | (refine And.intro ?_ ?_; focus omega) | omega)
  all_goals refine hd_of (by unfold l61_0; rfl) ?_
  all_goals (have gg := trivial; repeat' first | simp (maxSteps := 2000000) (disch := omega) only [gg, k3, lp_head, Int.reduceAdd, go_sem] | (refine br ?_ ?_ <;> intro gg <;> try (exfalso; omega)) | (refine And.intro ?_ ?_; focus omega) | omega)
  all_goals refine hd_of (by unfold l61_0; rfl) ?_
  all_goals (have gg := trivial; repeat' first | simp (maxSteps := 2000000) (disch := omega) only [gg, k4, lp_head, Int.reduceAdd, go_sem] | (refine br ?_ ?_ <;> intro gg <;> try (exfalso; omega)) | (refine And.intro ?_ ?_; focus omega) | omega)
  all_goals refine hd_of (by unfold l61_0; rfl) ?_
  all_goals (have gg := trivial; repeat' first | simp (maxSteps := 2000000) (disch := omega) only [gg, r61_0, ht, entCs, go_sem] | (refine br ?_ ?_ <;> intro gg <;> try (exfalso; omega)) | (refine And.intro ?_ ?_; focus omega) | omega)
end Go.Abs
namespace Go.Abs
open Am
set_option maxRecDepth 10000
set_option linter.unusedSimpArgs false
/-- the next entry, what is left behind it -/
def entP (b : BS) : Option (Ent × BS) :=
  if (rdH b).2.2 = false then none else
  if (rdH b).1.type = 120 then
    match paxD (rdH b).2.1.l with
    | none => none
    | some rs => if (rdH (hdrR b)).2.2 = false then none else
      if (toldE (mkE (rdH (hdrR b)).1) rs).2 = true then some ({ (toldE (mkE (rdH (hdrR b)).1) rs).1 with data := .mk false false (rdH (hdrR b)).2.1.l }, hdrR (hdrR b)) else none
  else some ({ mkE (rdH b).1 with data := .mk false false (rdH b).2.1.l }, hdrR b)
theorem decP_ok : ∀ (k : Nat) (p : Option Rcd) (acc : List Rcd) (l : List UInt8) (rs : List Rcd), decP k p acc l = some rs → (∀ r ∈ acc, r.key.length ≤ 65536 ∧ r.value.length ≤ 65536) → l.length ≤ 65536 → (∀ r ∈ rs, r.key.length ≤ 65536 ∧ r.value.length ≤ 65536) ∧ rs.length ≤ acc.length + k
  | 0, p, acc, l, rs, h, ha, hl => by
    unfold decP at h
    cases h
    exact ⟨ha, by omega⟩
  | k + 1, p, acc, l, rs, h, ha, hl => by
    unfold decP at h
    by_cases c0 : l = []
    · rw [if_pos c0] at h
      cases h
      exact ⟨ha, by omega⟩
    rw [if_neg c0] at h
    by_cases c1 : (firstP l).2 = 0 ∨ aftB p (firstP l).1 = false
    · rw [if_pos c1] at h
      cases h
    rw [if_neg c1] at h
    have hf := firstP_le l
    obtain ⟨h1, h2⟩ := decP_ok k _ _ _ _ h (by
      intro r hr
      rcases List.mem_append.1 hr with hr | hr
      · exact ha r hr
      · rw [List.mem_singleton.1 hr]
        omega) (by rw [List.length_drop]; omega)
    rw [List.length_append, List.length_singleton] at h2
    exact ⟨h1, by omega⟩
theorem paxD_ok {l : List UInt8} {rs : List Rcd} (h : paxD l = some rs) : (∀ r ∈ rs, RcdOk r) ∧ rs.length ≤ 1000000 := by
  unfold paxD at h
  by_cases c : 65536 < l.length
  · rw [if_pos c] at h
    cases h
  rw [if_neg c] at h
  obtain ⟨h1, h2⟩ := decP_ok _ _ _ _ _ h (by simp) (by omega)
  refine ⟨fun r hr => ?_, ?_⟩
  · have := h1 r hr
    exact ⟨by omega, by omega⟩
  · simp at h2
    omega
theorem rdH_mk {b : BS} (h : (rdH b).2.2 = true) : ∃ c t l, (rdH b).2.1 = .mk c t l := by
  unfold rdH at h ⊢
  by_cases c1 : b.l.length < 512 ∨ decOk (b.sl 0 512).l = false
  · rw [if_pos c1] at h
    cases h
  · rw [if_neg c1] at h ⊢
    by_cases c2 : wholeN (decH (b.sl 0 512).l).size ≤ (b.sl 512 b.l.length).l.length
    · rw [if_pos c2]
      cases b with
      | nil => exact (c1 (.inl (by simp [BS.l]))).elim
      | mk c t l => exact ⟨_, _, _, rfl⟩
    · rw [if_neg c2] at h
      cases h
/-- what an entry's reading gives -/
def EntR (b : BS) : Prop := match entP b with
  | some (e, r) => callT AA 61 [.ptr 0 0] [(0, .var [b.av])] = some (.tuple [.agg (entCs e (.own 1 1 0 e.data.l.length false)), .bool true], [(0, .var [r.av]), (1, .row (e.data.l.map .byte) 1)])
  | none => (∃ e r, callT AA 61 [.ptr 0 0] [(0, .var [b.av])] = some (.tuple [.agg (entCs e (.lit (.slice none 0 0))), .bool false], [(0, .var [BS.av r])])) ∨
    (∃ e r l, callT AA 61 [.ptr 0 0] [(0, .var [b.av])] = some (.tuple [.agg (entCs e (.own 1 1 0 (List.length l) false)), .bool false], [(0, .var [BS.av r]), (1, .row (l.map .byte) 1)]))
theorem s61f (b : BS) (hb : b.l.length ≤ 1000000) : EntR b := by
  unfold EntR entP
  by_cases c0 : (rdH b).2.2 = false
  · rw [if_pos c0]
    exact .inl ⟨_, _, s61no b (by omega) c0⟩
  rw [if_neg c0]
  have c0 : (rdH b).2.2 = true := by simpa using c0
  obtain ⟨c, t, l, hbd⟩ := rdH_mk c0
  have hl : l.length ≤ 1000000 := by
    have := rdH_le b
    rw [hbd, mk_l] at this
    omega
  by_cases c1 : (rdH b).1.type = 120
  · rw [if_pos c1]
    cases c2 : paxD (rdH b).2.1.l with
    | none => exact .inl ⟨_, _, s61x b hb c0 c1 c2⟩
    | some rs =>
      simp only
      by_cases c3 : (rdH (hdrR b)).2.2 = false
      · rw [if_pos c3]
        exact .inl ⟨_, _, s61xf b hb c0 c1 rs c2 c3⟩
      rw [if_neg c3]
      have c3 : (rdH (hdrR b)).2.2 = true := by simpa using c3
      obtain ⟨c', t', l', hbd'⟩ := rdH_mk c3
      have hl' : l'.length ≤ 1000000000 := by
        have h1 := rdH_le (hdrR b)
        have h2 := hdrR_le b
        rw [hbd', mk_l] at h1
        omega
      have hrs := paxD_ok c2
      have key : callT AA 61 [.ptr 0 0] [(0, .var [b.av])] = some (.tuple [.agg (entCs (toldE (mkE (rdH (hdrR b)).1) rs).1 (.own 1 1 0 l'.length false)), .bool (toldE (mkE (rdH (hdrR b)).1) rs).2], [(0, .var [(hdrR (hdrR b)).av]), (1, .row (l'.map .byte) 1)]) := by
        cases rs with
        | nil => exact s61y1 b hb c0 c1 c2 c3 c' t' l' hbd' hl'
        | cons r rs => exact s61x1 b hb c0 c1 r rs c2 c3 c' t' l' hbd' hl' hrs.1 hrs.2
      have hb1 : (rdH (hdrR b)).2.1.l = l' := by rw [hbd']; rfl
      rw [hb1]
      by_cases c4 : (toldE (mkE (rdH (hdrR b)).1) rs).2 = true
      · rw [if_pos c4]
        rw [c4] at key
        exact key
      · rw [if_neg c4]
        have c4 : (toldE (mkE (rdH (hdrR b)).1) rs).2 = false := by simpa using c4
        rw [c4] at key
        exact .inr ⟨_, _, _, key⟩
  · rw [if_neg c1]
    have hb1 : (rdH b).2.1.l = l := by rw [hbd]; rfl
    rw [hb1]
    show callT AA 61 [.ptr 0 0] [(0, .var [b.av])] = some (.tuple [.agg (entCs (mkE (rdH b).1) (.own 1 1 0 l.length false)), .bool true], [(0, .var [(hdrR b).av]), (1, .row (l.map .byte) 1)])
    exact s61p b (by omega) c0 c t l hbd (by omega) c1
end Go.Abs
namespace Go.Abs
open Am
set_option maxRecDepth 10000
set_option linter.unusedSimpArgs false
theorem good_le {s : List UInt8} (h : goodB s = true) : s.length ≤ 400 := by
  unfold goodB at h
  simp only [Bool.and_eq_true, decide_eq_true_eq] at h
  exact h.1
theorem good_ne {s : List UInt8} (h : goodB s = true) : s ≠ [] := by
  rintro rfl
  have : goodB [] = false := by decide
  rw [this] at h
  cases h
theorem text_ne {s : List UInt8} {n : Int} (h : textB s n = true) : s ≠ [] ∧ (s.length : Int) ≤ n := by
  unfold textB at h
  simp only [Bool.and_eq_true, decide_eq_true_eq] at h
  exact ⟨h.1.1.1, h.1.1.2⟩
theorem meta_le {n least : Int} (h : metaB n least = true) : least ≤ n ∧ n ≤ 1099511627776 := by
  unfold metaB at h
  simpa using h
/-- what good fields are -/
structure FieldsOk (e : Ent) : Prop where
  mode : 0 ≤ e.mode ∧ e.mode ≤ 4095
  uid : 0 ≤ e.uid ∧ e.uid ≤ 1099511627776
  gid : 0 ≤ e.gid ∧ e.gid ≤ 1099511627776
  time : -1099511627776 ≤ e.time ∧ e.time ≤ 1099511627776
  link : e.link.length ≤ 400
  data : e.data.l.length ≤ 65536
  kinds : (e.kind = 1 ∧ e.link = [] ∧ e.data.l.length = 0) ∨ (e.kind = 2 ∧ e.link = []) ∨ (e.kind = 3 ∧ e.link ≠ [] ∧ e.data.l.length = 0) ∨ (e.kind = 4 ∧ e.link ≠ [] ∧ e.data.l.length = 0)
theorem fields_ok {e : Ent} (h : fieldsB e = true) : FieldsOk e := by
  unfold fieldsB at h
  by_cases c1 : e.mode < 0 ∨ 4095 < e.mode
  · rw [if_pos c1] at h; cases h
  rw [if_neg c1] at h
  by_cases c2 : metaB e.uid 0 = false ∨ metaB e.gid 0 = false ∨ metaB e.time (-1099511627776) = false
  · rw [if_pos c2] at h; cases h
  rw [if_neg c2] at h
  have m1 : metaB e.uid 0 = true := by
    cases hm : metaB e.uid 0 with
    | true => rfl
    | false => exact (c2 (.inl hm)).elim
  have m2 : metaB e.gid 0 = true := by
    cases hm : metaB e.gid 0 with
    | true => rfl
    | false => exact (c2 (.inr (.inl hm))).elim
  have m3 : metaB e.time (-1099511627776) = true := by
    cases hm : metaB e.time (-1099511627776) with
    | true => rfl
    | false => exact (c2 (.inr (.inr hm))).elim
  have m1 := meta_le m1
  have m2 := meta_le m2
  have m3 := meta_le m3
  have key : e.link.length ≤ 400 ∧ e.data.l.length ≤ 65536 ∧ ((e.kind = 1 ∧ e.link = [] ∧ e.data.l.length = 0) ∨ (e.kind = 2 ∧ e.link = []) ∨ (e.kind = 3 ∧ e.link ≠ [] ∧ e.data.l.length = 0) ∨ (e.kind = 4 ∧ e.link ≠ [] ∧ e.data.l.length = 0)) := by
    by_cases k1 : e.kind = 1
    · rw [if_pos k1] at h
      simp only [Bool.and_eq_true, decide_eq_true_eq] at h
      exact ⟨by rw [h.1]; simp, by omega, .inl ⟨k1, h.1, h.2⟩⟩
    rw [if_neg k1] at h
    by_cases k2 : e.kind = 2
    · rw [if_pos k2] at h
      simp only [Bool.and_eq_true, decide_eq_true_eq] at h
      exact ⟨by rw [h.1]; simp, by omega, .inr (.inl ⟨k2, h.1⟩)⟩
    rw [if_neg k2] at h
    by_cases k3 : e.kind = 3
    · rw [if_pos k3] at h
      simp only [Bool.and_eq_true, decide_eq_true_eq] at h
      have ht := text_ne h.1
      exact ⟨by omega, by omega, .inr (.inr (.inl ⟨k3, ht.1, h.2⟩))⟩
    rw [if_neg k3] at h
    by_cases k4 : e.kind = 4
    · rw [if_pos k4] at h
      simp only [Bool.and_eq_true, decide_eq_true_eq] at h
      exact ⟨good_le h.1.1.1.1.1, by omega, .inr (.inr (.inr ⟨k4, good_ne h.1.1.1.1.1, h.1.1.1.1.2⟩))⟩
    rw [if_neg k4] at h
    cases h
  exact ⟨by omega, by omega, by omega, by omega, key.1, key.2.1, key.2.2⟩
theorem entryE_good {c : Ck} {e : Ent} (h : (entryE c e).1 = 0) : goodB e.path = true ∧ fieldsB e = true := by
  unfold entryE at h
  by_cases g1 : goodB e.path = false
  · rw [if_pos g1] at h; simp at h
  rw [if_neg g1] at h
  by_cases g2 : fieldsB e = false
  · rw [if_pos g2] at h; simp at h
  exact ⟨by simpa using g1, by simpa using g2⟩
theorem checkL_good : ∀ (t : List Ent) (c : Ck) (i : Int), 0 ≤ i → (checkL c i t).2 = 0 → ∀ e ∈ t, goodB e.path = true ∧ fieldsB e = true
  | [], _, _, _, _, e, he => by cases he
  | e :: r, c, i, hi, h, x, hx => by
    unfold checkL at h
    by_cases g : (entryE c e).1 = 0
    · rw [if_pos g] at h
      rcases List.mem_cons.1 hx with rfl | hx
      · exact entryE_good g
      · exact checkL_good r _ (i + 1) (by omega) h x hx
    · rw [if_neg g] at h
      exact (g h).elim
theorem checkT_good {t : List Ent} (h : (checkT t).2 = 0) : t.length ≤ 200 ∧ ∀ e ∈ t, goodB e.path = true ∧ fieldsB e = true := by
  unfold checkT at h
  by_cases c : 200 < t.length
  · rw [if_pos c] at h; simp at h
  · rw [if_neg c] at h
    exact ⟨by omega, checkL_good t _ 0 (by omega) h⟩
theorem hdrE_eq (e : Ent) : hdrE e (recsE e) = ⟨if (splitN e.path).2.2 then e.path else paxB, e.mode, if idB e.uid then e.uid else 0, if idB e.gid then e.gid else 0, e.data.l.length, if timeB e.time then e.time else 0, typeB e.kind, if linkE e.link then e.link else paxB⟩ := by
  unfold hdrE recsE rst3 rst4 rst5 rst6 rst7
  cases idB e.gid <;> cases linkE e.link <;> cases timeB e.time <;> cases (splitN e.path).2.2 <;> cases idB e.uid <;> simp [recIf, setR, hdE, gidB, linkpathB, mtimeB, pathB, uidB]
theorem split_paxB : (splitN paxB).2.2 = true := by decide
theorem link_paxB : linkB paxB = true := by unfold linkB; decide
theorem linkE_ne {l : List UInt8} (h : l ≠ []) : linkE l = linkB l := by
  unfold linkE
  simp [h]
theorem idB_zero : idB 0 = true := idB_iff.2 (by omega)
theorem timeB_zero : timeB 0 = true := timeB_iff.2 (by omega)
theorem encOk_hdrE {e : Ent} (h : FieldsOk e) : encOk (hdrE e (recsE e)) = true := by
  rw [hdrE_eq]
  unfold encOk fitsB
  simp only [Bool.and_eq_true]
  refine ⟨?_, ⟨⟨⟨⟨?_, ?_⟩, ?_⟩, ?_⟩, ?_⟩, ?_⟩
  · split
    · assumption
    · exact split_paxB
  · exact idB_iff.2 (by have := h.mode; omega)
  · split
    · assumption
    · exact idB_zero
  · split
    · assumption
    · exact idB_zero
  · exact timeB_iff.2 (by have := h.data; omega)
  · split
    · assumption
    · exact timeB_zero
  · rcases h.kinds with ⟨k, hl, hd⟩ | ⟨k, hl⟩ | ⟨k, hl, hd⟩ | ⟨k, hl, hd⟩
    · have hn : linkE ([] : List UInt8) = true := rfl
      simp [k, hl, hd, typeB, hn]
    · have hn : linkE ([] : List UInt8) = true := rfl
      simp [k, hl, typeB, hn]
    · rw [linkE_ne hl]
      cases hb : linkB e.link <;> simp [k, hd, typeB, hb, link_paxB]
    · rw [linkE_ne hl]
      cases hb : linkB e.link <;> simp [k, hd, typeB, hb, link_paxB]
theorem paxE_some : ∀ (rs : List Rcd) (p : Option Rcd) (out : List UInt8), (∀ r ∈ rs, lineOk r.key r.value = true ∧ (lineB r.key r.value).length ≤ 600) → (match p with | none => rs | some p => p :: rs).Pairwise (fun a b : Rcd => Op.bytesLess a.key b.key = true) → out.length + 600 * rs.length ≤ 65536 → (paxE p out rs).isSome = true
  | [], _, _, _, _, _ => rfl
  | r :: rs, p, out, h1, h2, h3 => by
    obtain ⟨g1, g2⟩ := h1 r (by simp)
    simp only [List.length_cons] at h3
    have hs : paxStep p out r = true := by
      unfold paxStep
      simp only [Bool.and_eq_true, decide_eq_true_eq]
      refine ⟨⟨g1, ?_⟩, by omega⟩
      cases p with
      | none => rfl
      | some p => exact (List.pairwise_cons.1 h2).1 r (by simp)
    unfold paxE
    rw [if_pos hs]
    refine paxE_some rs (some r) _ (fun x hx => h1 x (by simp [hx])) ?_ ?_
    · cases p with
      | none => exact h2
      | some p => exact (List.pairwise_cons.1 h2).2
    · rw [List.length_append]
      omega
theorem lineOk_short {k v : List UInt8} (hk : kwB k = true) (hv : v.length ≤ 400) : lineOk k v = true ∧ (lineB k v).length ≤ 600 := by
  have hkl : k.length ≤ 100 := by
    unfold kwB at hk
    simp only [Bool.and_eq_true, decide_eq_true_eq] at hk
    exact hk.1.2
  have h1 := restP_length (k := k) (v := v)
  have h2 := paxLen_le (rest := ((restP k v).length : Int)) (by omega) (by omega)
  have h3 := lineB_length hkl (v := v) (by omega)
  unfold lineOk
  refine ⟨?_, by omega⟩
  simp only [Bool.and_eq_true, decide_eq_true_eq]
  exact ⟨⟨hk, by omega⟩, by omega⟩
theorem recs_keys (e : Ent) : ((recsE e).map Rcd.key).Pairwise (fun a b => Op.bytesLess a b = true) := by
  unfold recsE rst3 rst4 rst5 rst6 rst7
  cases idB e.gid <;> cases linkE e.link <;> cases timeB e.time <;> cases (splitN e.path).2.2 <;> cases idB e.uid <;> simp only [recIf, if_true, if_false, List.nil_append, List.cons_append, List.map_cons, List.map_nil, Bool.false_eq_true] <;> decide
theorem recs_short {e : Ent} (hf : FieldsOk e) (hp : e.path.length ≤ 400) : ∀ r ∈ recsE e, kwB r.key = true ∧ r.value.length ≤ 400 := by
  have k1 : kwB gidB = true := by decide
  have k2 : kwB linkpathB = true := by decide
  have k3 : kwB mtimeB = true := by decide
  have k4 : kwB pathB = true := by decide
  have k5 : kwB uidB = true := by decide
  have v1 := itoa_le (n := e.gid) (by have := hf.gid; omega) (by have := hf.gid; omega)
  have v3 := itoa_le (n := e.time) (by have := hf.time; omega) (by have := hf.time; omega)
  have v5 := itoa_le (n := e.uid) (by have := hf.uid; omega) (by have := hf.uid; omega)
  have v2 := hf.link
  have key : ∀ (f : Bool) (k v : List UInt8), kwB k = true → v.length ≤ 400 → ∀ r ∈ recIf f k v, kwB r.key = true ∧ r.value.length ≤ 400 := by
    intro f k v hk hv r hr
    unfold recIf at hr
    cases f with
    | true => simp at hr
    | false => simp at hr; subst hr; exact ⟨hk, hv⟩
  intro r hr
  unfold recsE rst3 rst4 rst5 rst6 rst7 at hr
  simp only [List.mem_append] at hr
  rcases hr with hr | hr | hr | hr | hr
  · exact key _ _ _ k1 (by omega) r hr
  · exact key _ _ _ k2 (by omega) r hr
  · exact key _ _ _ k3 (by omega) r hr
  · exact key _ _ _ k4 (by omega) r hr
  · exact key _ _ _ k5 (by omega) r hr
theorem recs_some {e : Ent} (hf : FieldsOk e) (hp : e.path.length ≤ 400) : (paxE none [] (recsE e)).isSome = true := by
  refine paxE_some _ none [] (fun r hr => ?_) ?_ ?_
  · obtain ⟨h1, h2⟩ := recs_short hf hp r hr
    exact lineOk_short h1 h2
  · exact List.pairwise_map.1 (recs_keys e)
  · have := recsE_length e
    simp
    omega
theorem dec_digit {u : Nat} : ∀ c ∈ Lib.decDigits u, 48 ≤ c.toNat ∧ c.toNat ≤ 57 := by
  intro c hc
  rw [Lib.decDigits_eq] at hc
  obtain ⟨t, _, rfl⟩ := List.mem_map.1 hc
  unfold Lib.dg
  have h : (UInt8.ofNat (48 + u / 10 ^ (Lib.nDigits u - 1 - t) % 10)).toNat = 48 + u / 10 ^ (Lib.nDigits u - 1 - t) % 10 := UInt8.toNat_ofNat_of_lt' (by simp [UInt8.size]; omega)
  rw [h]
  omega
theorem itoa_nat (n : Nat) : Lib.itoa n = Lib.decDigits n := by
  unfold Lib.itoa
  rw [if_neg (by omega)]
  rfl
theorem split_num (n : Nat) (hn : n < 201) : (splitN ([112, 97, 120, 47] ++ Lib.itoa n)).2.2 = true := by
  have h1 := itoa_le (n := (n : Int)) (by omega) (by omega)
  have ha : asciiB ([112, 97, 120, 47] ++ Lib.itoa n) = true := by
    unfold asciiB
    rw [List.all_append, itoa_nat]
    simp only [Bool.and_eq_true]
    refine ⟨rfl, List.all_eq_true.2 fun c hc => ?_⟩
    have := dec_digit c hc
    unfold okByte
    simp only [decide_eq_true_eq]
    omega
  unfold splitN
  rw [if_neg (by rw [ha]; simp), if_pos (by simp; omega)]
theorem encOk_hdX {n : Nat} (hn : n < 201) {body : List UInt8} (hb : body.length ≤ 65536) : encOk (hdX n body) = true := by
  unfold encOk hdX fitsB
  simp only [Bool.and_eq_true]
  refine ⟨split_num n hn, ⟨⟨⟨⟨idB_zero, idB_zero⟩, idB_zero⟩, timeB_iff.2 (by omega)⟩, timeB_zero⟩, ?_⟩
  simp
theorem entB_of {e : Ent} (hf : FieldsOk e) (hp : e.path.length ≤ 400) : EntB e := by
  have := hf.gid; have := hf.uid; have := hf.time; have := hf.link
  refine ⟨?_, ?_, ?_, ?_, ?_, ?_, ?_, ?_⟩ <;> omega
theorem pieceOk_of {e : Ent} (hf : FieldsOk e) (hp : e.path.length ≤ 400) {n : Nat} (hn : n < 201) : pieceOk n e := by
  refine ⟨encOk_hdrE hf, fun _ => ⟨recs_some hf hp, encOk_hdX hn ?_⟩⟩
  unfold bodyE
  obtain ⟨o, ho⟩ := Option.isSome_iff_exists.1 (recs_some hf hp)
  rw [ho]
  exact paxE_le _ _ _ _ (by simp) ho
theorem piecesOk_of : ∀ (t : List Ent) (i : Nat), i + t.length ≤ 200 → (∀ e ∈ t, goodB e.path = true ∧ fieldsB e = true) → PiecesOk i t
  | [], _, _, _ => trivial
  | e :: r, i, h, hg => by
    obtain ⟨g1, g2⟩ := hg e (by simp)
    have hf := fields_ok g2
    have hp := good_le g1
    simp only [List.length_cons] at h
    exact ⟨entB_of hf hp, by have := hf.data; omega, pieceOk_of hf hp (by omega), piecesOk_of r (i + 1) (by omega) fun x hx => hg x (by simp [hx])⟩
theorem fieldsB_cp {e : Ent} : fieldsB e.cp = fieldsB e := by
  unfold fieldsB
  show (if e.mode < 0 ∨ 4095 < e.mode then false else _) = _
  have : e.cp.data.l = e.data.l := cp_l
  rw [this]
  rfl
theorem checkT_pieces {t : List Ent} (h : (checkT (t.map Ent.cp)).2 = 0) : PiecesOk 0 t := by
  obtain ⟨h1, h2⟩ := checkT_good h
  rw [List.length_map] at h1
  refine piecesOk_of t 0 (by omega) fun e he => ?_
  have := h2 e.cp (List.mem_map_of_mem he)
  rw [fieldsB_cp] at this
  exact this
end Go.Abs
namespace Go.Abs
open Am
set_option maxRecDepth 10000
set_option linter.unusedSimpArgs false
theorem parse_app : ∀ (a b : List UInt8) (acc u : Nat), Lib.parseUint10 acc a = .ok u → Lib.parseUint10 acc (a ++ b) = Lib.parseUint10 u b
  | [], b, acc, u, h => by
    simp only [Lib.parseUint10] at h
    cases h
    rfl
  | c :: a, b, acc, u, h => by
    simp only [Lib.parseUint10, List.cons_append] at h ⊢
    by_cases c1 : 48 ≤ c.toNat ∧ c.toNat ≤ 57
    · rw [if_pos c1] at h ⊢
      by_cases c2 : 1844674407370955162 ≤ acc
      · rw [if_pos c2] at h; cases h
      rw [if_neg c2] at h ⊢
      by_cases c3 : 18446744073709551616 ≤ acc * 10 + (c.toNat - 48)
      · rw [if_pos c3] at h; cases h
      rw [if_neg c3] at h ⊢
      exact parse_app a b _ u h
    · rw [if_neg c1] at h; cases h
theorem dg_toNat {k : Nat} (h : k < 10) : (UInt8.ofNat (48 + k)).toNat = 48 + k := UInt8.toNat_ofNat_of_lt' (by simp [UInt8.size]; omega)
theorem parse_dec (u : Nat) : u < 9223372036854775808 → Lib.parseUint10 0 (Lib.decDigits u) = .ok u := by
  induction u using Nat.strongRecOn with
  | _ u ih =>
    intro hu
    by_cases h : u < 10
    · rw [Lib.decDigits, dif_pos h]
      simp only [Lib.parseUint10]
      rw [dg_toNat h, if_pos (by omega), if_neg (by omega), if_neg (by omega)]
      simp
    · rw [Lib.decDigits, dif_neg h, parse_app _ _ _ _ (ih (u / 10) (by omega) (by omega))]
      simp only [Lib.parseUint10]
      rw [dg_toNat (by omega), if_pos (by omega), if_neg (by omega), if_neg (by omega)]
      congr 1
      omega
theorem dec_ne (u : Nat) : Lib.decDigits u ≠ [] := by
  intro h
  have := congrArg List.length h
  rw [Lib.decDigits_length] at this
  have := Lib.nDigits_pos u
  simp at *
  omega
theorem atoi_itoa {n : Int} (h1 : -9223372036854775808 ≤ n) (h2 : n ≤ 9223372036854775807) : Lib.atoiAll (Lib.itoa n) = .ok n := by
  unfold Lib.itoa
  by_cases hn : n < 0
  · rw [if_pos hn]
    unfold Lib.atoiAll
    simp only []
    have h45 : (45 : UInt8).toNat = 45 := rfl
    rw [h45, if_pos (by omega)]
    unfold Lib.parseMag
    rw [if_neg (dec_ne _)]
    by_cases hm : n = -9223372036854775808
    · subst hm
      have : Lib.parseUint10 0 (Lib.decDigits (-9223372036854775808 : Int).natAbs) = .ok 9223372036854775808 := by
        have e : (-9223372036854775808 : Int).natAbs = 9223372036854775808 := rfl
        rw [e, Lib.decDigits, dif_neg (by omega), parse_app _ _ _ _ (parse_dec (9223372036854775808 / 10) (by omega))]
        simp only [Lib.parseUint10]
        rw [dg_toNat (by omega), if_pos (by omega), if_neg (by omega), if_neg (by omega)]
      rw [this]
      rfl
    · rw [parse_dec _ (by omega)]
      simp only []
      rw [if_neg (by simp), if_neg (by omega), if_pos trivial]
      congr 1
      omega
  · rw [if_neg hn]
    obtain ⟨c, r, hc⟩ : ∃ c r, Lib.decDigits n.toNat = c :: r := List.exists_cons_of_ne_nil (dec_ne _)
    have hd := dec_digit (u := n.toNat) c (by rw [hc]; simp)
    have hp := parse_dec n.toNat (by omega)
    rw [hc] at hp ⊢
    unfold Lib.atoiAll
    simp only []
    rw [if_neg (by omega)]
    unfold Lib.parseMag
    rw [if_neg (by simp), hp]
    simp only []
    rw [if_neg (by omega), if_neg (by omega), if_neg (by omega)]
    congr 1
    omega
theorem atoiV_itoa {n : Int} (h1 : -9223372036854775808 ≤ n) (h2 : n ≤ 9223372036854775807) : atoiV (Lib.itoa n) = n ∧ atoiOk (Lib.itoa n) = true := by
  unfold atoiV atoiOk
  rw [atoi_itoa h1 h2]
  exact ⟨rfl, rfl⟩
theorem lenF_fix (rest : Int) (hr : 0 ≤ rest) (hr' : rest ≤ 1000000) : ∀ (k : Nat) (n d : Int), n = rest + d → 7 ≤ d + k → 1 ≤ d → d ≤ 7 → d ≤ digs n → lenF rest k n = rest + digs (lenF rest k n)
  | 0, n, d, h1, h2, h3, h4, h5 => by
    have h6 := digs_le7 (a := n) (by omega) (by omega)
    unfold lenF
    omega
  | k + 1, n, d, h1, h2, h3, h4, h5 => by
    have h6 := digs_le7 (a := n) (by omega) (by omega)
    unfold lenF
    by_cases hn : n = rest + digs n
    · rw [if_pos hn]
      exact hn
    · rw [if_neg hn]
      have hm := digs_mono (a := n) (b := rest + digs n) (by omega) (by omega)
      exact lenF_fix rest hr hr' k (rest + digs n) (digs n) rfl (by omega) (by omega) h6 hm
theorem paxLen_fix {rest : Int} (hr : 0 ≤ rest) (hr' : rest ≤ 1000000) : paxLen rest = rest + digs (paxLen rest) :=
  lenF_fix rest hr hr' 6 (rest + 1) 1 rfl (by omega) (by omega) (by omega) (digs_pos (by omega))
theorem lineB_len {k v : List UInt8} (h : (restP k v).length ≤ 1000000) : ((lineB k v).length : Int) = paxLen (restP k v).length := by
  have := paxLen_fix (rest := ((restP k v).length : Int)) (by omega) (by omega)
  unfold lineB
  rw [List.length_append]
  unfold digs at this
  omega
theorem indexByte_app (c : UInt8) : ∀ (a r : List UInt8), (∀ x ∈ a, x ≠ c) → Lib.indexByte (a ++ c :: r) c = a.length
  | [], r, _ => by simp [Lib.indexByte]
  | x :: a, r, h => by
    have hx : x ≠ c := h x (by simp)
    have ih := indexByte_app c a r fun y hy => h y (by simp [hy])
    simp only [List.cons_append, Lib.indexByte]
    have hb : (x == c) = false := by simpa using hx
    rw [hb, ih]
    simp
theorem kw_ne {k : List UInt8} (hk : kwB k = true) : ∀ x ∈ k, x ≠ 61 := by
  unfold kwB at hk
  simp only [Bool.and_eq_true] at hk
  intro x hx
  have := List.all_eq_true.1 hk.2 x hx
  unfold kwByte at this
  simp only [Bool.and_eq_true, decide_eq_true_eq] at this
  rintro rfl
  exact this.2 rfl
theorem firstP_line {k v r : List UInt8} (h : lineOk k v = true) : firstP (lineB k v ++ r) = ((⟨k, v⟩ : Rcd), ((lineB k v).length : Int)) := by
  have hlo := h
  unfold lineOk at h
  simp only [Bool.and_eq_true, decide_eq_true_eq] at h
  obtain ⟨⟨hk, hv⟩, hp⟩ := h
  have hkl : k.length ≤ 100 := by
    unfold kwB at hk
    simp only [Bool.and_eq_true, decide_eq_true_eq] at hk
    exact hk.1.2
  have hrl := restP_length (k := k) (v := v)
  have hN := lineB_len (k := k) (v := v) (by omega)
  have hpl := paxLen_le (rest := ((restP k v).length : Int)) (by omega) (by omega)
  generalize hNN : paxLen ((restP k v).length : Int) = N at *
  have hat := atoiV_itoa (n := N) (by omega) (by omega)
  have hdig : ∀ c ∈ Lib.itoa N, c ≠ 32 := by
    intro c hc
    have e : Lib.itoa N = Lib.decDigits N.toNat := by
      rw [← itoa_nat]
      congr 1
      omega
    rw [e] at hc
    have := dec_digit c hc
    rintro rfl
    simp at this
  have hl : lineB k v = Lib.itoa N ++ restP k v := by unfold lineB; rw [hNN]
  have hlen : (lineB k v).length = (Lib.itoa N).length + (restP k v).length := by rw [hl, List.length_append]
  have hD : fstD (lineB k v ++ r) = Lib.itoa N := by
    unfold fstD
    rw [hl, List.append_assoc, aheadOf_app 32 _ _ hdig]
    simp [restP, aheadOf]
  have hFN : fstN (lineB k v ++ r) = N := by
    unfold fstN
    rw [hD]
    exact hat.1
  have hR : fstR (lineB k v ++ r) = k ++ 61 :: (v ++ [10]) := by
    unfold fstR
    rw [hFN, hD, hl]
    have e : Lib.itoa N ++ restP k v ++ r = (Lib.itoa N ++ [32]) ++ ((k ++ 61 :: (v ++ [10])) ++ r) := by simp [restP]
    rw [e]
    refine dt_mid (by simp) ?_
    simp only [List.length_append, List.length_cons, List.length_nil] at *
    omega
  have hix : Lib.indexByte (k ++ 61 :: (v ++ [10])) 61 = k.length := indexByte_app 61 k _ (kw_ne hk)
  have hc : cutB 61 (k ++ 61 :: (v ++ [10])) = (k, v ++ [10], true) := by
    unfold cutB
    rw [hix, if_pos (by omega)]
    have e : ((k.length : Int)).toNat = k.length := by omega
    rw [e, List.take_left' rfl, show k ++ 61 :: (v ++ [10]) = (k ++ [61]) ++ (v ++ [10]) by simp, List.drop_left' (by simp)]
  have hs : hasSuf (v ++ [10]) [10] = true := by simp [hasSuf]
  have hV : fstV (lineB k v ++ r) = v := by
    unfold fstV cutSuf
    rw [hR, hc]
    simp only []
    rw [if_pos hs]
    simp
  have hK : fstK (lineB k v ++ r) = k := by
    unfold fstK
    rw [hR, hc]
  have hi : 0 ≤ Lib.indexByte (lineB k v ++ r) 32 := by
    have : Lib.indexByte (lineB k v ++ r) 32 = (Lib.itoa N).length := by
      rw [hl]
      have e : Lib.itoa N ++ restP k v ++ r = Lib.itoa N ++ 32 :: ((k ++ [61] ++ v ++ [10]) ++ r) := by simp [restP]
      rw [e]
      exact indexByte_app 32 _ _ hdig
    omega
  have hok1 : fstOk1 (lineB k v ++ r) = true := by
    unfold fstOk1
    rw [hFN, hD, hat.2, List.length_append]
    simp only [Bool.and_eq_true, decide_eq_true_eq]
    refine ⟨⟨⟨hi, trivial⟩, ?_⟩, ?_⟩ <;> omega
  have hok : fstOk (lineB k v ++ r) = true := by
    unfold fstOk
    rw [hok1, hK, hV, hFN, hR, hc]
    simp only [Bool.true_and, Bool.and_eq_true, decide_eq_true_eq]
    refine ⟨⟨hs, hlo⟩, ?_⟩
    rw [List.take_left' (by omega)]
  unfold firstP
  rw [if_pos hok, hK, hV, hFN, hN]
theorem dec_enc : ∀ (rs : List Rcd) (p : Option Rcd) (out o : List UInt8), paxE p out rs = some o → ∃ L, o = out ++ L ∧ ∀ (k : Nat) (acc : List Rcd), L.length ≤ k → decP k p acc L = some (acc ++ rs)
  | [], p, out, o, h => by
    unfold paxE at h
    cases h
    refine ⟨[], by simp, fun k acc _ => ?_⟩
    cases k <;> simp [decP]
  | r :: rs, p, out, o, h => by
    unfold paxE at h
    by_cases hs : paxStep p out r = true
    · rw [if_pos hs] at h
      obtain ⟨L, h1, h2⟩ := dec_enc rs _ _ _ h
      unfold paxStep at hs
      simp only [Bool.and_eq_true, decide_eq_true_eq] at hs
      obtain ⟨⟨s1, s2⟩, s3⟩ := hs
      have hpos := lineB_pos (k := r.key) (v := r.value)
      refine ⟨lineB r.key r.value ++ L, by rw [h1, List.append_assoc], fun k acc hk => ?_⟩
      rw [List.length_append] at hk
      obtain ⟨k, rfl⟩ : ∃ j, k = j + 1 := ⟨k - 1, by omega⟩
      unfold decP
      have hne : lineB r.key r.value ++ L ≠ [] := by
        intro hh
        have := congrArg List.length hh
        rw [List.length_append] at this
        simp at this
        rw [this.1] at hpos
        cases hpos
      rw [if_neg hne, firstP_line s1]
      simp only []
      have ha : aftB p ⟨r.key, r.value⟩ = true := by
        cases p with
        | none => rfl
        | some p => exact s2
      rw [if_neg (fun h => by rcases h with h | h; (omega); (rw [ha] at h; cases h))]
      have e : (((lineB r.key r.value).length : Int)).toNat = (lineB r.key r.value).length := by omega
      rw [e, List.drop_left' rfl, h2 k _ (by omega)]
      simp
    · rw [if_neg hs] at h
      cases h
/-- THERE AND BACK: records -/
theorem paxD_paxE {rs : List Rcd} {o : List UInt8} (h : paxE none [] rs = some o) : paxD o = some rs := by
  have hl := paxE_le _ _ _ _ (by simp) h
  obtain ⟨L, h1, h2⟩ := dec_enc rs none [] o h
  simp only [List.nil_append] at h1
  subst h1
  unfold paxD
  rw [if_neg (by omega), h2 _ [] (Nat.le_refl _)]
  simp
end Go.Abs
namespace Go.Abs
open Am
set_option maxRecDepth 10000
set_option linter.unusedSimpArgs false
theorem sl_le (a : BS) (i j : Nat) : (a.sl i j).l.length ≤ a.l.length - i := by
  rw [BS.sl_l, List.length_take, List.length_drop]
  omega
theorem hdrR_lt {b : BS} (h : (rdH b).2.2 = true) : (hdrR b).l.length + 512 ≤ b.l.length := by
  unfold rdH at h
  by_cases c1 : b.l.length < 512 ∨ decOk (b.sl 0 512).l = false
  · rw [if_pos c1] at h; cases h
  have c2 : ¬ b.l.length < 512 := fun hh => c1 (.inl hh)
  have c3 : ¬ decOk (b.sl 0 512).l = false := fun hh => c1 (.inr hh)
  unfold hdrR
  rw [if_neg c2, if_neg c3]
  have h1 := sl_le b 512 b.l.length
  split
  · have h2 := sl_le (b.sl 512 b.l.length) (wholeN (decH (b.sl 0 512).l).size).toNat (b.sl 512 b.l.length).l.length
    omega
  · omega
theorem decH_le (l : List UInt8) : (decH l).path.length ≤ 1000000 ∧ (decH l).link.length ≤ 1000000 := by
  have h1 := textF_le l 345 155
  have h2 := textF_le l 0 100
  have h3 := textF_le l 157 100
  unfold decH
  refine ⟨?_, by show (textF l 157 100).length ≤ _; omega⟩
  show (if textF l 345 155 = [] then textF l 0 100 else textF l 345 155 ++ [47] ++ textF l 0 100).length ≤ _
  split
  · omega
  · simp only [List.length_append, List.length_cons, List.length_nil]; omega
theorem rdH_le2 (b : BS) : (rdH b).1.path.length ≤ 1000000 ∧ (rdH b).1.link.length ≤ 1000000 := by
  unfold rdH
  split
  · exact ⟨by decide, by decide⟩
  · split <;> exact decH_le _
theorem tellE_le {e : Ent} {r : Rcd} (h1 : e.path.length ≤ 1000000) (h2 : e.link.length ≤ 1000000) (hr : RcdOk r) : (tellE e r).1.path.length ≤ 1000000 ∧ (tellE e r).1.link.length ≤ 1000000 := by
  have := hr.2
  unfold tellE
  repeat' split
  all_goals exact ⟨by first | exact h1 | exact hr.2, by first | exact h2 | exact hr.2⟩
theorem toldE_le : ∀ (rs : List Rcd) (e : Ent), e.path.length ≤ 1000000 → e.link.length ≤ 1000000 → (∀ r ∈ rs, RcdOk r) → (toldE e rs).1.path.length ≤ 1000000 ∧ (toldE e rs).1.link.length ≤ 1000000
  | [], e, h1, h2, _ => ⟨h1, h2⟩
  | r :: rs, e, h1, h2, h3 => by
    have ht := tellE_le h1 h2 (h3 r (by simp))
    unfold toldE
    split
    · exact toldE_le rs _ ht.1 ht.2 fun x hx => h3 x (by simp [hx])
    · exact ht
theorem entP_ok {b : BS} {e : Ent} {r : BS} (h : entP b = some (e, r)) : (e.path.length ≤ 1000000 ∧ e.link.length ≤ 1000000) ∧ (∃ l, e.data = .mk false false l ∧ l.length ≤ b.l.length) ∧ r.l.length + 512 ≤ b.l.length := by
  unfold entP at h
  by_cases c0 : (rdH b).2.2 = false
  · rw [if_pos c0] at h; cases h
  rw [if_neg c0] at h
  have c0 : (rdH b).2.2 = true := by simpa using c0
  have hr := hdrR_lt c0
  by_cases c1 : (rdH b).1.type = 120
  · rw [if_pos c1] at h
    cases c2 : paxD (rdH b).2.1.l with
    | none => rw [c2] at h; cases h
    | some rs =>
      rw [c2] at h
      simp only at h
      by_cases c3 : (rdH (hdrR b)).2.2 = false
      · rw [if_pos c3] at h; cases h
      rw [if_neg c3] at h
      have c3 : (rdH (hdrR b)).2.2 = true := by simpa using c3
      have hr2 := hdrR_lt c3
      have hp := rdH_le2 (hdrR b)
      have ht := toldE_le rs (mkE (rdH (hdrR b)).1) hp.1 hp.2 (paxD_ok c2).1
      by_cases c4 : (toldE (mkE (rdH (hdrR b)).1) rs).2 = true
      · rw [if_pos c4] at h
        cases h
        have := rdH_le (hdrR b)
        exact ⟨ht, ⟨_, rfl, by omega⟩, by omega⟩
      · rw [if_neg c4] at h; cases h
  · rw [if_neg c1] at h
    cases h
    have hp := rdH_le2 b
    exact ⟨hp, ⟨_, rfl, rdH_le b⟩, hr⟩
/-- the entries of blocks -/
def readP : Nat → BS → List Ent → Option (List Ent)
  | 0, _, acc => some acc
  | k + 1, b, acc => if b.l = [] then some acc else
    match entP b with
    | none => none
    | some (e, r) => if acc.length = 200 then none else readP k r (acc ++ [e])
/-- is this what was read? -/
def finR (l : List UInt8) : Option (List Ent) → Option (List Ent)
  | none => none
  | some t => if (checkT (t.map Ent.cp)).2 = 0 ∧ writeL t = l then some t else none
/-- an archive's tree -/
def readE (b : BS) : Option (List Ent) := if b.l.length < 1024 then none else finR b.l (readP b.l.length (b.sl 0 (b.l.length - 1024)) [])
def readV : Option (List Ent) → AVal
  | none => .tuple [.lit (.slice none 0 0), .iface 58 (.int .i64 16)]
  | some [] => .tuple [.lit (.slice none 0 0), .lit .nilIface]
  | some (e :: r) => .tuple [.own 0 8 0 (e :: r).length false, .lit .nilIface]
def readH : Option (List Ent) → Heap
  | none => []
  | some [] => []
  | some (e :: r) => [(0, .row ((e :: r).map Ent.av) 8)]
theorem readV_ne {t : List Ent} (h : t ≠ []) : readV (some t) = .tuple [.own 0 8 0 t.length false, .lit .nilIface] ∧ readH (some t) = [(0, .row (t.map Ent.av) 8)] := by
  cases t with
  | nil => exact (h rfl).elim
  | cons x y => exact ⟨rfl, rfl⟩
/-- entries as they are read -/
def RdE (e : Ent) : Prop := e.path.length ≤ 1000000 ∧ e.link.length ≤ 1000000 ∧ ∃ l, e.data = .mk false false l ∧ l.length ≤ 1000000
theorem rdE_ok {e : Ent} (h : RdE e) : EntOk e := by
  obtain ⟨h1, h2, l, h3, h4⟩ := h
  exact ⟨h2, h1, by rw [h3]; simp only [BS.l]; omega, by rw [h3]; rfl⟩
theorem w17no (c tmp : Bool) (t : List Ent) (hne : t ≠ []) (hl : t.length ≤ 1000000) (hq : ∀ e ∈ t, RdE e) (he : (checkT (t.map Ent.cp)).2 ≠ 0) :
    callT AA 17 [.view 8 (t.map Ent.av) c tmp] [] = some (.tuple [.lit (.slice none 0 0), .iface 58 (.int .i64 (checkT (t.map Ent.cp)).2)], []) := by
  cases t with
  | nil => exact (hne rfl).elim
  | cons e r =>
    have h := s17no c tmp e r hl (fun x hx => rdE_ok (hq x hx)) he (fun x hx => by
      obtain ⟨_, _, l, h3, h4⟩ := hq x hx
      rw [h3]
      simp only [BS.l]
      omega)
    unfold errV at h
    rw [if_neg he] at h
    exact h
theorem w17 (c tmp : Bool) (t : List Ent) (hne : t ≠ []) (hl : t.length ≤ 200) (hq : ∀ e ∈ t, RdE e) (he : (checkT (t.map Ent.cp)).2 = 0) :
    callT AA 17 [.view 8 (t.map Ent.av) c tmp] [] = some (.tuple [.own 0 1 0 (writeL t).length false, .lit .nilIface], [(0, .row ((writeL t).map .byte) 1)]) := by
  cases t with
  | nil => exact (hne rfl).elim
  | cons e r => exact s17 c tmp e r hl (fun x hx => rdE_ok (hq x hx)) he (checkT_pieces he)
set_option maxHeartbeats 4000000 in
theorem h24 (b0 : BS) (hb0 : b0.l.length ≤ 1000000) (R : Option (List Ent)) : ∀ (k : Nat) (b : BS) (acc : List Ent) (q : Nat), acc ≠ [] → q = acc.length → acc.length ≤ 200 → b.l.length ≤ k → b.l.length ≤ 1000000 → (∀ e ∈ acc, RdE e) → R = finR b0.l (readP k b acc) →
    HD AA 0 [0, 2, 3, 4, 5] l24_0 ⟨[b0.av, .junk, .lit (.slice none 0 0), .lit .nilIface, .ptr 0 0, .own 1 8 0 q false, .junk, .junk, .junk, .junk, .junk, .junk, .junk, .junk, .junk, .junk, .junk, .junk, .junk, .junk, .junk, .junk, .junk, .junk, .junk, .junk, .junk, .junk, .junk, .junk, .junk, .junk, .junk, .junk, .junk, .junk, .junk, .junk, .junk, .junk, .junk, .junk, .junk, .junk, .junk, .junk, .junk, .junk, .junk, .junk, .junk, .junk, .junk, .junk, .junk, .junk, .junk, .junk, .junk], [(0, .var [b.av]), (1, .row (acc.map Ent.av) 8)], 2⟩ [.blk 0, .code r24_0] (Fin [(2, none), (3, none)] 0 (readV R) (readH R))
  | k, b, acc, q, h0, h1, h2, h3, h4, h5, h6 => by
    have et : (acc.map Ent.av).take q = acc.map Ent.av := List.take_of_length_le (by simp; omega)
    by_cases hl : b.l = []
    · have hl0 : b.l.length = 0 := by rw [hl]; rfl
      have hr : readP k b acc = some acc := by
        cases k with
        | zero => rfl
        | succ k => unfold readP; rw [if_pos hl]
      rw [hr] at h6
      simp only [finR] at h6
      refine hd_of (by unfold l24_0; rfl) ?_
      by_cases hc : (checkT (acc.map Ent.cp)).2 = 0
      · have hw := w17 false true acc h0 h2 h5 hc
        have hwl : (writeL acc).length ≤ 1000000000 := by
          have := outL_le acc 0 (checkT_pieces hc)
          unfold writeL
          rw [List.length_append, zeros1024_length]
          omega
        generalize writeL acc = W at *
        have hs := fun c t => s62v W c t b0
        by_cases hd : W = b0.l
        · rw [if_pos ⟨hc, hd⟩] at h6
          rw [h6, (readV_ne h0).1, (readV_ne h0).2]
          have gg := trivial; repeat' first | simp (maxSteps := 2000000) (disch := omega) only [gg, r24_0, et, hw, hs, decide_eq_true hd, go_sem] | (refine br ?_ ?_ <;> intro gg <;> try (exfalso; omega)) | (refine And.intro ?_ ?_; focus omega) | omega
          simp [h1]
        · rw [if_neg (fun h => hd h.2)] at h6
          rw [h6]
          unfold readV readH
          have gg := trivial; repeat' first | simp (maxSteps := 2000000) (disch := omega) only [gg, r24_0, et, hw, hs, decide_eq_false hd, go_sem] | (refine br ?_ ?_ <;> intro gg <;> try (exfalso; omega)) | (refine And.intro ?_ ?_; focus omega) | omega
      · have hw := w17no false true acc h0 (by omega) h5 hc
        rw [if_neg (fun h => hc h.1)] at h6
        rw [h6]
        unfold readV readH
        have gg := trivial; repeat' first | simp (maxSteps := 2000000) (disch := omega) only [gg, r24_0, et, hw, go_sem] | (refine br ?_ ?_ <;> intro gg <;> try (exfalso; omega)) | (refine And.intro ?_ ?_; focus omega) | omega
    · have hl0 : 0 < b.l.length := by
        cases hz : b.l with
        | nil => exact (hl hz).elim
        | cons x y => simp
      match k, h3, h6 with
      | 0, h3, h6 => omega
      | k + 1, h3, h6 =>
        have hf := s61f b h4
        unfold EntR at hf
        unfold readP at h6
        rw [if_neg hl] at h6
        refine hd_of (by unfold l24_0; rfl) ?_
        cases hp : entP b with
        | none =>
          rw [hp] at hf h6
          simp only [finR] at h6
          rw [h6]
          unfold readV readH
          rcases hf with ⟨e, r, hf⟩ | ⟨e, r, l, hf⟩
          · simp only [entCs] at hf
            have gg := trivial; repeat' first | simp (maxSteps := 2000000) (disch := omega) only [gg, hf, lp_head, go_sem] | (refine br ?_ ?_ <;> intro gg <;> try (exfalso; omega)) | (refine And.intro ?_ ?_; focus omega) | omega
          · simp only [entCs] at hf
            have gg := trivial; repeat' first | simp (maxSteps := 2000000) (disch := omega) only [gg, hf, lp_head, go_sem] | (refine br ?_ ?_ <;> intro gg <;> try (exfalso; omega)) | (refine And.intro ?_ ?_; focus omega) | omega
        | some er =>
          obtain ⟨e, r⟩ := er
          rw [hp] at hf h6
          obtain ⟨⟨p1, p2⟩, ⟨l, p3, p4⟩, p5⟩ := entP_ok hp
          simp only [p3, BS.l, entCs] at hf
          simp only at h6
          by_cases hq : acc.length = 200
          · rw [if_pos hq] at h6
            simp only [finR] at h6
            rw [h6]
            unfold readV readH
            have gg := trivial; repeat' first | simp (maxSteps := 2000000) (disch := omega) only [gg, hf, lp_head, go_sem] | (refine br ?_ ?_ <;> intro gg <;> try (exfalso; omega)) | (refine And.intro ?_ ?_; focus omega) | omega
          · rw [if_neg hq] at h6
            have ih := h24 b0 hb0 R k r (acc ++ [e]) (q + 1) (by simp) (by simp [h1]) (by simp; omega) (by omega) (by omega) (by
              intro x hx
              rcases List.mem_append.1 hx with hx | hx
              · exact h5 x hx
              · rw [List.mem_singleton.1 hx]
                exact ⟨p1, p2, l, p3, by omega⟩) h6
            simp only [List.map_append, List.map_cons, List.map_nil, Ent.av, p3, mk_av] at ih et
            have gg := trivial; repeat' first | simp (maxSteps := 2000000) (disch := omega) only [gg, hf, et, lp_head, go_sem] | (refine br ?_ ?_ <;> intro gg <;> try (exfalso; omega)) | (refine And.intro ?_ ?_; focus omega) | omega
set_option maxHeartbeats 4000000 in
theorem s24 (b : BS) (hb : b.l.length ≤ 1000000) : callT AA 24 [b.av] [] = some (readV (readE b), readH (readE b)) := by
  refine enter fn24 np24 rfl ?_
  generalize hR : readE b = R
  unfold readE at hR
  by_cases c0 : b.l.length < 1024
  · rw [if_pos c0] at hR
    rw [← hR]
    unfold readV readH
    have gg := trivial; repeat' first | simp (maxSteps := 2000000) (disch := omega) only [gg, b24, go_sem] | (refine br ?_ ?_ <;> intro gg <;> try (exfalso; omega)) | (refine And.intro ?_ ?_; focus omega) | omega
  rw [if_neg c0] at hR
  have e0 : ((b.l.length : Int) - 1024).toNat = b.l.length - 1024 := by omega
  have gg := trivial; repeat' first | simp (maxSteps := 2000000) (disch := omega) only [gg, b24, e0, lp_head, go_sem] | (refine br ?_ ?_ <;> intro gg <;> try (exfalso; omega)) | (refine And.intro ?_ ?_; focus omega) | omega
  generalize hb1 : b.sl 0 (b.l.length - 1024) = b1 at *
  have hb2 : b1.l.length ≤ b.l.length := by
    have := sl_le b 0 (b.l.length - 1024)
    rw [hb1] at this
    omega
  obtain ⟨k, hk⟩ : ∃ k, b.l.length = k + 1 := ⟨b.l.length - 1, by omega⟩
  rw [hk] at hR
  unfold readP at hR
  refine hd_of (by unfold l24_0; rfl) ?_
  by_cases hl : b1.l = []
  · have hl0 : b1.l.length = 0 := by rw [hl]; rfl
    rw [if_pos hl] at hR
    simp only [finR] at hR
    have hcn : (checkT (([] : List Ent).map Ent.cp)).2 = 0 := rfl
    have hwn : writeL [] = zeros1024 := rfl
    have hs := fun c t => s62v zeros1024 c t b
    have hz := zeros1024_take
    have hzl := zeros1024_length
    rw [hwn] at hR
    by_cases hd : zeros1024 = b.l
    · rw [if_pos ⟨hcn, hd⟩] at hR
      rw [← hR]
      unfold readV readH
      have gg := trivial; repeat' first | simp (maxSteps := 2000000) (disch := omega) only [gg, r24_0, s17n, hs, decide_eq_true hd, hz, hzl, go_sem] | (refine br ?_ ?_ <;> intro gg <;> try (exfalso; omega)) | (refine And.intro ?_ ?_; focus omega) | omega
    · rw [if_neg (fun h => hd h.2)] at hR
      rw [← hR]
      unfold readV readH
      have gg := trivial; repeat' first | simp (maxSteps := 2000000) (disch := omega) only [gg, r24_0, s17n, hs, decide_eq_false hd, hz, hzl, go_sem] | (refine br ?_ ?_ <;> intro gg <;> try (exfalso; omega)) | (refine And.intro ?_ ?_; focus omega) | omega
  · have hl0 : 0 < b1.l.length := by
      cases hz : b1.l with
      | nil => exact (hl hz).elim
      | cons x y => simp
    rw [if_neg hl] at hR
    have hf := s61f b1 (by omega)
    unfold EntR at hf
    cases hp : entP b1 with
    | none =>
      rw [hp] at hf hR
      simp only [finR] at hR
      rw [← hR]
      unfold readV readH
      rcases hf with ⟨e, r, hf⟩ | ⟨e, r, l, hf⟩
      · simp only [entCs] at hf
        have gg := trivial; repeat' first | simp (maxSteps := 2000000) (disch := omega) only [gg, hf, lp_head, go_sem] | (refine br ?_ ?_ <;> intro gg <;> try (exfalso; omega)) | (refine And.intro ?_ ?_; focus omega) | omega
      · simp only [entCs] at hf
        have gg := trivial; repeat' first | simp (maxSteps := 2000000) (disch := omega) only [gg, hf, lp_head, go_sem] | (refine br ?_ ?_ <;> intro gg <;> try (exfalso; omega)) | (refine And.intro ?_ ?_; focus omega) | omega
    | some er =>
      obtain ⟨e, r⟩ := er
      rw [hp] at hf hR
      obtain ⟨⟨p1, p2⟩, ⟨l, p3, p4⟩, p5⟩ := entP_ok hp
      simp only [p3, BS.l, entCs] at hf
      simp only [List.length_nil, List.nil_append] at hR
      rw [if_neg (by omega)] at hR
      have ih := h24 b hb R k r [e] 1 (by simp) rfl (by simp) (by omega) (by omega) (by
        intro x hx
        rw [List.mem_singleton.1 hx]
        exact ⟨p1, p2, l, p3, by omega⟩) hR.symm
      simp only [List.map_cons, List.map_nil, Ent.av, p3, mk_av] at ih
      have gg := trivial; repeat' first | simp (maxSteps := 2000000) (disch := omega) only [gg, hf, lp_head, go_sem] | (refine br ?_ ?_ <;> intro gg <;> try (exfalso; omega)) | (refine And.intro ?_ ?_; focus omega) | omega
end Go.Abs
namespace Go.Abs
open Am
set_option maxRecDepth 10000
set_option linter.unusedSimpArgs false
theorem pad_whole (l : List UInt8) : ((padL l).length : Int) = wholeN l.length := by
  rw [padL_length]
  unfold padN wholeN
  omega
/-- a header and its bytes are read -/
theorem rd_block {b : BS} {h : Hd} {body rest : List UInt8} (hb : b.l = encB h ++ (padL body ++ rest)) (hok : encOk h = true) (hs : h.size = body.length) :
    (rdH b).1 = h ∧ (rdH b).2.1.l = body ∧ (rdH b).2.2 = true ∧ (hdrR b).l = rest := by
  have hl := encB_length h
  have hp := pad_whole body
  have hp2 := padL_length body
  have hbl : b.l.length = 512 + (padL body).length + rest.length := by rw [hb]; simp [hl]; omega
  have h0 : (b.sl 0 512).l = encB h := by
    rw [BS.sl_l, hb]
    simp only [List.drop_zero, Nat.sub_zero]
    exact List.take_left' hl
  have h1 : (b.sl 512 b.l.length).l = padL body ++ rest := by
    rw [BS.sl_l, List.take_of_length_le (by simp), hb]
    exact List.drop_left' hl
  have hd := decOk_encB hok
  have hdh := decH_encB hok
  have c1 : ¬ (b.l.length < 512 ∨ decOk (b.sl 0 512).l = false) := by
    rw [h0, hd]
    simp
    omega
  have c2 : wholeN h.size ≤ (b.sl 512 b.l.length).l.length := by
    rw [h1, List.length_append, hs]
    omega
  refine ⟨?_, ?_, ?_, ?_⟩
  · unfold rdH
    rw [if_neg c1, h0, hdh, if_pos c2]
  · unfold rdH
    rw [if_neg c1, h0, hdh, if_pos c2]
    simp only []
    rw [BS.sl_l, h1, hs]
    simp only [List.drop_zero, Nat.sub_zero, Int.toNat_natCast]
    unfold padL
    rw [List.append_assoc]
    exact List.take_left' rfl
  · unfold rdH
    rw [if_neg c1, h0, hdh, if_pos c2]
  · unfold hdrR
    rw [if_neg (by omega), h0, hd, if_neg (by simp), hdh, if_pos c2, BS.sl_l, h1, hs, List.take_of_length_le (by simp)]
    refine List.drop_left' ?_
    omega
/-- an entry as it is read -/
def rdEnt (e : Ent) : Ent := { e with data := .mk false false e.data.l }
theorem kind_type {k : Int} (h : k = 1 ∨ k = 2 ∨ k = 3 ∨ k = 4) : kindB (typeB k) = k ∧ typeB k ≠ 120 := by
  rcases h with rfl | rfl | rfl | rfl <;> decide
theorem told_back {e : Ent} (hf : FieldsOk e) (d : BS) : toldE ⟨if (splitN e.path).2.2 then e.path else paxB, e.kind, e.mode, if idB e.uid then e.uid else 0, if idB e.gid then e.gid else 0, if timeB e.time then e.time else 0, if linkE e.link then e.link else paxB, d⟩ (recsE e) = (⟨e.path, e.kind, e.mode, e.uid, e.gid, e.time, e.link, d⟩, true) := by
  have g := atoiV_itoa (n := e.gid) (by have := hf.gid; omega) (by have := hf.gid; omega)
  have u := atoiV_itoa (n := e.uid) (by have := hf.uid; omega) (by have := hf.uid; omega)
  have t := atoiV_itoa (n := e.time) (by have := hf.time; omega) (by have := hf.time; omega)
  unfold recsE rst3 rst4 rst5 rst6 rst7
  cases idB e.gid <;> cases linkE e.link <;> cases timeB e.time <;> cases (splitN e.path).2.2 <;> cases idB e.uid <;> simp [recIf, toldE, tellE, gidB, linkpathB, mtimeB, pathB, uidB, g, u, t]
/-- a piece is read -/
theorem entP_piece {b : BS} {n : Nat} {e : Ent} {rest : List UInt8} (hb : b.l = pieceL n e ++ rest) (hok : pieceOk n e) (hf : FieldsOk e) : ∃ r : BS, entP b = some (rdEnt e, r) ∧ r.l = rest := by
  have hk : e.kind = 1 ∨ e.kind = 2 ∨ e.kind = 3 ∨ e.kind = 4 := by
    rcases hf.kinds with h | h | h | h
    · exact .inl h.1
    · exact .inr (.inl h.1)
    · exact .inr (.inr (.inl h.1))
    · exact .inr (.inr (.inr h.1))
  obtain ⟨k1, k2⟩ := kind_type hk
  have hsz : (hdrE e (recsE e)).size = e.data.l.length := by rw [hdrE_eq]
  have hty : (hdrE e (recsE e)).type = typeB e.kind := by rw [hdrE_eq]
  have hmk : mkE (hdrE e (recsE e)) = ⟨if (splitN e.path).2.2 then e.path else paxB, e.kind, e.mode, if idB e.uid then e.uid else 0, if idB e.gid then e.gid else 0, if timeB e.time then e.time else 0, if linkE e.link then e.link else paxB, .nil⟩ := by
    unfold mkE
    rw [hdrE_eq]
    simp only [k1]
  have htold := told_back hf .nil
  obtain ⟨ok1, ok2⟩ := hok
  by_cases hr : recsE e = []
  · have hp : pieceL n e = encB (hdrE e (recsE e)) ++ padL e.data.l := by
      unfold pieceL preE
      rw [if_pos hr, List.nil_append]
    rw [hp, List.append_assoc] at hb
    obtain ⟨r1, r2, r3, r4⟩ := rd_block hb ok1 hsz
    refine ⟨hdrR b, ?_, r4⟩
    unfold entP
    rw [if_neg (by rw [r3]; simp), r1, hty, if_neg k2, r2, hmk]
    rw [hr] at htold
    simp only [toldE, Prod.mk.injEq, and_true] at htold
    rw [htold]
    rfl
  · obtain ⟨o1, o2⟩ := ok2 hr
    obtain ⟨body, hbo⟩ := Option.isSome_iff_exists.1 o1
    have hbe : bodyE e = body := by unfold bodyE; rw [hbo]; rfl
    have hp : pieceL n e = encB (hdX n body) ++ (padL body ++ (encB (hdrE e (recsE e)) ++ padL e.data.l)) := by
      unfold pieceL preE
      rw [if_neg hr, hbe]
      simp
    rw [hbe] at o2
    have hb1 : b.l = encB (hdX n body) ++ (padL body ++ (encB (hdrE e (recsE e)) ++ (padL e.data.l ++ rest))) := by
      rw [hb, hp]
      simp
    obtain ⟨r1, r2, r3, r4⟩ := rd_block hb1 o2 rfl
    obtain ⟨q1, q2, q3, q4⟩ := rd_block r4 ok1 hsz
    refine ⟨hdrR (hdrR b), ?_, q4⟩
    unfold entP
    rw [if_neg (by rw [r3]; simp), r1, if_pos (show (hdX n body).type = 120 from rfl), r2, paxD_paxE hbo]
    simp only []
    rw [if_neg (by rw [q3]; simp), q1, hmk, htold, q2]
    rfl
theorem readP_out : ∀ (t : List Ent) (i k : Nat) (b : BS) (acc : List Ent), b.l = outL i t → PiecesOk i t → (∀ e ∈ t, FieldsOk e) → b.l.length ≤ k → acc.length + t.length ≤ 200 → readP k b acc = some (acc ++ t.map rdEnt)
  | [], i, k, b, acc, hb, _, _, _, _ => by
    simp only [outL] at hb
    cases k with
    | zero => simp [readP]
    | succ k => simp [readP, hb]
  | e :: t, i, k, b, acc, hb, hp, hf, hk, hl => by
    obtain ⟨h1, h2, h3, h4⟩ := hp
    simp only [outL] at hb
    have hpl := pieceL_le h2 h3
    have hbl : b.l.length = (pieceL i e).length + (outL (i + 1) t).length := by rw [hb, List.length_append]
    obtain ⟨r, hr1, hr2⟩ := entP_piece hb h3 (hf e (by simp))
    obtain ⟨k, rfl⟩ : ∃ j, k = j + 1 := ⟨k - 1, by omega⟩
    have hne : b.l ≠ [] := by
      intro hh
      rw [hh] at hbl
      simp at hbl
      omega
    simp only [List.length_cons] at hl
    unfold readP
    rw [if_neg hne, hr1]
    simp only []
    rw [if_neg (by omega), readP_out t (i + 1) k r _ hr2 h4 (fun x hx => hf x (by simp [hx])) (by rw [hr2]; omega) (by simp; omega)]
    simp
theorem entryE_rd (c : Ck) {e f : Ent} (h1 : f.path = e.path) (h2 : f.kind = e.kind) (h3 : f.mode = e.mode) (h4 : f.uid = e.uid) (h5 : f.gid = e.gid) (h6 : f.time = e.time) (h7 : f.link = e.link) (h8 : f.data.l = e.data.l) : entryE c f = entryE c e := by
  have hf : fieldsB f = fieldsB e := by
    unfold fieldsB
    rw [h2, h3, h4, h5, h6, h7, h8]
  unfold entryE
  rw [hf, h1, h2, h7, h8]
/-- the same, their slices aside -/
def SameE (e f : Ent) : Prop := f.path = e.path ∧ f.kind = e.kind ∧ f.mode = e.mode ∧ f.uid = e.uid ∧ f.gid = e.gid ∧ f.time = e.time ∧ f.link = e.link ∧ f.data.l = e.data.l
theorem entryE_same {c : Ck} {e f : Ent} (h : SameE e f) : entryE c f = entryE c e := entryE_rd c h.1 h.2.1 h.2.2.1 h.2.2.2.1 h.2.2.2.2.1 h.2.2.2.2.2.1 h.2.2.2.2.2.2.1 h.2.2.2.2.2.2.2
theorem checkL_map (g : Ent → Ent) (hg : ∀ e, SameE e (g e)) : ∀ (t : List Ent) (c : Ck) (i : Int), checkL c i (t.map g) = checkL c i t
  | [], c, i => rfl
  | e :: t, c, i => by
    simp only [List.map_cons, checkL]
    rw [entryE_same (hg e), checkL_map g hg t]
theorem checkT_map (g : Ent → Ent) (hg : ∀ e, SameE e (g e)) (t : List Ent) : checkT (t.map g) = checkT t := by
  unfold checkT
  rw [List.length_map, checkL_map g hg]
theorem same_cp (e : Ent) : SameE e e.cp := ⟨rfl, rfl, rfl, rfl, rfl, rfl, rfl, cp_l⟩
theorem same_rd (e : Ent) : SameE e (rdEnt e) := ⟨rfl, rfl, rfl, rfl, rfl, rfl, rfl, rfl⟩
theorem outL_rd : ∀ (t : List Ent) (i : Nat), outL i (t.map rdEnt) = outL i t
  | [], _ => rfl
  | e :: t, i => by
    simp only [List.map_cons, outL]
    rw [outL_rd t]
    rfl
theorem writeL_rd (t : List Ent) : writeL (t.map rdEnt) = writeL t := by
  unfold writeL
  rw [outL_rd]
/-- THERE AND BACK: a tree's archive is read as that tree -/
theorem readE_writeL (c tmp : Bool) {t : List Ent} (h : (checkT t).2 = 0) : readE (.mk c tmp (writeL t)) = some (t.map rdEnt) := by
  obtain ⟨hl, hg⟩ := checkT_good h
  have hp : PiecesOk 0 t := piecesOk_of t 0 (by omega) hg
  have hf : ∀ e ∈ t, FieldsOk e := fun e he => fields_ok (hg e he).2
  have hwl : (writeL t).length = (outL 0 t).length + 1024 := by
    unfold writeL
    rw [List.length_append, zeros1024_length]
  unfold readE
  rw [if_neg (show ¬ (BS.mk c tmp (writeL t)).l.length < 1024 by rw [mk_l]; omega)]
  show finR (writeL t) (readP (writeL t).length ((BS.mk c tmp (writeL t)).sl 0 ((writeL t).length - 1024)) []) = _
  have hb : ((BS.mk c tmp (writeL t)).sl 0 ((writeL t).length - 1024)).l = outL 0 t := by
    rw [BS.sl_l]
    simp only [BS.l, List.drop_zero, Nat.sub_zero]
    unfold writeL
    rw [List.length_append, zeros1024_length]
    exact List.take_left' (by omega)
  rw [readP_out t 0 (writeL t).length _ [] hb hp hf (by rw [hb]; omega) (by simpa using hl)]
  simp only [List.nil_append, finR]
  rw [checkT_map Ent.cp same_cp, checkT_map rdEnt same_rd, writeL_rd, if_pos ⟨h, rfl⟩]
end Go.Abs
namespace Go.Abs
open Am
set_option maxRecDepth 10000
set_option linter.unusedSimpArgs false
theorem sl_own_both {sz id z off len : Nat} {k k' : IntKind} {i j : Int} : aSlice sz (.own id z off len false) (some (.int k i)) (some (.int k' j)) none = if 0 ≤ i ∧ i ≤ j ∧ j ≤ len ∧ z = sz then some (.own id z (off + i.toNat) (j.toNat - i.toNat) false) else none := by
  by_cases h0 : 0 ≤ i
  · by_cases h1 : 0 ≤ j
    · rw [sl_own (a := i.toNat) (c := j.toNat) (by simp [natOr, toNat?, h0]) (by simp [natOr, toNat?, h1])]
      simp only [true_or, and_true]
      have : (i.toNat ≤ j.toNat ∧ j.toNat ≤ len ∧ z = sz) = (0 ≤ i ∧ i ≤ j ∧ j ≤ len ∧ z = sz) := by
        apply propext
        constructor
        · rintro ⟨a, b, c⟩; exact ⟨h0, by omega, by omega, c⟩
        · rintro ⟨a, b, c, d⟩; exact ⟨by omega, by omega, d⟩
      exact (ite_congr this (fun _ => rfl) (fun _ => rfl))
    · have hf : ¬ (0 ≤ i ∧ i ≤ j ∧ j ≤ len ∧ z = sz) := by omega
      rw [if_neg hf]
      simp [aSlice, bounds, natOr, toNat?, h1, h0]
  · simp [aSlice, bounds, natOr, toNat?, h0]
theorem ldE_head {e : AVal} {r : List AVal} {o sz : Nat} {agg : Bool} {h : Heap} : ldE (e :: r) 0 o sz agg h = (part e.cells o sz agg).map (·, h) := rfl
end Go.Abs
namespace Go.Abs
open Am
set_option maxRecDepth 100000
set_option linter.unusedSimpArgs false
def helloL : List UInt8 := [104, 101, 108, 108, 111]
def eA : Ent := ⟨[97], 2, 0, 0, 0, 0, [], .mk false false helloL⟩
def wA : List UInt8 := writeL [eA]
theorem checkA : (checkT [eA]).2 = 0 := by decide +kernel
theorem recsA : recsE eA = [] := by
  unfold recsE rst3 rst4 rst5 rst6 rst7
  have h1 : idB eA.gid = true := idB_iff.2 ⟨by decide, by decide⟩
  have h2 : linkE eA.link = true := rfl
  have h3 : timeB eA.time = true := timeB_iff.2 ⟨by decide, by decide⟩
  have h4 : (splitN eA.path).2.2 = true := by decide
  have h5 : idB eA.uid = true := idB_iff.2 ⟨by decide, by decide⟩
  rw [h1, h2, h3, h4, h5]
  rfl
theorem wA_eq : wA = encB (hdrE eA []) ++ (helloL ++ (List.replicate 507 0 ++ zeros1024)) := by
  unfold wA writeL outL pieceL preE
  rw [recsA, if_pos rfl]
  simp only [outL, List.nil_append, List.append_nil, List.append_assoc]
  rfl
theorem lenA : wA.length = 2048 := by
  rw [wA_eq]
  simp only [List.length_append, encB_length, zeros1024_length, List.length_replicate]
  rfl
theorem readA (c t : Bool) : readE (.mk c t wA) = some [rdEnt eA] := readE_writeL c t checkA
end Go.Abs
namespace Go.Abs
open Am
set_option maxRecDepth 20000
set_option linter.unusedSimpArgs false
theorem h40 (c tmp : Bool) (t : List Ent) (ht : t.length ≤ 140737488351232) (hq : ∀ e ∈ t, EntL e) (r0 : Bool) : ∀ (rest done : List Ent) (acc n i : Int), t = done ++ rest → i = done.length → n = t.length → 0 ≤ acc → acc ≤ 65536 → r0 = !largeB acc rest →
    HD AA 0 [2, 3, 6, 7, 8] l40_0 ⟨[.junk, .junk, .bool false, .int .i64 acc, .junk, .junk, .view 8 (t.map Ent.av) c tmp, .int .i64 n, .int .i64 i, .junk, .junk, .junk, .junk, .junk, .junk, .junk, .junk, .junk, .junk, .junk, .junk, .junk, .junk, .junk, .junk, .junk, .junk, .junk, .junk], [], 0⟩ [.blk 0, .code r40_0] (Fin [(2, none)] 0 (.bool r0) [])
  | [], done, acc, n, i, h1, h2, h3, h4, h5, h6 => by
    subst h1
    simp at h3
    refine hd_of (by unfold l40_0; rfl) ?_
    simp only [largeB, Bool.not_false] at h6
    rw [h6]
    have gg := trivial; repeat' first | simp (maxSteps := 2000000) (disch := omega) only [gg, r40_0, go_sem] | (refine br ?_ ?_ <;> intro gg <;> try (exfalso; omega)) | (refine And.intro ?_ ?_; focus omega) | omega
  | e :: rest, done, acc, n, i, h1, h2, h3, h4, h5, h6 => by
    have hg0 : t[i.toNat]? = some e := by
      rw [h1]
      simp [h2]
    have hl : i.toNat < t.length := by rw [h1]; simp; omega
    obtain ⟨l1, l2, l3⟩ := hq e (by simp [h1])
    unfold largeB at h6
    refine hd_of (by unfold l40_0; rfl) ?_
    by_cases hc : 65536 < acc + (512 + (e.data.l.length : Int) + e.path.length + e.link.length)
    · rw [if_pos hc, Bool.not_true] at h6
      rw [h6]
      have gg := trivial; repeat' first | simp (maxSteps := 2000000) (disch := omega) only [gg, hg0, lp_head, go_sem] | (refine br ?_ ?_ <;> intro gg <;> try (exfalso; omega)) | (refine And.intro ?_ ?_; focus omega) | omega
    · rw [if_neg hc] at h6
      have ih := h40 c tmp t ht hq r0 rest (done ++ [e]) (acc + (512 + (e.data.l.length : Int) + e.path.length + e.link.length)) n (i + 1) (by simp [h1]) (by first | omega | (simp; omega) | (simp; done)) h3 (by omega) (by omega) h6
      have gg := trivial; repeat' first | simp (maxSteps := 2000000) (disch := omega) only [gg, hg0, lp_head, go_sem] | (refine br ?_ ?_ <;> intro gg <;> try (exfalso; omega)) | (refine And.intro ?_ ?_; focus omega) | omega
theorem s40 (c tmp : Bool) (t : List Ent) (ht : t.length ≤ 140737488351232) (hq : ∀ e ∈ t, EntL e) : callT AA 40 [.view 8 (t.map Ent.av) c tmp] [] = some (.bool (!largeB 0 t), []) := by
  have hh := h40 c tmp t ht hq (!largeB 0 t) t [] 0 t.length 0 rfl rfl rfl (by omega) (by omega) rfl
  refine enter fn40 np40 rfl ?_
  have gg := trivial; repeat' first | simp (maxSteps := 2000000) (disch := omega) only [gg, b40, lp_head, go_sem] | (refine br ?_ ?_ <;> intro gg <;> try (exfalso; omega)) | (refine And.intro ?_ ?_; focus omega) | omega
theorem s40n : callT AA 40 [.lit (.slice none 0 0)] [] = some (.bool true, []) := by
  refine enter fn40 np40 rfl ?_
  have gg := trivial; repeat' first | simp (maxSteps := 2000000) (disch := omega) only [gg, b40, lp_head, go_sem] | (refine br ?_ ?_ <;> intro gg <;> try (exfalso; omega)) | (refine And.intro ?_ ?_; focus omega) | omega
  refine hd_of (by unfold l40_0; rfl) ?_
  have gg := trivial; repeat' first | simp (maxSteps := 2000000) (disch := omega) only [gg, r40_0, go_sem] | (refine br ?_ ?_ <;> intro gg <;> try (exfalso; omega)) | (refine And.intro ?_ ?_; focus omega) | omega
instance decSame {x y : Ent} : Decidable (SameE x y) := by
  unfold SameE
  infer_instance
theorem s74y (x y : Ent) (h : SameE x y) : callT AA 74 [x.av, y.av] [] = some (.bool true, []) := by
  obtain ⟨a, b, c, d, e, f, g, i⟩ := h
  obtain ⟨p, k, m, u, gi, ti, li, da⟩ := x
  obtain ⟨p', k', m', u', gi', ti', li', da'⟩ := y
  simp only at a b c d e f g i
  subst a b c d e f g
  have h62 := s62 da da'
  rw [i, decide_eq_true rfl] at h62
  refine enter fn74 np74 rfl ?_
  have gg := trivial; repeat' first | simp (maxSteps := 2000000) (disch := omega) only [gg, b74, h62, go_sem] | (refine br ?_ ?_ <;> intro gg <;> try (exfalso; omega)) | (refine And.intro ?_ ?_; focus omega) | omega
theorem s74n (x y : Ent) (h : ¬ SameE x y) : callT AA 74 [x.av, y.av] [] = some (.bool false, []) := by
  have h62 := s62 x.data y.data
  unfold SameE at h
  refine enter fn74 np74 rfl ?_
  by_cases a : x.path = y.path
  · have a' := decide_eq_true a
    by_cases b : x.kind = y.kind
    · by_cases c : x.mode = y.mode
      · by_cases d : x.uid = y.uid
        · by_cases e : x.gid = y.gid
          · by_cases f : x.time = y.time
            · by_cases g : x.link = y.link
              · by_cases i : x.data.l = y.data.l
                · exact (h ⟨a.symm, b.symm, c.symm, d.symm, e.symm, f.symm, g.symm, i.symm⟩).elim
                · rw [decide_eq_false i] at h62
                  have gg := trivial; repeat' first | simp (maxSteps := 2000000) (disch := omega) only [gg, b74, h62, a', decide_eq_true g, go_sem] | (refine br ?_ ?_ <;> intro gg <;> try (exfalso; omega)) | (refine And.intro ?_ ?_; focus omega) | omega
              · have gg := trivial; repeat' first | simp (maxSteps := 2000000) (disch := omega) only [gg, b74, a', decide_eq_false g, go_sem] | (refine br ?_ ?_ <;> intro gg <;> try (exfalso; omega)) | (refine And.intro ?_ ?_; focus omega) | omega
            · have gg := trivial; repeat' first | simp (maxSteps := 2000000) (disch := omega) only [gg, b74, a', go_sem] | (refine br ?_ ?_ <;> intro gg <;> try (exfalso; omega)) | (refine And.intro ?_ ?_; focus omega) | omega
          · have gg := trivial; repeat' first | simp (maxSteps := 2000000) (disch := omega) only [gg, b74, a', go_sem] | (refine br ?_ ?_ <;> intro gg <;> try (exfalso; omega)) | (refine And.intro ?_ ?_; focus omega) | omega
        · have gg := trivial; repeat' first | simp (maxSteps := 2000000) (disch := omega) only [gg, b74, a', go_sem] | (refine br ?_ ?_ <;> intro gg <;> try (exfalso; omega)) | (refine And.intro ?_ ?_; focus omega) | omega
      · have gg := trivial; repeat' first | simp (maxSteps := 2000000) (disch := omega) only [gg, b74, a', go_sem] | (refine br ?_ ?_ <;> intro gg <;> try (exfalso; omega)) | (refine And.intro ?_ ?_; focus omega) | omega
    · have gg := trivial; repeat' first | simp (maxSteps := 2000000) (disch := omega) only [gg, b74, a', go_sem] | (refine br ?_ ?_ <;> intro gg <;> try (exfalso; omega)) | (refine And.intro ?_ ?_; focus omega) | omega
  · have gg := trivial; repeat' first | simp (maxSteps := 2000000) (disch := omega) only [gg, b74, decide_eq_false a, go_sem] | (refine br ?_ ?_ <;> intro gg <;> try (exfalso; omega)) | (refine And.intro ?_ ?_; focus omega) | omega
def sameTB : List Ent → List Ent → Bool
  | [], [] => true
  | x :: a, y :: b => decide (SameE x y) && sameTB a b
  | _, _ => false
theorem sameTB_len : ∀ (a b : List Ent), a.length ≠ b.length → sameTB a b = false
  | [], [], h => (h rfl).elim
  | x :: a, y :: b, h => by
    have := sameTB_len a b (by simpa using h)
    simp [sameTB, this]
  | [], _ :: _, _ => rfl
  | _ :: _, [], _ => rfl
theorem sameTB_rd : ∀ (a b : List Ent), sameTB a b = true → a.map rdEnt = b.map rdEnt
  | [], [], _ => rfl
  | x :: a, y :: b, h => by
    simp only [sameTB, Bool.and_eq_true, decide_eq_true_eq] at h
    have ih := sameTB_rd a b h.2
    obtain ⟨h1, h2, h3, h4, h5, h6, h7, h8⟩ := h.1
    have e : rdEnt x = rdEnt y := by
      obtain ⟨p, k, m, u, gi, ti, li, da⟩ := x
      obtain ⟨p', k', m', u', gi', ti', li', da'⟩ := y
      simp only at h1 h2 h3 h4 h5 h6 h7 h8
      subst h1 h2 h3 h4 h5 h6 h7
      simp only [rdEnt, h8]
    rw [List.map_cons, List.map_cons, ih, e]
  | [], _ :: _, h => by cases h
  | _ :: _, [], h => by cases h
theorem h73 (c tmp c2 tmp2 : Bool) (t u : List Ent) (ht : t.length ≤ 1000000) (hl : u.length = t.length) (r0 : Bool) : ∀ (a b : List Ent) (done done2 : List Ent) (i n : Int), t = done ++ a → u = done2 ++ b → done2.length = done.length → i = done.length → n = t.length → r0 = sameTB a b →
    HD AA 0 [1, 2, 6, 15, 16, 17] l73_0 ⟨[.junk, .view 8 (u.map Ent.av) c2 tmp2, .func (.func 74) [], .junk, .junk, .junk, .bool false, .junk, .junk, .junk, .junk, .junk, .junk, .junk, .junk, .view 8 (t.map Ent.av) c tmp, .int .i64 n, .int .i64 i, .junk, .junk, .junk, .junk, .junk, .junk, .junk, .junk, .junk, .junk, .junk, .junk, .junk, .junk], [], 0⟩ [.blk 0, .code r73_0] (Fin [(6, none)] 0 (.bool r0) [])
  | [], b, done, done2, i, n, h1, h2, h3, h4, h5, h6 => by
    have hl1 : t.length = done.length := by rw [h1]; simp
    have hb : b = [] := by
      rw [h2, List.length_append, h3, hl1] at hl
      exact List.eq_nil_of_length_eq_zero (by omega)
    subst hb
    have hr : r0 = true := h6
    subst hr
    refine hd_of (by unfold l73_0; rfl) ?_
    have gg := trivial; repeat' first | simp (maxSteps := 2000000) (disch := omega) only [gg, r73_0, go_sem] | (refine br ?_ ?_ <;> intro gg <;> try (exfalso; omega)) | (refine And.intro ?_ ?_; focus omega) | omega
  | x :: a, [], done, done2, i, n, h1, h2, h3, h4, h5, h6 => by
    rw [h1, h2] at hl
    simp at hl
    omega
  | x :: a, y :: b, done, done2, i, n, h1, h2, h3, h4, h5, h6 => by
    have hl1 : t.length = done.length + (a.length + 1) := by rw [h1]; simp
    have hx : t[i.toNat]? = some x := by
      rw [h1, show i.toNat = done.length by omega]
      simp
    have hy : u[i.toNat]? = some y := by
      rw [h2, show i.toNat = done2.length by omega]
      simp
    by_cases hs : SameE x y
    · have h74 := s74y x y hs
      have e : sameTB (x :: a) (y :: b) = sameTB a b := by simp [sameTB, hs]
      rw [e] at h6
      have ih := h73 c tmp c2 tmp2 t u ht hl r0 a b (done ++ [x]) (done2 ++ [y]) (i + 1) n (by rw [h1]; simp) (by rw [h2]; simp) (by simp [h3]) (by simp; omega) h5 h6
      simp only [Ent.av] at h74
      refine hd_of (by unfold l73_0; rfl) ?_
      have gg := trivial; repeat' first | simp (maxSteps := 2000000) (disch := omega) only [gg, hx, hy, h74, lp_head, go_sem] | (refine br ?_ ?_ <;> intro gg <;> try (exfalso; omega)) | (refine And.intro ?_ ?_; focus omega) | omega
    · have h74 := s74n x y hs
      have e : sameTB (x :: a) (y :: b) = false := by simp [sameTB, hs]
      rw [e] at h6
      subst h6
      simp only [Ent.av] at h74
      refine hd_of (by unfold l73_0; rfl) ?_
      have gg := trivial; repeat' first | simp (maxSteps := 2000000) (disch := omega) only [gg, hx, hy, h74, lp_head, go_sem] | (refine br ?_ ?_ <;> intro gg <;> try (exfalso; omega)) | (refine And.intro ?_ ?_; focus omega) | omega
theorem s37 (c tmp c2 tmp2 : Bool) (t u : List Ent) (ht : t.length ≤ 1000000) (hu : u.length ≤ 1000000) : callT AA 37 [.view 8 (t.map Ent.av) c tmp, .view 8 (u.map Ent.av) c2 tmp2] [] = some (.bool (sameTB t u), []) := by
  have h73 : callT AA 73 [.view 8 (t.map Ent.av) c tmp, .view 8 (u.map Ent.av) c2 tmp2, .func (.func 74) []] [] = some (.bool (sameTB t u), []) := by
    refine enter fn73 np73 rfl ?_
    by_cases hl : u.length = t.length
    · have hh := h73 c tmp c2 tmp2 t u ht hl (sameTB t u) t u [] [] 0 t.length rfl rfl rfl rfl rfl rfl
      have gg := trivial; repeat' first | simp (maxSteps := 2000000) (disch := omega) only [gg, b73, hl, lp_head, go_sem] | (refine br ?_ ?_ <;> intro gg <;> try (exfalso; omega)) | (refine And.intro ?_ ?_; focus omega) | omega
    · rw [sameTB_len t u (fun h => hl h.symm)]
      have gg := trivial; repeat' first | simp (maxSteps := 2000000) (disch := omega) only [gg, b73, go_sem] | (refine br ?_ ?_ <;> intro gg <;> try (exfalso; omega)) | (refine And.intro ?_ ?_; focus omega) | omega
  refine enter fn37 np37 rfl ?_
  have gg := trivial; repeat' first | simp (maxSteps := 2000000) (disch := omega) only [gg, b37, h73, go_sem] | (refine br ?_ ?_ <;> intro gg <;> try (exfalso; omega)) | (refine And.intro ?_ ?_; focus omega) | omega
theorem s37n (c2 tmp2 : Bool) (u : List Ent) (hu : u.length ≤ 1000000) (hne : u ≠ []) : callT AA 37 [.lit (.slice none 0 0), .view 8 (u.map Ent.av) c2 tmp2] [] = some (.bool false, []) := by
  have hl : 0 < u.length := List.length_pos_iff.2 hne
  have h73 : callT AA 73 [.lit (.slice none 0 0), .view 8 (u.map Ent.av) c2 tmp2, .func (.func 74) []] [] = some (.bool false, []) := by
    refine enter fn73 np73 rfl ?_
    have gg := trivial; repeat' first | simp (maxSteps := 2000000) (disch := omega) only [gg, b73, go_sem] | (refine br ?_ ?_ <;> intro gg <;> try (exfalso; omega)) | (refine And.intro ?_ ?_; focus omega) | omega
  refine enter fn37 np37 rfl ?_
  have gg := trivial; repeat' first | simp (maxSteps := 2000000) (disch := omega) only [gg, b37, h73, go_sem] | (refine br ?_ ?_ <;> intro gg <;> try (exfalso; omega)) | (refine And.intro ?_ ?_; focus omega) | omega
theorem s37m (c tmp : Bool) (t : List Ent) (ht : t.length ≤ 1000000) (hne : t ≠ []) : callT AA 37 [.view 8 (t.map Ent.av) c tmp, .lit (.slice none 0 0)] [] = some (.bool false, []) := by
  have hl : 0 < t.length := List.length_pos_iff.2 hne
  have h73 : callT AA 73 [.view 8 (t.map Ent.av) c tmp, .lit (.slice none 0 0), .func (.func 74) []] [] = some (.bool false, []) := by
    refine enter fn73 np73 rfl ?_
    have gg := trivial; repeat' first | simp (maxSteps := 2000000) (disch := omega) only [gg, b73, go_sem] | (refine br ?_ ?_ <;> intro gg <;> try (exfalso; omega)) | (refine And.intro ?_ ?_; focus omega) | omega
  refine enter fn37 np37 rfl ?_
  have gg := trivial; repeat' first | simp (maxSteps := 2000000) (disch := omega) only [gg, b37, h73, go_sem] | (refine br ?_ ?_ <;> intro gg <;> try (exfalso; omega)) | (refine And.intro ?_ ?_; focus omega) | omega
end Go.Abs
namespace Go.Abs
open Go.Proofs Go.RowKit
set_option maxRecDepth 100000
def dotA : List UInt8 := [46, 47, 97]
def normP : List AVal → Option AVal
  | [.str s] => if s = dotA then some (.tuple [.str [97], .lit .nilIface]) else none
  | _ => none
noncomputable def AB : AProg := { AA with prim := fun g => if g = 128 then some normP else prims g }
theorem fn128_none : AA.fn 128 = none := by kernel_rfl
theorem callF_ext : ∀ {k g : Nat} {args : List AVal} {h : Heap} {x : AVal × Heap}, callF AA k g args h = some x → callF AB k g args h = some x
  | 0, _, _, _, _, h => by simp [callF] at h
  | k + 1, g, args, h, x, hx => by
    have hle : Calls.Le { moves := AA.moves, run := callF AA k } { moves := AB.moves, run := callF AB k } := ⟨rfl, fun _ _ _ _ h => callF_ext h⟩
    by_cases hg : g = 128
    · subst hg
      unfold callF at hx
      have hp : AA.prim 128 = none := rfl
      rw [hp, fn128_none] at hx
      have hx : (none : Option (AVal × Heap)) = some x := hx
      cases hx
    · have hp : AB.prim g = AA.prim g := by
        show (if g = 128 then some normP else prims g) = prims g
        rw [if_neg hg]
      unfold callF at hx ⊢
      rw [hp]
      cases hq : AA.prim g with
      | some p =>
        rw [hq] at hx
        exact hx
      | none =>
        rw [hq] at hx
        have hf : AB.fn g = AA.fn g := rfl
        rw [hf]
        simp only at hx ⊢
        cases hfn : AA.fn g with
        | none =>
          rw [hfn] at hx
          exact hx
        | some fn =>
          rw [hfn] at hx
          exact runFn_mono hle (Nat.le_refl _) hx
theorem callT_ext {g : Nat} {args : List AVal} {h : Heap} {x : AVal × Heap} (hx : callT AA g args h = some x) : callT AB g args h = some x := by
  obtain ⟨k, hk⟩ := callT_iff.1 hx
  exact callT_iff.2 ⟨k, callF_ext hk⟩
theorem join_a : callF AA 60 163 [.view 1 [.str [97]] false false] [] = some (.tuple [.str [97], .lit .nilIface], []) := by kernel_rfl
theorem norm_dotA : normRun [] (Am.splitOn 47 dotA) = some [[97]] := by decide
theorem join_calls (base : Nat) (W : World) (v : Value) (hG : GG (fun b => b < W.heap.size) W) (hr : W.ownsRow base 9 1 v 1 [sv [97]]) : Go.Calls Tryz.prog 163 #[v] W fun e W' => e = .returned (.tuple #[sv [97], .nilIface]) ∧ RowKit.Below W.heap.size W W' := by
  rcases hr.2 with ⟨_, h0⟩ | ⟨g, cap, cur, rfl, _, hg, hp1, _⟩
  · cases h0
  have hc : W.cell? ⟨g, 0, none⟩ = some (sv [97]) := by
    have := hr.cellAt 0 (by omega)
    exact this
  have hrep : Rep (fun _ => none) (fun b => b < W.heap.size) (fun _ => False) W (.view 1 [.str [97]] false false) (.slice (some ⟨g, 0, none⟩) 1 cap) := by
    have hlt := (Array.getElem?_eq_some_iff.1 hg).1
    refine .view 1 [.str [97]] false false g 0 cap none (fun _ _ => sv [97]) (.inl rfl) hp1 (by simp) ?_ ?_ ?_ ?_ ?_
    · intro i e _
      exact hlt
    · intro i e he
      match i, he with
      | 0, he => cases he; rfl
      | i + 1, he => cases he
    · intro i e he
      match i, he with
      | 0, he => cases he; rfl
      | i + 1, he => cases he
    · intro i e j x he hx
      match i, he with
      | 0, he =>
        cases he
        match j, hx with
        | 0, hx => exact hc
        | j + 1, hx => cases hx
      | i + 1, he => cases he
    · intro i e j x he hx
      match i, he with
      | 0, he =>
        cases he
        match j, hx with
        | 0, hx => cases hx; exact .str _
        | j + 1, hx => cases hx
      | i + 1, he => cases he
  refine (ev_calls Tryz.func163 (by kernel_rfl) (by kernel_rfl) (callT_iff.2 ⟨60, join_a⟩) (vals := #[.slice (some ⟨g, 0, none⟩) 1 cap]) hG rfl (by
    intro i c v hc' hv
    match i, hc', hv with
    | 0, hc', hv => cases hc'; cases hv; exact hrep
    | i + 1, hc', hv => cases hc')).mono fun e w' => ?_
  rintro ⟨v, _, _, rfl, h1, h2⟩
  obtain ⟨arr, rfl, hl, hh⟩ := h1.tuple_inv
  refine ⟨?_, h2⟩
  have a0 := hh 0 _ (arr[0]'(by rw [← hl]; simp)) rfl (Array.getElem?_eq_getElem _)
  have a1 := hh 1 _ (arr[1]'(by rw [← hl]; simp)) rfl (Array.getElem?_eq_getElem _)
  have e0 := a0.str_inv
  have e1 := a1.lit_inv
  congr 2
  apply Array.ext
  · rw [← hl]; rfl
  · intro i h1 h2
    have hi : i < 2 := by rw [← hl] at h1; simpa using h1
    match i, hi with
    | 0, _ => exact e0
    | 1, _ => exact e1
theorem norm_calls (w : World) (hG : GG (fun b => b < w.heap.size) w) : Go.Calls Tryz.prog 128 #[sv dotA] w fun e W' => e = .returned (.tuple #[sv [97], .nilIface]) ∧ RowKit.Below w.heap.size w W' := by
  have h := nm_128 (fun _ => ([97], 0)) dotA (by decide) (fun q hq base W v hG hr => by
    rw [norm_dotA] at hq
    cases hq
    exact join_calls base W v hG hr) w hG
  have e : nmRes (fun _ => ([97], 0)) dotA = ([97], 0) := by unfold nmRes; rw [norm_dotA]
  rw [e] at h
  exact h
theorem gg_lt {ι : Emb} {S T : Nat → Prop} {w : World} {F : Free} (hg : GG S w) (hi : Inv ι S T [] w F) : GG (fun b => b < w.heap.size) w := ⟨hg.pow, hg.utf, hg.synt, hg.rang, fun b hb => hi.s_lt b (hg.low b hb)⟩
theorem norm_ok {ι : Emb} {S T : Nat → Prop} {w : World} (hg : GG S w) (hi : Inv ι S T [] w (Free.above 0)) : CallOK Tryz.prog 128 #[sv dotA] w (Back ι S T [] w (.tuple [.str [97], .lit .nilIface]) []) := by
  refine call_enter Tryz.func128 (by kernel_rfl) (by kernel_rfl) ?_
  refine (norm_calls w (gg_lt hg hi)).mono ?_
  rintro e w' ⟨rfl, hb⟩
  refine back_of hi hb fun ι' S' T' w'' => .tuple _ _ rfl fun i c u hc hu => ?_
  match i with
  | 0 => simp at hc hu; subst hc; subst hu; exact .str _
  | 1 => simp at hc hu; subst hc; subst hu; exact .lit _
  | i + 2 => simp at hc
theorem ab_of : AB.Of gl0 Tryz.prog [58] GG := {
  mix := aa_of.mix
  stable := aa_of.stable
  glob := aa_of.glob
  fn := fun g afn h => aa_of.fn g afn h
  prim := fun g p hp args r hr ι S T w vals hg hi hl hv => by
    by_cases h : g = 128
    · subst h
      have e : p = normP := by
        have : AB.prim 128 = some normP := rfl
        rw [this] at hp
        exact (Option.some.inj hp).symm
      subst e
      unfold normP at hr
      split at hr <;> try (simp at hr; done)
      split at hr <;> simp only [Option.some.injEq, reduceCtorEq] at hr
      subst hr
      rename_i s hs
      obtain ⟨v, rfl, h1⟩ := one_arg rfl hl hv
      rw [h1.str_inv, hs]
      exact norm_ok hg hi
    · have hp' : AA.prim g = some p := by
        have : AB.prim g = prims g := if_neg h
        rw [this] at hp
        exact hp
      exact aa_of.prim g p hp' args r hr ι S T w vals hg hi hl hv
  primh := aa_of.primh }
theorem law_callsB {g : Nat} {fn : Func} (hf : Tryz.prog.funcs[g]? = some fn) (hb : fn.body.isSome = true) (hn : (fn.name == "runtime.NumGoroutine") = false) {args : List AVal} (hs : callT AB g args [] = some (.bool true, [])) {w : World} {vals : Array Value}
    (hG : GG (fun b => b < w.heap.size) w) (hl : args.length = vals.size) (hr : ∀ (i : Nat) (c : AVal) (v : Value), args[i]? = some c → vals[i]? = some v → Rep (fun _ => none) (fun b => b < w.heap.size) (fun _ => False) w c v) :
    Go.Calls Tryz.prog g vals w fun e w' => e = .returned (.bool true) ∧ RowKit.Below w.heap.size w w' := by
  have hi : Inv (fun _ => none) (fun b => b < w.heap.size) (fun _ => False) [] w (Free.above 0) := ⟨by simp, by simp, by simp, fun _ _ => rfl, fun _ h => h, fun _ h => h.elim⟩
  have h := callT_sound ab_of g args [] (.bool true) [] hs _ _ _ w vals hG hi hl hr
  obtain ⟨c, hc⟩ := Option.isSome_iff_exists.1 hb
  have hrun : (callFunc g vals).run Tryz.prog w = .ok (.enter g vals) w := by
    have hn : ¬ fn.name = "runtime.NumGoroutine" := by simpa using hn
    simp [callFunc, hf, hn, hc]
  unfold CallOK at h
  rw [hrun] at h
  refine Go.Calls.mono h fun e w' he => ?_
  cases e with
  | returned v =>
    obtain ⟨ι', S', n', h1, h2, h3⟩ := he
    rw [h1.bool_inv]
    exact ⟨rfl, h3.os, h3.tape, h3.output, h3.size, fun k hk => h3.frame k hk fun ⟨e, he, _⟩ => by cases he⟩
  | panicked c => exact he.elim
  | outgrown => exact he.elim
end Go.Abs
