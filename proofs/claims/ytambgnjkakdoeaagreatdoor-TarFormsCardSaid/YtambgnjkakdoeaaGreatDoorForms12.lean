import Derived.Test.YtambgnjkakdoeaaGreatDoorForms11
/- PART OF A PROOF (texts joined by a program): F29 F30 F31 F32 F33 F34 Q2 F35 Q3 B3. -/
set_option linter.unusedVariables false
set_option linter.unusedSimpArgs false
set_option linter.unusedSectionVars false
/- ARCHIVES, READ: an entry. -/
namespace Go.Abs
open Am
set_option maxRecDepth 10000
set_option linter.unusedSimpArgs false
theorem s61no (b : BS) (hb : b.l.length ≤ 1000000000) (h : (rdH b).2.2 = false) : callT AA 61 [.ptr 0 0] [(0, .var [b.av])] = some (.tuple [.agg (entCs ⟨[], 0, 0, 0, 0, 0, [], .nil⟩ (.lit (.slice none 0 0))), .bool false], [(0, .var [(hdrR b).av])]) := by
  have h1 := s100r b hb
  rw [h] at h1
  simp only [Hd.av] at h1
  refine enter fn61 np61 rfl ?_
  (simp (maxSteps := 2000000) (disch := omega) only [b61, h1, go_sem]) <;> repeat' (first | ((first | refine gd_dec ?_ ?_ | refine gd_ndec ?_ ?_ | refine cd_dec ?_ ?_ | refine cd_ndec ?_ ?_ | refine gdd_dec ?_ ?_ | refine gdd_ndec ?_ ?_ | refine gd_of ?_ ?_ | refine cd_of ?_ ?_ | refine gdd_of ?_ ?_) <;> intro hg <;> first | (exfalso; omega) | (simp (maxSteps := 2000000) (disch := omega) only [hg, b61, h1, go_sem])) | (refine And.intro ?_ ?_; focus omega) | omega)
set_option maxHeartbeats 40000000 in
theorem s61p (b : BS) (hb : b.l.length ≤ 1000000000) (h : (rdH b).2.2 = true) (c t : Bool) (l : List UInt8) (hbd : (rdH b).2.1 = .mk c t l) (hl : l.length ≤ 1000000000) (hx : (rdH b).1.type ≠ 120) :
    callT AA 61 [.ptr 0 0] [(0, .var [b.av])] = some (.tuple [.agg (entCs (mkE (rdH b).1) (.own 1 1 0 l.length false)), .bool true], [(0, .var [(hdrR b).av]), (1, .row (l.map .byte) 1)]) := by
  have h1 := s100r b hb
  have k1 := s102 1
  have k2 := s102 2
  have k3 := s102 3
  have k4 := s102 4
  have hc := s101 c t l (by omega)
  have e1 : ((typeB 1).toNat : Int) = 53 := rfl
  have e2 : ((typeB 2).toNat : Int) = 48 := rfl
  have e3 : ((typeB 3).toNat : Int) = 50 := rfl
  have e4 : ((typeB 4).toNat : Int) = 49 := rfl
  rw [e1] at k1
  rw [e2] at k2
  rw [e3] at k3
  rw [e4] at k4
  have hty := type_kind h
  have hx' : ¬ ((rdH b).1.type.toNat : Int) = 120 := by
    intro hh
    rcases rdH_type h with h0 | h0 | h0 | h0 | h0
    all_goals rw [h0] at hh hx
    all_goals first | exact hx rfl | (simp at hh)
  rw [h, hbd] at h1
  simp only [Hd.av, mk_av] at h1 hc
  unfold mkE
  generalize (rdH b).1 = H at *
  have ht := fun k => s103on l.length (l.map .byte) ⟨H.path, k, H.mode, H.uid, H.gid, H.time, H.link, .nil⟩
  simp only [entCs] at ht
  rcases hty with ⟨hT, hK⟩ | ⟨hT, hK⟩ | ⟨hT, hK⟩ | ⟨hT, hK⟩ | ⟨hT, hK⟩
  any_goals (exfalso; omega)
  all_goals rw [hT] at h1
  all_goals rw [hK]
  all_goals clear hT hK hx'
  all_goals refine enter fn61 np61 rfl ?_
  all_goals ((simp (maxSteps := 2000000) (disch := omega) only [b61, h1, hc, lp_head, go_sem]) <;> repeat' (first | ((first | refine gd_dec ?_ ?_ | refine gd_ndec ?_ ?_ | refine cd_dec ?_ ?_ | refine cd_ndec ?_ ?_ | refine gdd_dec ?_ ?_ | refine gdd_ndec ?_ ?_ | refine gd_of ?_ ?_ | refine cd_of ?_ ?_ | refine gdd_of ?_ ?_) <;> intro hg <;> first | (exfalso; omega) | (simp (maxSteps := 2000000) (disch := omega) only [hg, b61, h1, hc, lp_head, go_sem])) | (refine And.intro ?_ ?_; focus omega) | omega))
  all_goals refine hd_of (by unfold l61_0; rfl) ?_
  all_goals ((simp (maxSteps := 2000000) (disch := omega) only [k1, lp_head, Int.reduceAdd, go_sem]) <;> repeat' (first | ((first | refine gd_dec ?_ ?_ | refine gd_ndec ?_ ?_ | refine cd_dec ?_ ?_ | refine cd_ndec ?_ ?_ | refine gdd_dec ?_ ?_ | refine gdd_ndec ?_ ?_ | refine gd_of ?_ ?_ | refine cd_of ?_ ?_ | refine gdd_of ?_ ?_) <;> intro hg <;> first | (exfalso; omega) | (simp (maxSteps := 2000000) (disch := omega) only [hg, k1, lp_head, Int.reduceAdd, go_sem])) | (refine And.intro ?_ ?_; focus omega) | omega))
  all_goals refine hd_of (by unfold l61_0; rfl) ?_
  all_goals ((simp (maxSteps := 2000000) (disch := omega) only [k2, lp_head, Int.reduceAdd, go_sem]) <;> repeat' (first | ((first | refine gd_dec ?_ ?_ | refine gd_ndec ?_ ?_ | refine cd_dec ?_ ?_ | refine cd_ndec ?_ ?_ | refine gdd_dec ?_ ?_ | refine gdd_ndec ?_ ?_ | refine gd_of ?_ ?_ | refine cd_of ?_ ?_ | refine gdd_of ?_ ?_) <;> intro hg <;> first | (exfalso; omega) | (simp (maxSteps := 2000000) (disch := omega) only [hg, k2, lp_head, Int.reduceAdd, go_sem])) | (refine And.intro ?_ ?_; focus omega) | omega))
  all_goals refine hd_of (by unfold l61_0; rfl) ?_
  all_goals ((simp (maxSteps := 2000000) (disch := omega) only [k3, lp_head, Int.reduceAdd, go_sem]) <;> repeat' (first | ((first | refine gd_dec ?_ ?_ | refine gd_ndec ?_ ?_ | refine cd_dec ?_ ?_ | refine cd_ndec ?_ ?_ | refine gdd_dec ?_ ?_ | refine gdd_ndec ?_ ?_ | refine gd_of ?_ ?_ | refine cd_of ?_ ?_ | refine gdd_of ?_ ?_) <;> intro hg <;> first | (exfalso; omega) | (simp (maxSteps := 2000000) (disch := omega) only [hg, k3, lp_head, Int.reduceAdd, go_sem])) | (refine And.intro ?_ ?_; focus omega) | omega))
  all_goals refine hd_of (by unfold l61_0; rfl) ?_
  all_goals ((simp (maxSteps := 2000000) (disch := omega) only [k4, lp_head, Int.reduceAdd, go_sem]) <;> repeat' (first | ((first | refine gd_dec ?_ ?_ | refine gd_ndec ?_ ?_ | refine cd_dec ?_ ?_ | refine cd_ndec ?_ ?_ | refine gdd_dec ?_ ?_ | refine gdd_ndec ?_ ?_ | refine gd_of ?_ ?_ | refine cd_of ?_ ?_ | refine gdd_of ?_ ?_) <;> intro hg <;> first | (exfalso; omega) | (simp (maxSteps := 2000000) (disch := omega) only [hg, k4, lp_head, Int.reduceAdd, go_sem])) | (refine And.intro ?_ ?_; focus omega) | omega))
  all_goals refine hd_of (by unfold l61_0; rfl) ?_
  all_goals ((simp (maxSteps := 2000000) (disch := omega) only [r61_0, ht, entCs, go_sem]) <;> repeat' (first | ((first | refine gd_dec ?_ ?_ | refine gd_ndec ?_ ?_ | refine cd_dec ?_ ?_ | refine cd_ndec ?_ ?_ | refine gdd_dec ?_ ?_ | refine gdd_ndec ?_ ?_ | refine gd_of ?_ ?_ | refine cd_of ?_ ?_ | refine gdd_of ?_ ?_) <;> intro hg <;> first | (exfalso; omega) | (simp (maxSteps := 2000000) (disch := omega) only [hg, r61_0, ht, entCs, go_sem])) | (refine And.intro ?_ ?_; focus omega) | omega))
end Go.Abs
/- ARCHIVES, READ: an entry that records tell of. -/
namespace Go.Abs
open Am
set_option maxRecDepth 10000
set_option linter.unusedSimpArgs false
theorem s61x (b : BS) (hb : b.l.length ≤ 1000000) (h : (rdH b).2.2 = true) (hty : (rdH b).1.type = 120) (hd : paxD (rdH b).2.1.l = none) : callT AA 61 [.ptr 0 0] [(0, .var [b.av])] = some (.tuple [.agg (entCs ⟨[], 0, 0, 0, 0, 0, [], .nil⟩ (.lit (.slice none 0 0))), .bool false], [(0, .var [(hdrR b).av])]) := by
  have h1 := s100r b (by omega)
  have h2 := s35 (rdH b).2.1 (Nat.le_trans (rdH_le b) hb)
  have hT : ((rdH b).1.type.toNat : Int) = 120 := by rw [hty]; rfl
  rw [hd] at h2
  simp only [pdV, pdH] at h2
  rw [h] at h1
  simp only [Hd.av] at h1
  rw [hT] at h1
  refine enter fn61 np61 rfl ?_
  (simp (maxSteps := 2000000) (disch := omega) only [b61, h1, h2, go_sem]) <;> repeat' (first | ((first | refine gd_dec ?_ ?_ | refine gd_ndec ?_ ?_ | refine cd_dec ?_ ?_ | refine cd_ndec ?_ ?_ | refine gdd_dec ?_ ?_ | refine gdd_ndec ?_ ?_ | refine gd_of ?_ ?_ | refine cd_of ?_ ?_ | refine gdd_of ?_ ?_) <;> intro hg <;> first | (exfalso; omega) | (simp (maxSteps := 2000000) (disch := omega) only [hg, b61, h1, h2, go_sem])) | (refine And.intro ?_ ?_; focus omega) | omega)
theorem s61xf (b : BS) (hb : b.l.length ≤ 1000000) (h : (rdH b).2.2 = true) (hty : (rdH b).1.type = 120) (rs : List Rcd) (hd : paxD (rdH b).2.1.l = some rs) (h' : (rdH (hdrR b)).2.2 = false) : callT AA 61 [.ptr 0 0] [(0, .var [b.av])] = some (.tuple [.agg (entCs ⟨[], 0, 0, 0, 0, 0, [], .nil⟩ (.lit (.slice none 0 0))), .bool false], [(0, .var [(hdrR (hdrR b)).av])]) := by
  have h1 := s100r b (by omega)
  have h3 := s100r (hdrR b) (by have := hdrR_le b; omega)
  have h2 := s35 (rdH b).2.1 (Nat.le_trans (rdH_le b) hb)
  have hT : ((rdH b).1.type.toNat : Int) = 120 := by rw [hty]; rfl
  rw [hd] at h2
  rw [h] at h1
  rw [h'] at h3
  simp only [Hd.av] at h1 h3
  rw [hT] at h1
  refine enter fn61 np61 rfl ?_
  cases rs with
  | nil =>
    simp only [pdV, pdH] at h2
    (simp (maxSteps := 2000000) (disch := omega) only [b61, h1, h2, h3, go_sem]) <;> repeat' (first | ((first | refine gd_dec ?_ ?_ | refine gd_ndec ?_ ?_ | refine cd_dec ?_ ?_ | refine cd_ndec ?_ ?_ | refine gdd_dec ?_ ?_ | refine gdd_ndec ?_ ?_ | refine gd_of ?_ ?_ | refine cd_of ?_ ?_ | refine gdd_of ?_ ?_) <;> intro hg <;> first | (exfalso; omega) | (simp (maxSteps := 2000000) (disch := omega) only [hg, b61, h1, h2, h3, go_sem])) | (refine And.intro ?_ ?_; focus omega) | omega)
  | cons r rs =>
    simp only [pdV, pdH] at h2
    (simp (maxSteps := 2000000) (disch := omega) only [b61, h1, h2, h3, go_sem]) <;> repeat' (first | ((first | refine gd_dec ?_ ?_ | refine gd_ndec ?_ ?_ | refine cd_dec ?_ ?_ | refine cd_ndec ?_ ?_ | refine gdd_dec ?_ ?_ | refine gdd_ndec ?_ ?_ | refine gd_of ?_ ?_ | refine cd_of ?_ ?_ | refine gdd_of ?_ ?_) <;> intro hg <;> first | (exfalso; omega) | (simp (maxSteps := 2000000) (disch := omega) only [hg, b61, h1, h2, h3, go_sem])) | (refine And.intro ?_ ?_; focus omega) | omega)
end Go.Abs
/- ARCHIVES, READ: an entry that records tell of. -/
namespace Go.Abs
open Am
set_option maxRecDepth 10000
set_option linter.unusedSimpArgs false
set_option maxHeartbeats 40000000 in
theorem s61x1 (b : BS) (hb : b.l.length ≤ 1000000) (h : (rdH b).2.2 = true) (hx : (rdH b).1.type = 120) (r : Rcd) (rs : List Rcd) (hd : paxD (rdH b).2.1.l = some (r :: rs)) (h' : (rdH (hdrR b)).2.2 = true) (c t : Bool) (l : List UInt8) (hbd : (rdH (hdrR b)).2.1 = .mk c t l) (hl : l.length ≤ 1000000000) (hrs : ∀ x ∈ r :: rs, RcdOk x) (hrl : (r :: rs).length ≤ 1000000) :
    callT AA 61 [.ptr 0 0] [(0, .var [b.av])] = some (.tuple [.agg (entCs (toldE (mkE (rdH (hdrR b)).1) (r :: rs)).1 (.own 1 1 0 l.length false)), .bool (toldE (mkE (rdH (hdrR b)).1) (r :: rs)).2], [(0, .var [(hdrR (hdrR b)).av]), (1, .row (l.map .byte) 1)]) := by
  have h1 := s100r b (by omega)
  have h3 := s100r (hdrR b) (by have := hdrR_le b; omega)
  have h2 := s35 (rdH b).2.1 (Nat.le_trans (rdH_le b) hb)
  have k1 := s102 1
  have k2 := s102 2
  have k3 := s102 3
  have k4 := s102 4
  have hc := s101 c t l (by omega)
  have e1 : ((typeB 1).toNat : Int) = 53 := rfl
  have e2 : ((typeB 2).toNat : Int) = 48 := rfl
  have e3 : ((typeB 3).toNat : Int) = 50 := rfl
  have e4 : ((typeB 4).toNat : Int) = 49 := rfl
  rw [e1] at k1
  rw [e2] at k2
  rw [e3] at k3
  rw [e4] at k4
  rw [hd] at h2
  simp only [pdV, pdH] at h2
  rw [h] at h1
  have hty := type_kind h'
  rw [h', hbd] at h3
  simp only [Hd.av, mk_av] at h1 h3 hc
  have hTx : ((rdH b).1.type.toNat : Int) = 120 := by rw [hx]; rfl
  unfold mkE
  generalize (rdH (hdrR b)).1 = H at *
  rw [hTx] at h1
  clear hTx hx
  rcases hty with ⟨hT, hK⟩ | ⟨hT, hK⟩ | ⟨hT, hK⟩ | ⟨hT, hK⟩ | ⟨hT, hK⟩
  all_goals rw [hT] at h3
  all_goals rw [hK]
  all_goals clear hT hK
  all_goals have ht := fun cc tt k => s103o cc tt (r :: rs) hrl hrs l.length (l.map .byte) ⟨H.path, k, H.mode, H.uid, H.gid, H.time, H.link, .nil⟩
  all_goals generalize toldE = TE at *
  all_goals generalize r :: rs = L at *
  all_goals simp only [entCs] at ht
  all_goals refine enter fn61 np61 rfl ?_
  all_goals ((simp (maxSteps := 2000000) (disch := omega) only [b61, h1, h2, h3, hc, lp_head, go_sem]) <;> repeat' (first | ((first | refine gd_dec ?_ ?_ | refine gd_ndec ?_ ?_ | refine cd_dec ?_ ?_ | refine cd_ndec ?_ ?_ | refine gdd_dec ?_ ?_ | refine gdd_ndec ?_ ?_ | refine gd_of ?_ ?_ | refine cd_of ?_ ?_ | refine gdd_of ?_ ?_) <;> intro hg <;> first | (exfalso; omega) | (simp (maxSteps := 2000000) (disch := omega) only [hg, b61, h1, h2, h3, hc, lp_head, go_sem])) | (refine And.intro ?_ ?_; focus omega) | omega))
  all_goals refine hd_of (by unfold l61_0; rfl) ?_
  all_goals ((simp (maxSteps := 2000000) (disch := omega) only [k1, lp_head, Int.reduceAdd, go_sem]) <;> repeat' (first | ((first | refine gd_dec ?_ ?_ | refine gd_ndec ?_ ?_ | refine cd_dec ?_ ?_ | refine cd_ndec ?_ ?_ | refine gdd_dec ?_ ?_ | refine gdd_ndec ?_ ?_ | refine gd_of ?_ ?_ | refine cd_of ?_ ?_ | refine gdd_of ?_ ?_) <;> intro hg <;> first | (exfalso; omega) | (simp (maxSteps := 2000000) (disch := omega) only [hg, k1, lp_head, Int.reduceAdd, go_sem])) | (refine And.intro ?_ ?_; focus omega) | omega))
  all_goals refine hd_of (by unfold l61_0; rfl) ?_
  all_goals ((simp (maxSteps := 2000000) (disch := omega) only [k2, lp_head, Int.reduceAdd, go_sem]) <;> repeat' (first | ((first | refine gd_dec ?_ ?_ | refine gd_ndec ?_ ?_ | refine cd_dec ?_ ?_ | refine cd_ndec ?_ ?_ | refine gdd_dec ?_ ?_ | refine gdd_ndec ?_ ?_ | refine gd_of ?_ ?_ | refine cd_of ?_ ?_ | refine gdd_of ?_ ?_) <;> intro hg <;> first | (exfalso; omega) | (simp (maxSteps := 2000000) (disch := omega) only [hg, k2, lp_head, Int.reduceAdd, go_sem])) | (refine And.intro ?_ ?_; focus omega) | omega))
  all_goals refine hd_of (by unfold l61_0; rfl) ?_
  all_goals ((simp (maxSteps := 2000000) (disch := omega) only [k3, lp_head, Int.reduceAdd, go_sem]) <;> repeat' (first | ((first | refine gd_dec ?_ ?_ | refine gd_ndec ?_ ?_ | refine cd_dec ?_ ?_ | refine cd_ndec ?_ ?_ | refine gdd_dec ?_ ?_ | refine gdd_ndec ?_ ?_ | refine gd_of ?_ ?_ | refine cd_of ?_ ?_ | refine gdd_of ?_ ?_) <;> intro hg <;> first | (exfalso; omega) | (simp (maxSteps := 2000000) (disch := omega) only [hg, k3, lp_head, Int.reduceAdd, go_sem])) | (refine And.intro ?_ ?_; focus omega) | omega))
  all_goals refine hd_of (by unfold l61_0; rfl) ?_
  all_goals ((simp (maxSteps := 2000000) (disch := omega) only [k4, lp_head, Int.reduceAdd, go_sem]) <;> repeat' (first | ((first | refine gd_dec ?_ ?_ | refine gd_ndec ?_ ?_ | refine cd_dec ?_ ?_ | refine cd_ndec ?_ ?_ | refine gdd_dec ?_ ?_ | refine gdd_ndec ?_ ?_ | refine gd_of ?_ ?_ | refine cd_of ?_ ?_ | refine gdd_of ?_ ?_) <;> intro hg <;> first | (exfalso; omega) | (simp (maxSteps := 2000000) (disch := omega) only [hg, k4, lp_head, Int.reduceAdd, go_sem])) | (refine And.intro ?_ ?_; focus omega) | omega))
  all_goals refine hd_of (by unfold l61_0; rfl) ?_
  all_goals ((simp (maxSteps := 2000000) (disch := omega) only [r61_0, ht, entCs, go_sem]) <;> repeat' (first | ((first | refine gd_dec ?_ ?_ | refine gd_ndec ?_ ?_ | refine cd_dec ?_ ?_ | refine cd_ndec ?_ ?_ | refine gdd_dec ?_ ?_ | refine gdd_ndec ?_ ?_ | refine gd_of ?_ ?_ | refine cd_of ?_ ?_ | refine gdd_of ?_ ?_) <;> intro hg <;> first | (exfalso; omega) | (simp (maxSteps := 2000000) (disch := omega) only [hg, r61_0, ht, entCs, go_sem])) | (refine And.intro ?_ ?_; focus omega) | omega))
end Go.Abs
/- ARCHIVES, READ: an entry that records tell of. -/
namespace Go.Abs
open Am
set_option maxRecDepth 10000
set_option linter.unusedSimpArgs false
set_option maxHeartbeats 40000000 in
theorem s61y1 (b : BS) (hb : b.l.length ≤ 1000000) (h : (rdH b).2.2 = true) (hx : (rdH b).1.type = 120) (hd : paxD (rdH b).2.1.l = some []) (h' : (rdH (hdrR b)).2.2 = true) (c t : Bool) (l : List UInt8) (hbd : (rdH (hdrR b)).2.1 = .mk c t l) (hl : l.length ≤ 1000000000) :
    callT AA 61 [.ptr 0 0] [(0, .var [b.av])] = some (.tuple [.agg (entCs (mkE (rdH (hdrR b)).1) (.own 1 1 0 l.length false)), .bool true], [(0, .var [(hdrR (hdrR b)).av]), (1, .row (l.map .byte) 1)]) := by
  have h1 := s100r b (by omega)
  have h3 := s100r (hdrR b) (by have := hdrR_le b; omega)
  have h2 := s35 (rdH b).2.1 (Nat.le_trans (rdH_le b) hb)
  have k1 := s102 1
  have k2 := s102 2
  have k3 := s102 3
  have k4 := s102 4
  have hc := s101 c t l (by omega)
  have e1 : ((typeB 1).toNat : Int) = 53 := rfl
  have e2 : ((typeB 2).toNat : Int) = 48 := rfl
  have e3 : ((typeB 3).toNat : Int) = 50 := rfl
  have e4 : ((typeB 4).toNat : Int) = 49 := rfl
  rw [e1] at k1
  rw [e2] at k2
  rw [e3] at k3
  rw [e4] at k4
  rw [hd] at h2
  simp only [pdV, pdH] at h2
  rw [h] at h1
  have hty := type_kind h'
  rw [h', hbd] at h3
  simp only [Hd.av, mk_av] at h1 h3 hc
  have hTx : ((rdH b).1.type.toNat : Int) = 120 := by rw [hx]; rfl
  unfold mkE
  generalize (rdH (hdrR b)).1 = H at *
  rw [hTx] at h1
  clear hTx hx
  rcases hty with ⟨hT, hK⟩ | ⟨hT, hK⟩ | ⟨hT, hK⟩ | ⟨hT, hK⟩ | ⟨hT, hK⟩
  all_goals rw [hT] at h3
  all_goals rw [hK]
  all_goals clear hT hK
  all_goals have ht := fun k => s103on l.length (l.map .byte) ⟨H.path, k, H.mode, H.uid, H.gid, H.time, H.link, .nil⟩
  all_goals simp only [entCs] at ht
  all_goals refine enter fn61 np61 rfl ?_
  all_goals ((simp (maxSteps := 2000000) (disch := omega) only [b61, h1, h2, h3, hc, lp_head, go_sem]) <;> repeat' (first | ((first | refine gd_dec ?_ ?_ | refine gd_ndec ?_ ?_ | refine cd_dec ?_ ?_ | refine cd_ndec ?_ ?_ | refine gdd_dec ?_ ?_ | refine gdd_ndec ?_ ?_ | refine gd_of ?_ ?_ | refine cd_of ?_ ?_ | refine gdd_of ?_ ?_) <;> intro hg <;> first | (exfalso; omega) | (simp (maxSteps := 2000000) (disch := omega) only [hg, b61, h1, h2, h3, hc, lp_head, go_sem])) | (refine And.intro ?_ ?_; focus omega) | omega))
  all_goals refine hd_of (by unfold l61_0; rfl) ?_
  all_goals ((simp (maxSteps := 2000000) (disch := omega) only [k1, lp_head, Int.reduceAdd, go_sem]) <;> repeat' (first | ((first | refine gd_dec ?_ ?_ | refine gd_ndec ?_ ?_ | refine cd_dec ?_ ?_ | refine cd_ndec ?_ ?_ | refine gdd_dec ?_ ?_ | refine gdd_ndec ?_ ?_ | refine gd_of ?_ ?_ | refine cd_of ?_ ?_ | refine gdd_of ?_ ?_) <;> intro hg <;> first | (exfalso; omega) | (simp (maxSteps := 2000000) (disch := omega) only [hg, k1, lp_head, Int.reduceAdd, go_sem])) | (refine And.intro ?_ ?_; focus omega) | omega))
  all_goals refine hd_of (by unfold l61_0; rfl) ?_
  all_goals ((simp (maxSteps := 2000000) (disch := omega) only [k2, lp_head, Int.reduceAdd, go_sem]) <;> repeat' (first | ((first | refine gd_dec ?_ ?_ | refine gd_ndec ?_ ?_ | refine cd_dec ?_ ?_ | refine cd_ndec ?_ ?_ | refine gdd_dec ?_ ?_ | refine gdd_ndec ?_ ?_ | refine gd_of ?_ ?_ | refine cd_of ?_ ?_ | refine gdd_of ?_ ?_) <;> intro hg <;> first | (exfalso; omega) | (simp (maxSteps := 2000000) (disch := omega) only [hg, k2, lp_head, Int.reduceAdd, go_sem])) | (refine And.intro ?_ ?_; focus omega) | omega))
  all_goals refine hd_of (by unfold l61_0; rfl) ?_
  all_goals ((simp (maxSteps := 2000000) (disch := omega) only [k3, lp_head, Int.reduceAdd, go_sem]) <;> repeat' (first | ((first | refine gd_dec ?_ ?_ | refine gd_ndec ?_ ?_ | refine cd_dec ?_ ?_ | refine cd_ndec ?_ ?_ | refine gdd_dec ?_ ?_ | refine gdd_ndec ?_ ?_ | refine gd_of ?_ ?_ | refine cd_of ?_ ?_ | refine gdd_of ?_ ?_) <;> intro hg <;> first | (exfalso; omega) | (simp (maxSteps := 2000000) (disch := omega) only [hg, k3, lp_head, Int.reduceAdd, go_sem])) | (refine And.intro ?_ ?_; focus omega) | omega))
  all_goals refine hd_of (by unfold l61_0; rfl) ?_
  all_goals ((simp (maxSteps := 2000000) (disch := omega) only [k4, lp_head, Int.reduceAdd, go_sem]) <;> repeat' (first | ((first | refine gd_dec ?_ ?_ | refine gd_ndec ?_ ?_ | refine cd_dec ?_ ?_ | refine cd_ndec ?_ ?_ | refine gdd_dec ?_ ?_ | refine gdd_ndec ?_ ?_ | refine gd_of ?_ ?_ | refine cd_of ?_ ?_ | refine gdd_of ?_ ?_) <;> intro hg <;> first | (exfalso; omega) | (simp (maxSteps := 2000000) (disch := omega) only [hg, k4, lp_head, Int.reduceAdd, go_sem])) | (refine And.intro ?_ ?_; focus omega) | omega))
  all_goals refine hd_of (by unfold l61_0; rfl) ?_
  all_goals ((simp (maxSteps := 2000000) (disch := omega) only [r61_0, ht, entCs, go_sem]) <;> repeat' (first | ((first | refine gd_dec ?_ ?_ | refine gd_ndec ?_ ?_ | refine cd_dec ?_ ?_ | refine cd_ndec ?_ ?_ | refine gdd_dec ?_ ?_ | refine gdd_ndec ?_ ?_ | refine gd_of ?_ ?_ | refine cd_of ?_ ?_ | refine gdd_of ?_ ?_) <;> intro hg <;> first | (exfalso; omega) | (simp (maxSteps := 2000000) (disch := omega) only [hg, r61_0, ht, entCs, go_sem])) | (refine And.intro ?_ ?_; focus omega) | omega))
end Go.Abs
/- ARCHIVES, READ: an entry, in one rule. -/
namespace Go.Abs
open Am
set_option maxRecDepth 10000
set_option linter.unusedSimpArgs false
/-- the next entry, what is left behind it -/
def entP (b : BS) : Option (Ent × BS) :=
  if (rdH b).2.2 = false then none else
  if (rdH b).1.type = 120 then
    match paxD (rdH b).2.1.l with
    | none => none
    | some rs => if (rdH (hdrR b)).2.2 = false then none else
      if (toldE (mkE (rdH (hdrR b)).1) rs).2 = true then some ({ (toldE (mkE (rdH (hdrR b)).1) rs).1 with data := .mk false false (rdH (hdrR b)).2.1.l }, hdrR (hdrR b)) else none
  else some ({ mkE (rdH b).1 with data := .mk false false (rdH b).2.1.l }, hdrR b)
theorem decP_ok : ∀ (k : Nat) (p : Option Rcd) (acc : List Rcd) (l : List UInt8) (rs : List Rcd), decP k p acc l = some rs → (∀ r ∈ acc, r.key.length ≤ 65536 ∧ r.value.length ≤ 65536) → l.length ≤ 65536 → (∀ r ∈ rs, r.key.length ≤ 65536 ∧ r.value.length ≤ 65536) ∧ rs.length ≤ acc.length + k
  | 0, p, acc, l, rs, h, ha, hl => by
    unfold decP at h
    cases h
    exact ⟨ha, by omega⟩
  | k + 1, p, acc, l, rs, h, ha, hl => by
    unfold decP at h
    by_cases c0 : l = []
    · rw [if_pos c0] at h
      cases h
      exact ⟨ha, by omega⟩
    rw [if_neg c0] at h
    by_cases c1 : (firstP l).2 = 0 ∨ aftB p (firstP l).1 = false
    · rw [if_pos c1] at h
      cases h
    rw [if_neg c1] at h
    have hf := firstP_le l
    obtain ⟨h1, h2⟩ := decP_ok k _ _ _ _ h (by
      intro r hr
      rcases List.mem_append.1 hr with hr | hr
      · exact ha r hr
      · rw [List.mem_singleton.1 hr]
        omega) (by rw [List.length_drop]; omega)
    rw [List.length_append, List.length_singleton] at h2
    exact ⟨h1, by omega⟩
theorem paxD_ok {l : List UInt8} {rs : List Rcd} (h : paxD l = some rs) : (∀ r ∈ rs, RcdOk r) ∧ rs.length ≤ 1000000 := by
  unfold paxD at h
  by_cases c : 65536 < l.length
  · rw [if_pos c] at h
    cases h
  rw [if_neg c] at h
  obtain ⟨h1, h2⟩ := decP_ok _ _ _ _ _ h (by simp) (by omega)
  refine ⟨fun r hr => ?_, ?_⟩
  · have := h1 r hr
    exact ⟨by omega, by omega⟩
  · simp at h2
    omega
theorem rdH_mk {b : BS} (h : (rdH b).2.2 = true) : ∃ c t l, (rdH b).2.1 = .mk c t l := by
  unfold rdH at h ⊢
  by_cases c1 : b.l.length < 512 ∨ decOk (b.sl 0 512).l = false
  · rw [if_pos c1] at h
    cases h
  · rw [if_neg c1] at h ⊢
    by_cases c2 : wholeN (decH (b.sl 0 512).l).size ≤ (b.sl 512 b.l.length).l.length
    · rw [if_pos c2]
      cases b with
      | nil => exact (c1 (.inl (by simp [BS.l]))).elim
      | mk c t l => exact ⟨_, _, _, rfl⟩
    · rw [if_neg c2] at h
      cases h
/-- what an entry's reading gives -/
def EntR (b : BS) : Prop := match entP b with
  | some (e, r) => callT AA 61 [.ptr 0 0] [(0, .var [b.av])] = some (.tuple [.agg (entCs e (.own 1 1 0 e.data.l.length false)), .bool true], [(0, .var [r.av]), (1, .row (e.data.l.map .byte) 1)])
  | none => (∃ e r, callT AA 61 [.ptr 0 0] [(0, .var [b.av])] = some (.tuple [.agg (entCs e (.lit (.slice none 0 0))), .bool false], [(0, .var [BS.av r])])) ∨
    (∃ e r l, callT AA 61 [.ptr 0 0] [(0, .var [b.av])] = some (.tuple [.agg (entCs e (.own 1 1 0 (List.length l) false)), .bool false], [(0, .var [BS.av r]), (1, .row (l.map .byte) 1)]))
theorem s61f (b : BS) (hb : b.l.length ≤ 1000000) : EntR b := by
  unfold EntR entP
  by_cases c0 : (rdH b).2.2 = false
  · rw [if_pos c0]
    exact .inl ⟨_, _, s61no b (by omega) c0⟩
  rw [if_neg c0]
  have c0 : (rdH b).2.2 = true := by simpa using c0
  obtain ⟨c, t, l, hbd⟩ := rdH_mk c0
  have hl : l.length ≤ 1000000 := by
    have := rdH_le b
    rw [hbd, mk_l] at this
    omega
  by_cases c1 : (rdH b).1.type = 120
  · rw [if_pos c1]
    cases c2 : paxD (rdH b).2.1.l with
    | none => exact .inl ⟨_, _, s61x b hb c0 c1 c2⟩
    | some rs =>
      simp only
      by_cases c3 : (rdH (hdrR b)).2.2 = false
      · rw [if_pos c3]
        exact .inl ⟨_, _, s61xf b hb c0 c1 rs c2 c3⟩
      rw [if_neg c3]
      have c3 : (rdH (hdrR b)).2.2 = true := by simpa using c3
      obtain ⟨c', t', l', hbd'⟩ := rdH_mk c3
      have hl' : l'.length ≤ 1000000000 := by
        have h1 := rdH_le (hdrR b)
        have h2 := hdrR_le b
        rw [hbd', mk_l] at h1
        omega
      have hrs := paxD_ok c2
      have key : callT AA 61 [.ptr 0 0] [(0, .var [b.av])] = some (.tuple [.agg (entCs (toldE (mkE (rdH (hdrR b)).1) rs).1 (.own 1 1 0 l'.length false)), .bool (toldE (mkE (rdH (hdrR b)).1) rs).2], [(0, .var [(hdrR (hdrR b)).av]), (1, .row (l'.map .byte) 1)]) := by
        cases rs with
        | nil => exact s61y1 b hb c0 c1 c2 c3 c' t' l' hbd' hl'
        | cons r rs => exact s61x1 b hb c0 c1 r rs c2 c3 c' t' l' hbd' hl' hrs.1 hrs.2
      have hb1 : (rdH (hdrR b)).2.1.l = l' := by rw [hbd']; rfl
      rw [hb1]
      by_cases c4 : (toldE (mkE (rdH (hdrR b)).1) rs).2 = true
      · rw [if_pos c4]
        rw [c4] at key
        exact key
      · rw [if_neg c4]
        have c4 : (toldE (mkE (rdH (hdrR b)).1) rs).2 = false := by simpa using c4
        rw [c4] at key
        exact .inr ⟨_, _, _, key⟩
  · rw [if_neg c1]
    have hb1 : (rdH b).2.1.l = l := by rw [hbd]; rfl
    rw [hb1]
    show callT AA 61 [.ptr 0 0] [(0, .var [b.av])] = some (.tuple [.agg (entCs (mkE (rdH b).1) (.own 1 1 0 l.length false)), .bool true], [(0, .var [(hdrR b).av]), (1, .row (l.map .byte) 1)])
    exact s61p b (by omega) c0 c t l hbd (by omega) c1
end Go.Abs
/- PLAIN: what is a tree can be written. -/
namespace Go.Abs
open Am
set_option maxRecDepth 10000
set_option linter.unusedSimpArgs false
theorem good_le {s : List UInt8} (h : goodB s = true) : s.length ≤ 400 := by
  unfold goodB at h
  simp only [Bool.and_eq_true, decide_eq_true_eq] at h
  exact h.1
theorem good_ne {s : List UInt8} (h : goodB s = true) : s ≠ [] := by
  rintro rfl
  have : goodB [] = false := by decide
  rw [this] at h
  cases h
theorem text_ne {s : List UInt8} {n : Int} (h : textB s n = true) : s ≠ [] ∧ (s.length : Int) ≤ n := by
  unfold textB at h
  simp only [Bool.and_eq_true, decide_eq_true_eq] at h
  exact ⟨h.1.1.1, h.1.1.2⟩
theorem meta_le {n least : Int} (h : metaB n least = true) : least ≤ n ∧ n ≤ 1099511627776 := by
  unfold metaB at h
  simpa using h
/-- what good fields are -/
structure FieldsOk (e : Ent) : Prop where
  mode : 0 ≤ e.mode ∧ e.mode ≤ 4095
  uid : 0 ≤ e.uid ∧ e.uid ≤ 1099511627776
  gid : 0 ≤ e.gid ∧ e.gid ≤ 1099511627776
  time : -1099511627776 ≤ e.time ∧ e.time ≤ 1099511627776
  link : e.link.length ≤ 400
  data : e.data.l.length ≤ 65536
  kinds : (e.kind = 1 ∧ e.link = [] ∧ e.data.l.length = 0) ∨ (e.kind = 2 ∧ e.link = []) ∨ (e.kind = 3 ∧ e.link ≠ [] ∧ e.data.l.length = 0) ∨ (e.kind = 4 ∧ e.link ≠ [] ∧ e.data.l.length = 0)
theorem fields_ok {e : Ent} (h : fieldsB e = true) : FieldsOk e := by
  unfold fieldsB at h
  by_cases c1 : e.mode < 0 ∨ 4095 < e.mode
  · rw [if_pos c1] at h; cases h
  rw [if_neg c1] at h
  by_cases c2 : metaB e.uid 0 = false ∨ metaB e.gid 0 = false ∨ metaB e.time (-1099511627776) = false
  · rw [if_pos c2] at h; cases h
  rw [if_neg c2] at h
  have m1 : metaB e.uid 0 = true := by
    cases hm : metaB e.uid 0 with
    | true => rfl
    | false => exact (c2 (.inl hm)).elim
  have m2 : metaB e.gid 0 = true := by
    cases hm : metaB e.gid 0 with
    | true => rfl
    | false => exact (c2 (.inr (.inl hm))).elim
  have m3 : metaB e.time (-1099511627776) = true := by
    cases hm : metaB e.time (-1099511627776) with
    | true => rfl
    | false => exact (c2 (.inr (.inr hm))).elim
  have m1 := meta_le m1
  have m2 := meta_le m2
  have m3 := meta_le m3
  have key : e.link.length ≤ 400 ∧ e.data.l.length ≤ 65536 ∧ ((e.kind = 1 ∧ e.link = [] ∧ e.data.l.length = 0) ∨ (e.kind = 2 ∧ e.link = []) ∨ (e.kind = 3 ∧ e.link ≠ [] ∧ e.data.l.length = 0) ∨ (e.kind = 4 ∧ e.link ≠ [] ∧ e.data.l.length = 0)) := by
    by_cases k1 : e.kind = 1
    · rw [if_pos k1] at h
      simp only [Bool.and_eq_true, decide_eq_true_eq] at h
      exact ⟨by rw [h.1]; simp, by omega, .inl ⟨k1, h.1, h.2⟩⟩
    rw [if_neg k1] at h
    by_cases k2 : e.kind = 2
    · rw [if_pos k2] at h
      simp only [Bool.and_eq_true, decide_eq_true_eq] at h
      exact ⟨by rw [h.1]; simp, by omega, .inr (.inl ⟨k2, h.1⟩)⟩
    rw [if_neg k2] at h
    by_cases k3 : e.kind = 3
    · rw [if_pos k3] at h
      simp only [Bool.and_eq_true, decide_eq_true_eq] at h
      have ht := text_ne h.1
      exact ⟨by omega, by omega, .inr (.inr (.inl ⟨k3, ht.1, h.2⟩))⟩
    rw [if_neg k3] at h
    by_cases k4 : e.kind = 4
    · rw [if_pos k4] at h
      simp only [Bool.and_eq_true, decide_eq_true_eq] at h
      exact ⟨good_le h.1.1.1.1.1, by omega, .inr (.inr (.inr ⟨k4, good_ne h.1.1.1.1.1, h.1.1.1.1.2⟩))⟩
    rw [if_neg k4] at h
    cases h
  exact ⟨by omega, by omega, by omega, by omega, key.1, key.2.1, key.2.2⟩
theorem entryE_good {c : Ck} {e : Ent} (h : (entryE c e).1 = 0) : goodB e.path = true ∧ fieldsB e = true := by
  unfold entryE at h
  by_cases g1 : goodB e.path = false
  · rw [if_pos g1] at h; simp at h
  rw [if_neg g1] at h
  by_cases g2 : fieldsB e = false
  · rw [if_pos g2] at h; simp at h
  exact ⟨by simpa using g1, by simpa using g2⟩
theorem checkL_good : ∀ (t : List Ent) (c : Ck) (i : Int), 0 ≤ i → (checkL c i t).2 = 0 → ∀ e ∈ t, goodB e.path = true ∧ fieldsB e = true
  | [], _, _, _, _, e, he => by cases he
  | e :: r, c, i, hi, h, x, hx => by
    unfold checkL at h
    by_cases g : (entryE c e).1 = 0
    · rw [if_pos g] at h
      rcases List.mem_cons.1 hx with rfl | hx
      · exact entryE_good g
      · exact checkL_good r _ (i + 1) (by omega) h x hx
    · rw [if_neg g] at h
      exact (g h).elim
theorem checkT_good {t : List Ent} (h : (checkT t).2 = 0) : t.length ≤ 200 ∧ ∀ e ∈ t, goodB e.path = true ∧ fieldsB e = true := by
  unfold checkT at h
  by_cases c : 200 < t.length
  · rw [if_pos c] at h; simp at h
  · rw [if_neg c] at h
    exact ⟨by omega, checkL_good t _ 0 (by omega) h⟩
/-! ## headers -/
theorem hdrE_eq (e : Ent) : hdrE e (recsE e) = ⟨if (splitN e.path).2.2 then e.path else paxB, e.mode, if idB e.uid then e.uid else 0, if idB e.gid then e.gid else 0, e.data.l.length, if timeB e.time then e.time else 0, typeB e.kind, if linkE e.link then e.link else paxB⟩ := by
  unfold hdrE recsE rst3 rst4 rst5 rst6 rst7
  cases idB e.gid <;> cases linkE e.link <;> cases timeB e.time <;> cases (splitN e.path).2.2 <;> cases idB e.uid <;> simp [recIf, setR, hdE, gidB, linkpathB, mtimeB, pathB, uidB]
theorem split_paxB : (splitN paxB).2.2 = true := by decide
theorem link_paxB : linkB paxB = true := by unfold linkB; decide
theorem linkE_ne {l : List UInt8} (h : l ≠ []) : linkE l = linkB l := by
  unfold linkE
  simp [h]
theorem idB_zero : idB 0 = true := idB_iff.2 (by omega)
theorem timeB_zero : timeB 0 = true := timeB_iff.2 (by omega)
theorem encOk_hdrE {e : Ent} (h : FieldsOk e) : encOk (hdrE e (recsE e)) = true := by
  rw [hdrE_eq]
  unfold encOk fitsB
  simp only [Bool.and_eq_true]
  refine ⟨?_, ⟨⟨⟨⟨?_, ?_⟩, ?_⟩, ?_⟩, ?_⟩, ?_⟩
  · split
    · assumption
    · exact split_paxB
  · exact idB_iff.2 (by have := h.mode; omega)
  · split
    · assumption
    · exact idB_zero
  · split
    · assumption
    · exact idB_zero
  · exact timeB_iff.2 (by have := h.data; omega)
  · split
    · assumption
    · exact timeB_zero
  · rcases h.kinds with ⟨k, hl, hd⟩ | ⟨k, hl⟩ | ⟨k, hl, hd⟩ | ⟨k, hl, hd⟩
    · have hn : linkE ([] : List UInt8) = true := rfl
      simp [k, hl, hd, typeB, hn]
    · have hn : linkE ([] : List UInt8) = true := rfl
      simp [k, hl, typeB, hn]
    · rw [linkE_ne hl]
      cases hb : linkB e.link <;> simp [k, hd, typeB, hb, link_paxB]
    · rw [linkE_ne hl]
      cases hb : linkB e.link <;> simp [k, hd, typeB, hb, link_paxB]
/-! ## records -/
theorem paxE_some : ∀ (rs : List Rcd) (p : Option Rcd) (out : List UInt8), (∀ r ∈ rs, lineOk r.key r.value = true ∧ (lineB r.key r.value).length ≤ 600) → (match p with | none => rs | some p => p :: rs).Pairwise (fun a b : Rcd => Op.bytesLess a.key b.key = true) → out.length + 600 * rs.length ≤ 65536 → (paxE p out rs).isSome = true
  | [], _, _, _, _, _ => rfl
  | r :: rs, p, out, h1, h2, h3 => by
    obtain ⟨g1, g2⟩ := h1 r (by simp)
    simp only [List.length_cons] at h3
    have hs : paxStep p out r = true := by
      unfold paxStep
      simp only [Bool.and_eq_true, decide_eq_true_eq]
      refine ⟨⟨g1, ?_⟩, by omega⟩
      cases p with
      | none => rfl
      | some p => exact (List.pairwise_cons.1 h2).1 r (by simp)
    unfold paxE
    rw [if_pos hs]
    refine paxE_some rs (some r) _ (fun x hx => h1 x (by simp [hx])) ?_ ?_
    · cases p with
      | none => exact h2
      | some p => exact (List.pairwise_cons.1 h2).2
    · rw [List.length_append]
      omega
theorem lineOk_short {k v : List UInt8} (hk : kwB k = true) (hv : v.length ≤ 400) : lineOk k v = true ∧ (lineB k v).length ≤ 600 := by
  have hkl : k.length ≤ 100 := by
    unfold kwB at hk
    simp only [Bool.and_eq_true, decide_eq_true_eq] at hk
    exact hk.1.2
  have h1 := restP_length (k := k) (v := v)
  have h2 := paxLen_le (rest := ((restP k v).length : Int)) (by omega) (by omega)
  have h3 := lineB_length hkl (v := v) (by omega)
  unfold lineOk
  refine ⟨?_, by omega⟩
  simp only [Bool.and_eq_true, decide_eq_true_eq]
  exact ⟨⟨hk, by omega⟩, by omega⟩
theorem recs_keys (e : Ent) : ((recsE e).map Rcd.key).Pairwise (fun a b => Op.bytesLess a b = true) := by
  unfold recsE rst3 rst4 rst5 rst6 rst7
  cases idB e.gid <;> cases linkE e.link <;> cases timeB e.time <;> cases (splitN e.path).2.2 <;> cases idB e.uid <;> simp only [recIf, if_true, if_false, List.nil_append, List.cons_append, List.map_cons, List.map_nil, Bool.false_eq_true] <;> decide
theorem recs_short {e : Ent} (hf : FieldsOk e) (hp : e.path.length ≤ 400) : ∀ r ∈ recsE e, kwB r.key = true ∧ r.value.length ≤ 400 := by
  have k1 : kwB gidB = true := by decide
  have k2 : kwB linkpathB = true := by decide
  have k3 : kwB mtimeB = true := by decide
  have k4 : kwB pathB = true := by decide
  have k5 : kwB uidB = true := by decide
  have v1 := itoa_le (n := e.gid) (by have := hf.gid; omega) (by have := hf.gid; omega)
  have v3 := itoa_le (n := e.time) (by have := hf.time; omega) (by have := hf.time; omega)
  have v5 := itoa_le (n := e.uid) (by have := hf.uid; omega) (by have := hf.uid; omega)
  have v2 := hf.link
  have key : ∀ (f : Bool) (k v : List UInt8), kwB k = true → v.length ≤ 400 → ∀ r ∈ recIf f k v, kwB r.key = true ∧ r.value.length ≤ 400 := by
    intro f k v hk hv r hr
    unfold recIf at hr
    cases f with
    | true => simp at hr
    | false => simp at hr; subst hr; exact ⟨hk, hv⟩
  intro r hr
  unfold recsE rst3 rst4 rst5 rst6 rst7 at hr
  simp only [List.mem_append] at hr
  rcases hr with hr | hr | hr | hr | hr
  · exact key _ _ _ k1 (by omega) r hr
  · exact key _ _ _ k2 (by omega) r hr
  · exact key _ _ _ k3 (by omega) r hr
  · exact key _ _ _ k4 (by omega) r hr
  · exact key _ _ _ k5 (by omega) r hr
theorem recs_some {e : Ent} (hf : FieldsOk e) (hp : e.path.length ≤ 400) : (paxE none [] (recsE e)).isSome = true := by
  refine paxE_some _ none [] (fun r hr => ?_) ?_ ?_
  · obtain ⟨h1, h2⟩ := recs_short hf hp r hr
    exact lineOk_short h1 h2
  · exact List.pairwise_map.1 (recs_keys e)
  · have := recsE_length e
    simp
    omega
theorem dec_digit {u : Nat} : ∀ c ∈ Lib.decDigits u, 48 ≤ c.toNat ∧ c.toNat ≤ 57 := by
  intro c hc
  rw [Lib.decDigits_eq] at hc
  obtain ⟨t, _, rfl⟩ := List.mem_map.1 hc
  unfold Lib.dg
  have h : (UInt8.ofNat (48 + u / 10 ^ (Lib.nDigits u - 1 - t) % 10)).toNat = 48 + u / 10 ^ (Lib.nDigits u - 1 - t) % 10 := UInt8.toNat_ofNat_of_lt' (by simp [UInt8.size]; omega)
  rw [h]
  omega
theorem itoa_nat (n : Nat) : Lib.itoa n = Lib.decDigits n := by
  unfold Lib.itoa
  rw [if_neg (by omega)]
  rfl
theorem split_num (n : Nat) (hn : n < 201) : (splitN ([112, 97, 120, 47] ++ Lib.itoa n)).2.2 = true := by
  have h1 := itoa_le (n := (n : Int)) (by omega) (by omega)
  have ha : asciiB ([112, 97, 120, 47] ++ Lib.itoa n) = true := by
    unfold asciiB
    rw [List.all_append, itoa_nat]
    simp only [Bool.and_eq_true]
    refine ⟨rfl, List.all_eq_true.2 fun c hc => ?_⟩
    have := dec_digit c hc
    unfold okByte
    simp only [decide_eq_true_eq]
    omega
  unfold splitN
  rw [if_neg (by rw [ha]; simp), if_pos (by simp; omega)]
theorem encOk_hdX {n : Nat} (hn : n < 201) {body : List UInt8} (hb : body.length ≤ 65536) : encOk (hdX n body) = true := by
  unfold encOk hdX fitsB
  simp only [Bool.and_eq_true]
  refine ⟨split_num n hn, ⟨⟨⟨⟨idB_zero, idB_zero⟩, idB_zero⟩, timeB_iff.2 (by omega)⟩, timeB_zero⟩, ?_⟩
  simp
theorem entB_of {e : Ent} (hf : FieldsOk e) (hp : e.path.length ≤ 400) : EntB e := by
  have := hf.gid; have := hf.uid; have := hf.time; have := hf.link
  refine ⟨?_, ?_, ?_, ?_, ?_, ?_, ?_, ?_⟩ <;> omega
theorem pieceOk_of {e : Ent} (hf : FieldsOk e) (hp : e.path.length ≤ 400) {n : Nat} (hn : n < 201) : pieceOk n e := by
  refine ⟨encOk_hdrE hf, fun _ => ⟨recs_some hf hp, encOk_hdX hn ?_⟩⟩
  unfold bodyE
  obtain ⟨o, ho⟩ := Option.isSome_iff_exists.1 (recs_some hf hp)
  rw [ho]
  exact paxE_le _ _ _ _ (by simp) ho
theorem piecesOk_of : ∀ (t : List Ent) (i : Nat), i + t.length ≤ 200 → (∀ e ∈ t, goodB e.path = true ∧ fieldsB e = true) → PiecesOk i t
  | [], _, _, _ => trivial
  | e :: r, i, h, hg => by
    obtain ⟨g1, g2⟩ := hg e (by simp)
    have hf := fields_ok g2
    have hp := good_le g1
    simp only [List.length_cons] at h
    exact ⟨entB_of hf hp, by have := hf.data; omega, pieceOk_of hf hp (by omega), piecesOk_of r (i + 1) (by omega) fun x hx => hg x (by simp [hx])⟩
theorem fieldsB_cp {e : Ent} : fieldsB e.cp = fieldsB e := by
  unfold fieldsB
  show (if e.mode < 0 ∨ 4095 < e.mode then false else _) = _
  have : e.cp.data.l = e.data.l := cp_l
  rw [this]
  rfl
theorem checkT_pieces {t : List Ent} (h : (checkT (t.map Ent.cp)).2 = 0) : PiecesOk 0 t := by
  obtain ⟨h1, h2⟩ := checkT_good h
  rw [List.length_map] at h1
  refine piecesOk_of t 0 (by omega) fun e he => ?_
  have := h2 e.cp (List.mem_map_of_mem he)
  rw [fieldsB_cp] at this
  exact this
end Go.Abs
/- PLAIN: records' lines, and back. -/
namespace Go.Abs
open Am
set_option maxRecDepth 10000
set_option linter.unusedSimpArgs false
/-! ## numerals, there and back -/
theorem parse_app : ∀ (a b : List UInt8) (acc u : Nat), Lib.parseUint10 acc a = .ok u → Lib.parseUint10 acc (a ++ b) = Lib.parseUint10 u b
  | [], b, acc, u, h => by
    simp only [Lib.parseUint10] at h
    cases h
    rfl
  | c :: a, b, acc, u, h => by
    simp only [Lib.parseUint10, List.cons_append] at h ⊢
    by_cases c1 : 48 ≤ c.toNat ∧ c.toNat ≤ 57
    · rw [if_pos c1] at h ⊢
      by_cases c2 : 1844674407370955162 ≤ acc
      · rw [if_pos c2] at h; cases h
      rw [if_neg c2] at h ⊢
      by_cases c3 : 18446744073709551616 ≤ acc * 10 + (c.toNat - 48)
      · rw [if_pos c3] at h; cases h
      rw [if_neg c3] at h ⊢
      exact parse_app a b _ u h
    · rw [if_neg c1] at h; cases h
theorem dg_toNat {k : Nat} (h : k < 10) : (UInt8.ofNat (48 + k)).toNat = 48 + k := UInt8.toNat_ofNat_of_lt' (by simp [UInt8.size]; omega)
theorem parse_dec (u : Nat) : u < 9223372036854775808 → Lib.parseUint10 0 (Lib.decDigits u) = .ok u := by
  induction u using Nat.strongRecOn with
  | _ u ih =>
    intro hu
    by_cases h : u < 10
    · rw [Lib.decDigits, dif_pos h]
      simp only [Lib.parseUint10]
      rw [dg_toNat h, if_pos (by omega), if_neg (by omega), if_neg (by omega)]
      simp
    · rw [Lib.decDigits, dif_neg h, parse_app _ _ _ _ (ih (u / 10) (by omega) (by omega))]
      simp only [Lib.parseUint10]
      rw [dg_toNat (by omega), if_pos (by omega), if_neg (by omega), if_neg (by omega)]
      congr 1
      omega
theorem dec_ne (u : Nat) : Lib.decDigits u ≠ [] := by
  intro h
  have := congrArg List.length h
  rw [Lib.decDigits_length] at this
  have := Lib.nDigits_pos u
  simp at *
  omega
theorem atoi_itoa {n : Int} (h1 : -9223372036854775808 ≤ n) (h2 : n ≤ 9223372036854775807) : Lib.atoiAll (Lib.itoa n) = .ok n := by
  unfold Lib.itoa
  by_cases hn : n < 0
  · rw [if_pos hn]
    unfold Lib.atoiAll
    simp only []
    have h45 : (45 : UInt8).toNat = 45 := rfl
    rw [h45, if_pos (by omega)]
    unfold Lib.parseMag
    rw [if_neg (dec_ne _)]
    by_cases hm : n = -9223372036854775808
    · subst hm
      have : Lib.parseUint10 0 (Lib.decDigits (-9223372036854775808 : Int).natAbs) = .ok 9223372036854775808 := by
        have e : (-9223372036854775808 : Int).natAbs = 9223372036854775808 := rfl
        rw [e, Lib.decDigits, dif_neg (by omega), parse_app _ _ _ _ (parse_dec (9223372036854775808 / 10) (by omega))]
        simp only [Lib.parseUint10]
        rw [dg_toNat (by omega), if_pos (by omega), if_neg (by omega), if_neg (by omega)]
      rw [this]
      rfl
    · rw [parse_dec _ (by omega)]
      simp only []
      rw [if_neg (by simp), if_neg (by omega), if_pos trivial]
      congr 1
      omega
  · rw [if_neg hn]
    obtain ⟨c, r, hc⟩ : ∃ c r, Lib.decDigits n.toNat = c :: r := List.exists_cons_of_ne_nil (dec_ne _)
    have hd := dec_digit (u := n.toNat) c (by rw [hc]; simp)
    have hp := parse_dec n.toNat (by omega)
    rw [hc] at hp ⊢
    unfold Lib.atoiAll
    simp only []
    rw [if_neg (by omega)]
    unfold Lib.parseMag
    rw [if_neg (by simp), hp]
    simp only []
    rw [if_neg (by omega), if_neg (by omega), if_neg (by omega)]
    congr 1
    omega
theorem atoiV_itoa {n : Int} (h1 : -9223372036854775808 ≤ n) (h2 : n ≤ 9223372036854775807) : atoiV (Lib.itoa n) = n ∧ atoiOk (Lib.itoa n) = true := by
  unfold atoiV atoiOk
  rw [atoi_itoa h1 h2]
  exact ⟨rfl, rfl⟩
/-! ## a line's length -/
theorem lenF_fix (rest : Int) (hr : 0 ≤ rest) (hr' : rest ≤ 1000000) : ∀ (k : Nat) (n d : Int), n = rest + d → 7 ≤ d + k → 1 ≤ d → d ≤ 7 → d ≤ digs n → lenF rest k n = rest + digs (lenF rest k n)
  | 0, n, d, h1, h2, h3, h4, h5 => by
    have h6 := digs_le7 (a := n) (by omega) (by omega)
    unfold lenF
    omega
  | k + 1, n, d, h1, h2, h3, h4, h5 => by
    have h6 := digs_le7 (a := n) (by omega) (by omega)
    unfold lenF
    by_cases hn : n = rest + digs n
    · rw [if_pos hn]
      exact hn
    · rw [if_neg hn]
      have hm := digs_mono (a := n) (b := rest + digs n) (by omega) (by omega)
      exact lenF_fix rest hr hr' k (rest + digs n) (digs n) rfl (by omega) (by omega) h6 hm
theorem paxLen_fix {rest : Int} (hr : 0 ≤ rest) (hr' : rest ≤ 1000000) : paxLen rest = rest + digs (paxLen rest) :=
  lenF_fix rest hr hr' 6 (rest + 1) 1 rfl (by omega) (by omega) (by omega) (digs_pos (by omega))
theorem lineB_len {k v : List UInt8} (h : (restP k v).length ≤ 1000000) : ((lineB k v).length : Int) = paxLen (restP k v).length := by
  have := paxLen_fix (rest := ((restP k v).length : Int)) (by omega) (by omega)
  unfold lineB
  rw [List.length_append]
  unfold digs at this
  omega
/-! ## a line is read -/
theorem indexByte_app (c : UInt8) : ∀ (a r : List UInt8), (∀ x ∈ a, x ≠ c) → Lib.indexByte (a ++ c :: r) c = a.length
  | [], r, _ => by simp [Lib.indexByte]
  | x :: a, r, h => by
    have hx : x ≠ c := h x (by simp)
    have ih := indexByte_app c a r fun y hy => h y (by simp [hy])
    simp only [List.cons_append, Lib.indexByte]
    have hb : (x == c) = false := by simpa using hx
    rw [hb, ih]
    simp
theorem kw_ne {k : List UInt8} (hk : kwB k = true) : ∀ x ∈ k, x ≠ 61 := by
  unfold kwB at hk
  simp only [Bool.and_eq_true] at hk
  intro x hx
  have := List.all_eq_true.1 hk.2 x hx
  unfold kwByte at this
  simp only [Bool.and_eq_true, decide_eq_true_eq] at this
  rintro rfl
  exact this.2 rfl
theorem firstP_line {k v r : List UInt8} (h : lineOk k v = true) : firstP (lineB k v ++ r) = ((⟨k, v⟩ : Rcd), ((lineB k v).length : Int)) := by
  have hlo := h
  unfold lineOk at h
  simp only [Bool.and_eq_true, decide_eq_true_eq] at h
  obtain ⟨⟨hk, hv⟩, hp⟩ := h
  have hkl : k.length ≤ 100 := by
    unfold kwB at hk
    simp only [Bool.and_eq_true, decide_eq_true_eq] at hk
    exact hk.1.2
  have hrl := restP_length (k := k) (v := v)
  have hN := lineB_len (k := k) (v := v) (by omega)
  have hpl := paxLen_le (rest := ((restP k v).length : Int)) (by omega) (by omega)
  generalize hNN : paxLen ((restP k v).length : Int) = N at *
  have hat := atoiV_itoa (n := N) (by omega) (by omega)
  have hdig : ∀ c ∈ Lib.itoa N, c ≠ 32 := by
    intro c hc
    have e : Lib.itoa N = Lib.decDigits N.toNat := by
      rw [← itoa_nat]
      congr 1
      omega
    rw [e] at hc
    have := dec_digit c hc
    rintro rfl
    simp at this
  have hl : lineB k v = Lib.itoa N ++ restP k v := by unfold lineB; rw [hNN]
  have hlen : (lineB k v).length = (Lib.itoa N).length + (restP k v).length := by rw [hl, List.length_append]
  have hD : fstD (lineB k v ++ r) = Lib.itoa N := by
    unfold fstD
    rw [hl, List.append_assoc, aheadOf_app 32 _ _ hdig]
    simp [restP, aheadOf]
  have hFN : fstN (lineB k v ++ r) = N := by
    unfold fstN
    rw [hD]
    exact hat.1
  have hR : fstR (lineB k v ++ r) = k ++ 61 :: (v ++ [10]) := by
    unfold fstR
    rw [hFN, hD, hl]
    have e : Lib.itoa N ++ restP k v ++ r = (Lib.itoa N ++ [32]) ++ ((k ++ 61 :: (v ++ [10])) ++ r) := by simp [restP]
    rw [e]
    refine dt_mid (by simp) ?_
    simp only [List.length_append, List.length_cons, List.length_nil] at *
    omega
  have hix : Lib.indexByte (k ++ 61 :: (v ++ [10])) 61 = k.length := indexByte_app 61 k _ (kw_ne hk)
  have hc : cutB 61 (k ++ 61 :: (v ++ [10])) = (k, v ++ [10], true) := by
    unfold cutB
    rw [hix, if_pos (by omega)]
    have e : ((k.length : Int)).toNat = k.length := by omega
    rw [e, List.take_left' rfl, show k ++ 61 :: (v ++ [10]) = (k ++ [61]) ++ (v ++ [10]) by simp, List.drop_left' (by simp)]
  have hs : hasSuf (v ++ [10]) [10] = true := by simp [hasSuf]
  have hV : fstV (lineB k v ++ r) = v := by
    unfold fstV cutSuf
    rw [hR, hc]
    simp only []
    rw [if_pos hs]
    simp
  have hK : fstK (lineB k v ++ r) = k := by
    unfold fstK
    rw [hR, hc]
  have hi : 0 ≤ Lib.indexByte (lineB k v ++ r) 32 := by
    have : Lib.indexByte (lineB k v ++ r) 32 = (Lib.itoa N).length := by
      rw [hl]
      have e : Lib.itoa N ++ restP k v ++ r = Lib.itoa N ++ 32 :: ((k ++ [61] ++ v ++ [10]) ++ r) := by simp [restP]
      rw [e]
      exact indexByte_app 32 _ _ hdig
    omega
  have hok1 : fstOk1 (lineB k v ++ r) = true := by
    unfold fstOk1
    rw [hFN, hD, hat.2, List.length_append]
    simp only [Bool.and_eq_true, decide_eq_true_eq]
    refine ⟨⟨⟨hi, trivial⟩, ?_⟩, ?_⟩ <;> omega
  have hok : fstOk (lineB k v ++ r) = true := by
    unfold fstOk
    rw [hok1, hK, hV, hFN, hR, hc]
    simp only [Bool.true_and, Bool.and_eq_true, decide_eq_true_eq]
    refine ⟨⟨hs, hlo⟩, ?_⟩
    rw [List.take_left' (by omega)]
  unfold firstP
  rw [if_pos hok, hK, hV, hFN, hN]
/-! ## all lines are read -/
theorem dec_enc : ∀ (rs : List Rcd) (p : Option Rcd) (out o : List UInt8), paxE p out rs = some o → ∃ L, o = out ++ L ∧ ∀ (k : Nat) (acc : List Rcd), L.length ≤ k → decP k p acc L = some (acc ++ rs)
  | [], p, out, o, h => by
    unfold paxE at h
    cases h
    refine ⟨[], by simp, fun k acc _ => ?_⟩
    cases k <;> simp [decP]
  | r :: rs, p, out, o, h => by
    unfold paxE at h
    by_cases hs : paxStep p out r = true
    · rw [if_pos hs] at h
      obtain ⟨L, h1, h2⟩ := dec_enc rs _ _ _ h
      unfold paxStep at hs
      simp only [Bool.and_eq_true, decide_eq_true_eq] at hs
      obtain ⟨⟨s1, s2⟩, s3⟩ := hs
      have hpos := lineB_pos (k := r.key) (v := r.value)
      refine ⟨lineB r.key r.value ++ L, by rw [h1, List.append_assoc], fun k acc hk => ?_⟩
      rw [List.length_append] at hk
      obtain ⟨k, rfl⟩ : ∃ j, k = j + 1 := ⟨k - 1, by omega⟩
      unfold decP
      have hne : lineB r.key r.value ++ L ≠ [] := by
        intro hh
        have := congrArg List.length hh
        rw [List.length_append] at this
        simp at this
        rw [this.1] at hpos
        cases hpos
      rw [if_neg hne, firstP_line s1]
      simp only []
      have ha : aftB p ⟨r.key, r.value⟩ = true := by
        cases p with
        | none => rfl
        | some p => exact s2
      rw [if_neg (fun h => by rcases h with h | h; (omega); (rw [ha] at h; cases h))]
      have e : (((lineB r.key r.value).length : Int)).toNat = (lineB r.key r.value).length := by omega
      rw [e, List.drop_left' rfl, h2 k _ (by omega)]
      simp
    · rw [if_neg hs] at h
      cases h
/-- THERE AND BACK: records -/
theorem paxD_paxE {rs : List Rcd} {o : List UInt8} (h : paxE none [] rs = some o) : paxD o = some rs := by
  have hl := paxE_le _ _ _ _ (by simp) h
  obtain ⟨L, h1, h2⟩ := dec_enc rs none [] o h
  simp only [List.nil_append] at h1
  subst h1
  unfold paxD
  rw [if_neg (by omega), h2 _ [] (Nat.le_refl _)]
  simp
end Go.Abs
/- ARCHIVES, READ: Read. -/
namespace Go.Abs
open Am
set_option maxRecDepth 10000
set_option linter.unusedSimpArgs false
theorem sl_le (a : BS) (i j : Nat) : (a.sl i j).l.length ≤ a.l.length - i := by
  rw [BS.sl_l, List.length_take, List.length_drop]
  omega
theorem hdrR_lt {b : BS} (h : (rdH b).2.2 = true) : (hdrR b).l.length + 512 ≤ b.l.length := by
  unfold rdH at h
  by_cases c1 : b.l.length < 512 ∨ decOk (b.sl 0 512).l = false
  · rw [if_pos c1] at h; cases h
  have c2 : ¬ b.l.length < 512 := fun hh => c1 (.inl hh)
  have c3 : ¬ decOk (b.sl 0 512).l = false := fun hh => c1 (.inr hh)
  unfold hdrR
  rw [if_neg c2, if_neg c3]
  have h1 := sl_le b 512 b.l.length
  split
  · have h2 := sl_le (b.sl 512 b.l.length) (wholeN (decH (b.sl 0 512).l).size).toNat (b.sl 512 b.l.length).l.length
    omega
  · omega
theorem decH_le (l : List UInt8) : (decH l).path.length ≤ 1000000 ∧ (decH l).link.length ≤ 1000000 := by
  have h1 := textF_le l 345 155
  have h2 := textF_le l 0 100
  have h3 := textF_le l 157 100
  unfold decH
  refine ⟨?_, by show (textF l 157 100).length ≤ _; omega⟩
  show (if textF l 345 155 = [] then textF l 0 100 else textF l 345 155 ++ [47] ++ textF l 0 100).length ≤ _
  split
  · omega
  · simp only [List.length_append, List.length_cons, List.length_nil]; omega
theorem rdH_le2 (b : BS) : (rdH b).1.path.length ≤ 1000000 ∧ (rdH b).1.link.length ≤ 1000000 := by
  unfold rdH
  split
  · exact ⟨by decide, by decide⟩
  · split <;> exact decH_le _
theorem tellE_le {e : Ent} {r : Rcd} (h1 : e.path.length ≤ 1000000) (h2 : e.link.length ≤ 1000000) (hr : RcdOk r) : (tellE e r).1.path.length ≤ 1000000 ∧ (tellE e r).1.link.length ≤ 1000000 := by
  have := hr.2
  unfold tellE
  repeat' split
  all_goals exact ⟨by first | exact h1 | exact hr.2, by first | exact h2 | exact hr.2⟩
theorem toldE_le : ∀ (rs : List Rcd) (e : Ent), e.path.length ≤ 1000000 → e.link.length ≤ 1000000 → (∀ r ∈ rs, RcdOk r) → (toldE e rs).1.path.length ≤ 1000000 ∧ (toldE e rs).1.link.length ≤ 1000000
  | [], e, h1, h2, _ => ⟨h1, h2⟩
  | r :: rs, e, h1, h2, h3 => by
    have ht := tellE_le h1 h2 (h3 r (by simp))
    unfold toldE
    split
    · exact toldE_le rs _ ht.1 ht.2 fun x hx => h3 x (by simp [hx])
    · exact ht
theorem entP_ok {b : BS} {e : Ent} {r : BS} (h : entP b = some (e, r)) : (e.path.length ≤ 1000000 ∧ e.link.length ≤ 1000000) ∧ (∃ l, e.data = .mk false false l ∧ l.length ≤ b.l.length) ∧ r.l.length + 512 ≤ b.l.length := by
  unfold entP at h
  by_cases c0 : (rdH b).2.2 = false
  · rw [if_pos c0] at h; cases h
  rw [if_neg c0] at h
  have c0 : (rdH b).2.2 = true := by simpa using c0
  have hr := hdrR_lt c0
  by_cases c1 : (rdH b).1.type = 120
  · rw [if_pos c1] at h
    cases c2 : paxD (rdH b).2.1.l with
    | none => rw [c2] at h; cases h
    | some rs =>
      rw [c2] at h
      simp only at h
      by_cases c3 : (rdH (hdrR b)).2.2 = false
      · rw [if_pos c3] at h; cases h
      rw [if_neg c3] at h
      have c3 : (rdH (hdrR b)).2.2 = true := by simpa using c3
      have hr2 := hdrR_lt c3
      have hp := rdH_le2 (hdrR b)
      have ht := toldE_le rs (mkE (rdH (hdrR b)).1) hp.1 hp.2 (paxD_ok c2).1
      by_cases c4 : (toldE (mkE (rdH (hdrR b)).1) rs).2 = true
      · rw [if_pos c4] at h
        cases h
        have := rdH_le (hdrR b)
        exact ⟨ht, ⟨_, rfl, by omega⟩, by omega⟩
      · rw [if_neg c4] at h; cases h
  · rw [if_neg c1] at h
    cases h
    have hp := rdH_le2 b
    exact ⟨hp, ⟨_, rfl, rdH_le b⟩, hr⟩
/-- the entries of blocks -/
def readP : Nat → BS → List Ent → Option (List Ent)
  | 0, _, acc => some acc
  | k + 1, b, acc => if b.l = [] then some acc else
    match entP b with
    | none => none
    | some (e, r) => if acc.length = 200 then none else readP k r (acc ++ [e])
/-- is this what was read? -/
def finR (l : List UInt8) : Option (List Ent) → Option (List Ent)
  | none => none
  | some t => if (checkT (t.map Ent.cp)).2 = 0 ∧ writeL t = l then some t else none
/-- an archive's tree -/
def readE (b : BS) : Option (List Ent) := if b.l.length < 1024 then none else finR b.l (readP b.l.length (b.sl 0 (b.l.length - 1024)) [])
def readV : Option (List Ent) → AVal
  | none => .tuple [.lit (.slice none 0 0), .iface 58 (.int .i64 16)]
  | some [] => .tuple [.lit (.slice none 0 0), .lit .nilIface]
  | some (e :: r) => .tuple [.own 0 8 0 (e :: r).length false, .lit .nilIface]
def readH : Option (List Ent) → Heap
  | none => []
  | some [] => []
  | some (e :: r) => [(0, .row ((e :: r).map Ent.av) 8)]
theorem readV_ne {t : List Ent} (h : t ≠ []) : readV (some t) = .tuple [.own 0 8 0 t.length false, .lit .nilIface] ∧ readH (some t) = [(0, .row (t.map Ent.av) 8)] := by
  cases t with
  | nil => exact (h rfl).elim
  | cons x y => exact ⟨rfl, rfl⟩
/-- entries as they are read -/
def RdE (e : Ent) : Prop := e.path.length ≤ 1000000 ∧ e.link.length ≤ 1000000 ∧ ∃ l, e.data = .mk false false l ∧ l.length ≤ 1000000
theorem rdE_ok {e : Ent} (h : RdE e) : EntOk e := by
  obtain ⟨h1, h2, l, h3, h4⟩ := h
  exact ⟨h2, h1, by rw [h3]; simp only [BS.l]; omega, by rw [h3]; rfl⟩
theorem w17no (c tmp : Bool) (t : List Ent) (hne : t ≠ []) (hl : t.length ≤ 1000000) (hq : ∀ e ∈ t, RdE e) (he : (checkT (t.map Ent.cp)).2 ≠ 0) :
    callT AA 17 [.view 8 (t.map Ent.av) c tmp] [] = some (.tuple [.lit (.slice none 0 0), .iface 58 (.int .i64 (checkT (t.map Ent.cp)).2)], []) := by
  cases t with
  | nil => exact (hne rfl).elim
  | cons e r =>
    have h := s17no c tmp e r hl (fun x hx => rdE_ok (hq x hx)) he (fun x hx => by
      obtain ⟨_, _, l, h3, h4⟩ := hq x hx
      rw [h3]
      simp only [BS.l]
      omega)
    unfold errV at h
    rw [if_neg he] at h
    exact h
theorem w17 (c tmp : Bool) (t : List Ent) (hne : t ≠ []) (hl : t.length ≤ 200) (hq : ∀ e ∈ t, RdE e) (he : (checkT (t.map Ent.cp)).2 = 0) :
    callT AA 17 [.view 8 (t.map Ent.av) c tmp] [] = some (.tuple [.own 0 1 0 (writeL t).length false, .lit .nilIface], [(0, .row ((writeL t).map .byte) 1)]) := by
  cases t with
  | nil => exact (hne rfl).elim
  | cons e r => exact s17 c tmp e r hl (fun x hx => rdE_ok (hq x hx)) he (checkT_pieces he)
set_option maxHeartbeats 4000000 in
theorem h24 (b0 : BS) (hb0 : b0.l.length ≤ 1000000) (R : Option (List Ent)) : ∀ (k : Nat) (b : BS) (acc : List Ent) (q : Nat), acc ≠ [] → q = acc.length → acc.length ≤ 200 → b.l.length ≤ k → b.l.length ≤ 1000000 → (∀ e ∈ acc, RdE e) → R = finR b0.l (readP k b acc) →
    HD AA 0 [0, 2, 3, 4, 5] l24_0 ⟨[b0.av, .junk, .lit (.slice none 0 0), .lit .nilIface, .ptr 0 0, .own 1 8 0 q false, .junk, .junk, .junk, .junk, .junk, .junk, .junk, .junk, .junk, .junk, .junk, .junk, .junk, .junk, .junk, .junk, .junk, .junk, .junk, .junk, .junk, .junk, .junk, .junk, .junk, .junk, .junk, .junk, .junk, .junk, .junk, .junk, .junk, .junk, .junk, .junk, .junk, .junk, .junk, .junk, .junk, .junk, .junk, .junk, .junk, .junk, .junk, .junk, .junk, .junk, .junk, .junk, .junk], [(0, .var [b.av]), (1, .row (acc.map Ent.av) 8)], 2⟩ [.blk 0, .code r24_0] (Fin [(2, none), (3, none)] 0 (readV R) (readH R))
  | k, b, acc, q, h0, h1, h2, h3, h4, h5, h6 => by
    have et : (acc.map Ent.av).take q = acc.map Ent.av := List.take_of_length_le (by simp; omega)
    by_cases hl : b.l = []
    · have hl0 : b.l.length = 0 := by rw [hl]; rfl
      have hr : readP k b acc = some acc := by
        cases k with
        | zero => rfl
        | succ k => unfold readP; rw [if_pos hl]
      rw [hr] at h6
      simp only [finR] at h6
      refine hd_of (by unfold l24_0; rfl) ?_
      by_cases hc : (checkT (acc.map Ent.cp)).2 = 0
      · have hw := w17 false true acc h0 h2 h5 hc
        have hwl : (writeL acc).length ≤ 1000000000 := by
          have := outL_le acc 0 (checkT_pieces hc)
          unfold writeL
          rw [List.length_append, zeros1024_length]
          omega
        generalize writeL acc = W at *
        have hs := fun c t => s62v W c t b0
        by_cases hd : W = b0.l
        · rw [if_pos ⟨hc, hd⟩] at h6
          rw [h6, (readV_ne h0).1, (readV_ne h0).2]
          (simp (maxSteps := 2000000) (disch := omega) only [r24_0, et, hw, hs, decide_eq_true hd, go_sem]) <;> repeat' (first | ((first | refine gd_dec ?_ ?_ | refine gd_ndec ?_ ?_ | refine cd_dec ?_ ?_ | refine cd_ndec ?_ ?_ | refine gdd_dec ?_ ?_ | refine gdd_ndec ?_ ?_ | refine gd_of ?_ ?_ | refine cd_of ?_ ?_ | refine gdd_of ?_ ?_) <;> intro hg <;> first | (exfalso; omega) | (simp (maxSteps := 2000000) (disch := omega) only [hg, r24_0, et, hw, hs, decide_eq_true hd, go_sem])) | (refine And.intro ?_ ?_; focus omega) | omega)
          simp [h1]
        · rw [if_neg (fun h => hd h.2)] at h6
          rw [h6]
          unfold readV readH
          (simp (maxSteps := 2000000) (disch := omega) only [r24_0, et, hw, hs, decide_eq_false hd, go_sem]) <;> repeat' (first | ((first | refine gd_dec ?_ ?_ | refine gd_ndec ?_ ?_ | refine cd_dec ?_ ?_ | refine cd_ndec ?_ ?_ | refine gdd_dec ?_ ?_ | refine gdd_ndec ?_ ?_ | refine gd_of ?_ ?_ | refine cd_of ?_ ?_ | refine gdd_of ?_ ?_) <;> intro hg <;> first | (exfalso; omega) | (simp (maxSteps := 2000000) (disch := omega) only [hg, r24_0, et, hw, hs, decide_eq_false hd, go_sem])) | (refine And.intro ?_ ?_; focus omega) | omega)
      · have hw := w17no false true acc h0 (by omega) h5 hc
        rw [if_neg (fun h => hc h.1)] at h6
        rw [h6]
        unfold readV readH
        (simp (maxSteps := 2000000) (disch := omega) only [r24_0, et, hw, go_sem]) <;> repeat' (first | ((first | refine gd_dec ?_ ?_ | refine gd_ndec ?_ ?_ | refine cd_dec ?_ ?_ | refine cd_ndec ?_ ?_ | refine gdd_dec ?_ ?_ | refine gdd_ndec ?_ ?_ | refine gd_of ?_ ?_ | refine cd_of ?_ ?_ | refine gdd_of ?_ ?_) <;> intro hg <;> first | (exfalso; omega) | (simp (maxSteps := 2000000) (disch := omega) only [hg, r24_0, et, hw, go_sem])) | (refine And.intro ?_ ?_; focus omega) | omega)
    · have hl0 : 0 < b.l.length := by
        cases hz : b.l with
        | nil => exact (hl hz).elim
        | cons x y => simp
      match k, h3, h6 with
      | 0, h3, h6 => omega
      | k + 1, h3, h6 =>
        have hf := s61f b h4
        unfold EntR at hf
        unfold readP at h6
        rw [if_neg hl] at h6
        refine hd_of (by unfold l24_0; rfl) ?_
        cases hp : entP b with
        | none =>
          rw [hp] at hf h6
          simp only [finR] at h6
          rw [h6]
          unfold readV readH
          rcases hf with ⟨e, r, hf⟩ | ⟨e, r, l, hf⟩
          · simp only [entCs] at hf
            (simp (maxSteps := 2000000) (disch := omega) only [hf, lp_head, go_sem]) <;> repeat' (first | ((first | refine gd_dec ?_ ?_ | refine gd_ndec ?_ ?_ | refine cd_dec ?_ ?_ | refine cd_ndec ?_ ?_ | refine gdd_dec ?_ ?_ | refine gdd_ndec ?_ ?_ | refine gd_of ?_ ?_ | refine cd_of ?_ ?_ | refine gdd_of ?_ ?_) <;> intro hg <;> first | (exfalso; omega) | (simp (maxSteps := 2000000) (disch := omega) only [hg, hf, lp_head, go_sem])) | (refine And.intro ?_ ?_; focus omega) | omega)
          · simp only [entCs] at hf
            (simp (maxSteps := 2000000) (disch := omega) only [hf, lp_head, go_sem]) <;> repeat' (first | ((first | refine gd_dec ?_ ?_ | refine gd_ndec ?_ ?_ | refine cd_dec ?_ ?_ | refine cd_ndec ?_ ?_ | refine gdd_dec ?_ ?_ | refine gdd_ndec ?_ ?_ | refine gd_of ?_ ?_ | refine cd_of ?_ ?_ | refine gdd_of ?_ ?_) <;> intro hg <;> first | (exfalso; omega) | (simp (maxSteps := 2000000) (disch := omega) only [hg, hf, lp_head, go_sem])) | (refine And.intro ?_ ?_; focus omega) | omega)
        | some er =>
          obtain ⟨e, r⟩ := er
          rw [hp] at hf h6
          obtain ⟨⟨p1, p2⟩, ⟨l, p3, p4⟩, p5⟩ := entP_ok hp
          simp only [p3, BS.l, entCs] at hf
          simp only at h6
          by_cases hq : acc.length = 200
          · rw [if_pos hq] at h6
            simp only [finR] at h6
            rw [h6]
            unfold readV readH
            (simp (maxSteps := 2000000) (disch := omega) only [hf, lp_head, go_sem]) <;> repeat' (first | ((first | refine gd_dec ?_ ?_ | refine gd_ndec ?_ ?_ | refine cd_dec ?_ ?_ | refine cd_ndec ?_ ?_ | refine gdd_dec ?_ ?_ | refine gdd_ndec ?_ ?_ | refine gd_of ?_ ?_ | refine cd_of ?_ ?_ | refine gdd_of ?_ ?_) <;> intro hg <;> first | (exfalso; omega) | (simp (maxSteps := 2000000) (disch := omega) only [hg, hf, lp_head, go_sem])) | (refine And.intro ?_ ?_; focus omega) | omega)
          · rw [if_neg hq] at h6
            have ih := h24 b0 hb0 R k r (acc ++ [e]) (q + 1) (by simp) (by simp [h1]) (by simp; omega) (by omega) (by omega) (by
              intro x hx
              rcases List.mem_append.1 hx with hx | hx
              · exact h5 x hx
              · rw [List.mem_singleton.1 hx]
                exact ⟨p1, p2, l, p3, by omega⟩) h6
            simp only [List.map_append, List.map_cons, List.map_nil, Ent.av, p3, mk_av] at ih et
            (simp (maxSteps := 2000000) (disch := omega) only [hf, et, lp_head, go_sem]) <;> repeat' (first | ((first | refine gd_dec ?_ ?_ | refine gd_ndec ?_ ?_ | refine cd_dec ?_ ?_ | refine cd_ndec ?_ ?_ | refine gdd_dec ?_ ?_ | refine gdd_ndec ?_ ?_ | refine gd_of ?_ ?_ | refine cd_of ?_ ?_ | refine gdd_of ?_ ?_) <;> intro hg <;> first | (exfalso; omega) | (simp (maxSteps := 2000000) (disch := omega) only [hg, hf, et, lp_head, go_sem])) | (refine And.intro ?_ ?_; focus omega) | omega)
set_option maxHeartbeats 4000000 in
theorem s24 (b : BS) (hb : b.l.length ≤ 1000000) : callT AA 24 [b.av] [] = some (readV (readE b), readH (readE b)) := by
  refine enter fn24 np24 rfl ?_
  generalize hR : readE b = R
  unfold readE at hR
  by_cases c0 : b.l.length < 1024
  · rw [if_pos c0] at hR
    rw [← hR]
    unfold readV readH
    (simp (maxSteps := 2000000) (disch := omega) only [b24, go_sem]) <;> repeat' (first | ((first | refine gd_dec ?_ ?_ | refine gd_ndec ?_ ?_ | refine cd_dec ?_ ?_ | refine cd_ndec ?_ ?_ | refine gdd_dec ?_ ?_ | refine gdd_ndec ?_ ?_ | refine gd_of ?_ ?_ | refine cd_of ?_ ?_ | refine gdd_of ?_ ?_) <;> intro hg <;> first | (exfalso; omega) | (simp (maxSteps := 2000000) (disch := omega) only [hg, b24, go_sem])) | (refine And.intro ?_ ?_; focus omega) | omega)
  rw [if_neg c0] at hR
  have e0 : ((b.l.length : Int) - 1024).toNat = b.l.length - 1024 := by omega
  (simp (maxSteps := 2000000) (disch := omega) only [b24, e0, lp_head, go_sem]) <;> repeat' (first | ((first | refine gd_dec ?_ ?_ | refine gd_ndec ?_ ?_ | refine cd_dec ?_ ?_ | refine cd_ndec ?_ ?_ | refine gdd_dec ?_ ?_ | refine gdd_ndec ?_ ?_ | refine gd_of ?_ ?_ | refine cd_of ?_ ?_ | refine gdd_of ?_ ?_) <;> intro hg <;> first | (exfalso; omega) | (simp (maxSteps := 2000000) (disch := omega) only [hg, b24, e0, lp_head, go_sem])) | (refine And.intro ?_ ?_; focus omega) | omega)
  generalize hb1 : b.sl 0 (b.l.length - 1024) = b1 at *
  have hb2 : b1.l.length ≤ b.l.length := by
    have := sl_le b 0 (b.l.length - 1024)
    rw [hb1] at this
    omega
  obtain ⟨k, hk⟩ : ∃ k, b.l.length = k + 1 := ⟨b.l.length - 1, by omega⟩
  rw [hk] at hR
  unfold readP at hR
  refine hd_of (by unfold l24_0; rfl) ?_
  by_cases hl : b1.l = []
  · have hl0 : b1.l.length = 0 := by rw [hl]; rfl
    rw [if_pos hl] at hR
    simp only [finR] at hR
    have hcn : (checkT (([] : List Ent).map Ent.cp)).2 = 0 := rfl
    have hwn : writeL [] = zeros1024 := rfl
    have hs := fun c t => s62v zeros1024 c t b
    have hz := zeros1024_take
    have hzl := zeros1024_length
    rw [hwn] at hR
    by_cases hd : zeros1024 = b.l
    · rw [if_pos ⟨hcn, hd⟩] at hR
      rw [← hR]
      unfold readV readH
      (simp (maxSteps := 2000000) (disch := omega) only [r24_0, s17n, hs, decide_eq_true hd, hz, hzl, go_sem]) <;> repeat' (first | ((first | refine gd_dec ?_ ?_ | refine gd_ndec ?_ ?_ | refine cd_dec ?_ ?_ | refine cd_ndec ?_ ?_ | refine gdd_dec ?_ ?_ | refine gdd_ndec ?_ ?_ | refine gd_of ?_ ?_ | refine cd_of ?_ ?_ | refine gdd_of ?_ ?_) <;> intro hg <;> first | (exfalso; omega) | (simp (maxSteps := 2000000) (disch := omega) only [hg, r24_0, s17n, hs, decide_eq_true hd, hz, hzl, go_sem])) | (refine And.intro ?_ ?_; focus omega) | omega)
    · rw [if_neg (fun h => hd h.2)] at hR
      rw [← hR]
      unfold readV readH
      (simp (maxSteps := 2000000) (disch := omega) only [r24_0, s17n, hs, decide_eq_false hd, hz, hzl, go_sem]) <;> repeat' (first | ((first | refine gd_dec ?_ ?_ | refine gd_ndec ?_ ?_ | refine cd_dec ?_ ?_ | refine cd_ndec ?_ ?_ | refine gdd_dec ?_ ?_ | refine gdd_ndec ?_ ?_ | refine gd_of ?_ ?_ | refine cd_of ?_ ?_ | refine gdd_of ?_ ?_) <;> intro hg <;> first | (exfalso; omega) | (simp (maxSteps := 2000000) (disch := omega) only [hg, r24_0, s17n, hs, decide_eq_false hd, hz, hzl, go_sem])) | (refine And.intro ?_ ?_; focus omega) | omega)
  · have hl0 : 0 < b1.l.length := by
      cases hz : b1.l with
      | nil => exact (hl hz).elim
      | cons x y => simp
    rw [if_neg hl] at hR
    have hf := s61f b1 (by omega)
    unfold EntR at hf
    cases hp : entP b1 with
    | none =>
      rw [hp] at hf hR
      simp only [finR] at hR
      rw [← hR]
      unfold readV readH
      rcases hf with ⟨e, r, hf⟩ | ⟨e, r, l, hf⟩
      · simp only [entCs] at hf
        (simp (maxSteps := 2000000) (disch := omega) only [hf, lp_head, go_sem]) <;> repeat' (first | ((first | refine gd_dec ?_ ?_ | refine gd_ndec ?_ ?_ | refine cd_dec ?_ ?_ | refine cd_ndec ?_ ?_ | refine gdd_dec ?_ ?_ | refine gdd_ndec ?_ ?_ | refine gd_of ?_ ?_ | refine cd_of ?_ ?_ | refine gdd_of ?_ ?_) <;> intro hg <;> first | (exfalso; omega) | (simp (maxSteps := 2000000) (disch := omega) only [hg, hf, lp_head, go_sem])) | (refine And.intro ?_ ?_; focus omega) | omega)
      · simp only [entCs] at hf
        (simp (maxSteps := 2000000) (disch := omega) only [hf, lp_head, go_sem]) <;> repeat' (first | ((first | refine gd_dec ?_ ?_ | refine gd_ndec ?_ ?_ | refine cd_dec ?_ ?_ | refine cd_ndec ?_ ?_ | refine gdd_dec ?_ ?_ | refine gdd_ndec ?_ ?_ | refine gd_of ?_ ?_ | refine cd_of ?_ ?_ | refine gdd_of ?_ ?_) <;> intro hg <;> first | (exfalso; omega) | (simp (maxSteps := 2000000) (disch := omega) only [hg, hf, lp_head, go_sem])) | (refine And.intro ?_ ?_; focus omega) | omega)
    | some er =>
      obtain ⟨e, r⟩ := er
      rw [hp] at hf hR
      obtain ⟨⟨p1, p2⟩, ⟨l, p3, p4⟩, p5⟩ := entP_ok hp
      simp only [p3, BS.l, entCs] at hf
      simp only [List.length_nil, List.nil_append] at hR
      rw [if_neg (by omega)] at hR
      have ih := h24 b hb R k r [e] 1 (by simp) rfl (by simp) (by omega) (by omega) (by
        intro x hx
        rw [List.mem_singleton.1 hx]
        exact ⟨p1, p2, l, p3, by omega⟩) hR.symm
      simp only [List.map_cons, List.map_nil, Ent.av, p3, mk_av] at ih
      (simp (maxSteps := 2000000) (disch := omega) only [hf, lp_head, go_sem]) <;> repeat' (first | ((first | refine gd_dec ?_ ?_ | refine gd_ndec ?_ ?_ | refine cd_dec ?_ ?_ | refine cd_ndec ?_ ?_ | refine gdd_dec ?_ ?_ | refine gdd_ndec ?_ ?_ | refine gd_of ?_ ?_ | refine cd_of ?_ ?_ | refine gdd_of ?_ ?_) <;> intro hg <;> first | (exfalso; omega) | (simp (maxSteps := 2000000) (disch := omega) only [hg, hf, lp_head, go_sem])) | (refine And.intro ?_ ?_; focus omega) | omega)
end Go.Abs
/- PLAIN: an archive, and back. -/
namespace Go.Abs
open Am
set_option maxRecDepth 10000
set_option linter.unusedSimpArgs false
theorem pad_whole (l : List UInt8) : ((padL l).length : Int) = wholeN l.length := by
  rw [padL_length]
  unfold padN wholeN
  omega
/-- a header and its bytes are read -/
theorem rd_block {b : BS} {h : Hd} {body rest : List UInt8} (hb : b.l = encB h ++ (padL body ++ rest)) (hok : encOk h = true) (hs : h.size = body.length) :
    (rdH b).1 = h ∧ (rdH b).2.1.l = body ∧ (rdH b).2.2 = true ∧ (hdrR b).l = rest := by
  have hl := encB_length h
  have hp := pad_whole body
  have hp2 := padL_length body
  have hbl : b.l.length = 512 + (padL body).length + rest.length := by rw [hb]; simp [hl]; omega
  have h0 : (b.sl 0 512).l = encB h := by
    rw [BS.sl_l, hb]
    simp only [List.drop_zero, Nat.sub_zero]
    exact List.take_left' hl
  have h1 : (b.sl 512 b.l.length).l = padL body ++ rest := by
    rw [BS.sl_l, List.take_of_length_le (by simp), hb]
    exact List.drop_left' hl
  have hd := decOk_encB hok
  have hdh := decH_encB hok
  have c1 : ¬ (b.l.length < 512 ∨ decOk (b.sl 0 512).l = false) := by
    rw [h0, hd]
    simp
    omega
  have c2 : wholeN h.size ≤ (b.sl 512 b.l.length).l.length := by
    rw [h1, List.length_append, hs]
    omega
  refine ⟨?_, ?_, ?_, ?_⟩
  · unfold rdH
    rw [if_neg c1, h0, hdh, if_pos c2]
  · unfold rdH
    rw [if_neg c1, h0, hdh, if_pos c2]
    simp only []
    rw [BS.sl_l, h1, hs]
    simp only [List.drop_zero, Nat.sub_zero, Int.toNat_natCast]
    unfold padL
    rw [List.append_assoc]
    exact List.take_left' rfl
  · unfold rdH
    rw [if_neg c1, h0, hdh, if_pos c2]
  · unfold hdrR
    rw [if_neg (by omega), h0, hd, if_neg (by simp), hdh, if_pos c2, BS.sl_l, h1, hs, List.take_of_length_le (by simp)]
    refine List.drop_left' ?_
    omega
/-- an entry as it is read -/
def rdEnt (e : Ent) : Ent := { e with data := .mk false false e.data.l }
theorem kind_type {k : Int} (h : k = 1 ∨ k = 2 ∨ k = 3 ∨ k = 4) : kindB (typeB k) = k ∧ typeB k ≠ 120 := by
  rcases h with rfl | rfl | rfl | rfl <;> decide
theorem told_back {e : Ent} (hf : FieldsOk e) (d : BS) : toldE ⟨if (splitN e.path).2.2 then e.path else paxB, e.kind, e.mode, if idB e.uid then e.uid else 0, if idB e.gid then e.gid else 0, if timeB e.time then e.time else 0, if linkE e.link then e.link else paxB, d⟩ (recsE e) = (⟨e.path, e.kind, e.mode, e.uid, e.gid, e.time, e.link, d⟩, true) := by
  have g := atoiV_itoa (n := e.gid) (by have := hf.gid; omega) (by have := hf.gid; omega)
  have u := atoiV_itoa (n := e.uid) (by have := hf.uid; omega) (by have := hf.uid; omega)
  have t := atoiV_itoa (n := e.time) (by have := hf.time; omega) (by have := hf.time; omega)
  unfold recsE rst3 rst4 rst5 rst6 rst7
  cases idB e.gid <;> cases linkE e.link <;> cases timeB e.time <;> cases (splitN e.path).2.2 <;> cases idB e.uid <;> simp [recIf, toldE, tellE, gidB, linkpathB, mtimeB, pathB, uidB, g, u, t]
/-- a piece is read -/
theorem entP_piece {b : BS} {n : Nat} {e : Ent} {rest : List UInt8} (hb : b.l = pieceL n e ++ rest) (hok : pieceOk n e) (hf : FieldsOk e) : ∃ r : BS, entP b = some (rdEnt e, r) ∧ r.l = rest := by
  have hk : e.kind = 1 ∨ e.kind = 2 ∨ e.kind = 3 ∨ e.kind = 4 := by
    rcases hf.kinds with h | h | h | h
    · exact .inl h.1
    · exact .inr (.inl h.1)
    · exact .inr (.inr (.inl h.1))
    · exact .inr (.inr (.inr h.1))
  obtain ⟨k1, k2⟩ := kind_type hk
  have hsz : (hdrE e (recsE e)).size = e.data.l.length := by rw [hdrE_eq]
  have hty : (hdrE e (recsE e)).type = typeB e.kind := by rw [hdrE_eq]
  have hmk : mkE (hdrE e (recsE e)) = ⟨if (splitN e.path).2.2 then e.path else paxB, e.kind, e.mode, if idB e.uid then e.uid else 0, if idB e.gid then e.gid else 0, if timeB e.time then e.time else 0, if linkE e.link then e.link else paxB, .nil⟩ := by
    unfold mkE
    rw [hdrE_eq]
    simp only [k1]
  have htold := told_back hf .nil
  obtain ⟨ok1, ok2⟩ := hok
  by_cases hr : recsE e = []
  · have hp : pieceL n e = encB (hdrE e (recsE e)) ++ padL e.data.l := by
      unfold pieceL preE
      rw [if_pos hr, List.nil_append]
    rw [hp, List.append_assoc] at hb
    obtain ⟨r1, r2, r3, r4⟩ := rd_block hb ok1 hsz
    refine ⟨hdrR b, ?_, r4⟩
    unfold entP
    rw [if_neg (by rw [r3]; simp), r1, hty, if_neg k2, r2, hmk]
    rw [hr] at htold
    simp only [toldE, Prod.mk.injEq, and_true] at htold
    rw [htold]
    rfl
  · obtain ⟨o1, o2⟩ := ok2 hr
    obtain ⟨body, hbo⟩ := Option.isSome_iff_exists.1 o1
    have hbe : bodyE e = body := by unfold bodyE; rw [hbo]; rfl
    have hp : pieceL n e = encB (hdX n body) ++ (padL body ++ (encB (hdrE e (recsE e)) ++ padL e.data.l)) := by
      unfold pieceL preE
      rw [if_neg hr, hbe]
      simp
    rw [hbe] at o2
    have hb1 : b.l = encB (hdX n body) ++ (padL body ++ (encB (hdrE e (recsE e)) ++ (padL e.data.l ++ rest))) := by
      rw [hb, hp]
      simp
    obtain ⟨r1, r2, r3, r4⟩ := rd_block hb1 o2 rfl
    obtain ⟨q1, q2, q3, q4⟩ := rd_block r4 ok1 hsz
    refine ⟨hdrR (hdrR b), ?_, q4⟩
    unfold entP
    rw [if_neg (by rw [r3]; simp), r1, if_pos (show (hdX n body).type = 120 from rfl), r2, paxD_paxE hbo]
    simp only []
    rw [if_neg (by rw [q3]; simp), q1, hmk, htold, q2]
    rfl
theorem readP_out : ∀ (t : List Ent) (i k : Nat) (b : BS) (acc : List Ent), b.l = outL i t → PiecesOk i t → (∀ e ∈ t, FieldsOk e) → b.l.length ≤ k → acc.length + t.length ≤ 200 → readP k b acc = some (acc ++ t.map rdEnt)
  | [], i, k, b, acc, hb, _, _, _, _ => by
    simp only [outL] at hb
    cases k with
    | zero => simp [readP]
    | succ k => simp [readP, hb]
  | e :: t, i, k, b, acc, hb, hp, hf, hk, hl => by
    obtain ⟨h1, h2, h3, h4⟩ := hp
    simp only [outL] at hb
    have hpl := pieceL_le h2 h3
    have hbl : b.l.length = (pieceL i e).length + (outL (i + 1) t).length := by rw [hb, List.length_append]
    obtain ⟨r, hr1, hr2⟩ := entP_piece hb h3 (hf e (by simp))
    obtain ⟨k, rfl⟩ : ∃ j, k = j + 1 := ⟨k - 1, by omega⟩
    have hne : b.l ≠ [] := by
      intro hh
      rw [hh] at hbl
      simp at hbl
      omega
    simp only [List.length_cons] at hl
    unfold readP
    rw [if_neg hne, hr1]
    simp only []
    rw [if_neg (by omega), readP_out t (i + 1) k r _ hr2 h4 (fun x hx => hf x (by simp [hx])) (by rw [hr2]; omega) (by simp; omega)]
    simp
theorem fieldsB_rd {e : Ent} : fieldsB (rdEnt e) = fieldsB e := rfl
theorem entryE_rd (c : Ck) {e f : Ent} (h1 : f.path = e.path) (h2 : f.kind = e.kind) (h3 : f.mode = e.mode) (h4 : f.uid = e.uid) (h5 : f.gid = e.gid) (h6 : f.time = e.time) (h7 : f.link = e.link) (h8 : f.data.l = e.data.l) : entryE c f = entryE c e := by
  have hf : fieldsB f = fieldsB e := by
    unfold fieldsB
    rw [h2, h3, h4, h5, h6, h7, h8]
  unfold entryE
  rw [hf, h1, h2, h7, h8]
/-- the same, their slices aside -/
def SameE (e f : Ent) : Prop := f.path = e.path ∧ f.kind = e.kind ∧ f.mode = e.mode ∧ f.uid = e.uid ∧ f.gid = e.gid ∧ f.time = e.time ∧ f.link = e.link ∧ f.data.l = e.data.l
theorem entryE_same {c : Ck} {e f : Ent} (h : SameE e f) : entryE c f = entryE c e := entryE_rd c h.1 h.2.1 h.2.2.1 h.2.2.2.1 h.2.2.2.2.1 h.2.2.2.2.2.1 h.2.2.2.2.2.2.1 h.2.2.2.2.2.2.2
theorem checkL_map (g : Ent → Ent) (hg : ∀ e, SameE e (g e)) : ∀ (t : List Ent) (c : Ck) (i : Int), checkL c i (t.map g) = checkL c i t
  | [], c, i => rfl
  | e :: t, c, i => by
    simp only [List.map_cons, checkL]
    rw [entryE_same (hg e), checkL_map g hg t]
theorem checkT_map (g : Ent → Ent) (hg : ∀ e, SameE e (g e)) (t : List Ent) : checkT (t.map g) = checkT t := by
  unfold checkT
  rw [List.length_map, checkL_map g hg]
theorem same_cp (e : Ent) : SameE e e.cp := ⟨rfl, rfl, rfl, rfl, rfl, rfl, rfl, cp_l⟩
theorem same_rd (e : Ent) : SameE e (rdEnt e) := ⟨rfl, rfl, rfl, rfl, rfl, rfl, rfl, rfl⟩
theorem outL_rd : ∀ (t : List Ent) (i : Nat), outL i (t.map rdEnt) = outL i t
  | [], _ => rfl
  | e :: t, i => by
    simp only [List.map_cons, outL]
    rw [outL_rd t]
    rfl
theorem writeL_rd (t : List Ent) : writeL (t.map rdEnt) = writeL t := by
  unfold writeL
  rw [outL_rd]
/-- THERE AND BACK: a tree's archive is read as that tree -/
theorem readE_writeL (c tmp : Bool) {t : List Ent} (h : (checkT t).2 = 0) : readE (.mk c tmp (writeL t)) = some (t.map rdEnt) := by
  obtain ⟨hl, hg⟩ := checkT_good h
  have hp : PiecesOk 0 t := piecesOk_of t 0 (by omega) hg
  have hf : ∀ e ∈ t, FieldsOk e := fun e he => fields_ok (hg e he).2
  have hwl : (writeL t).length = (outL 0 t).length + 1024 := by
    unfold writeL
    rw [List.length_append, zeros1024_length]
  unfold readE
  rw [if_neg (show ¬ (BS.mk c tmp (writeL t)).l.length < 1024 by rw [mk_l]; omega)]
  show finR (writeL t) (readP (writeL t).length ((BS.mk c tmp (writeL t)).sl 0 ((writeL t).length - 1024)) []) = _
  have hb : ((BS.mk c tmp (writeL t)).sl 0 ((writeL t).length - 1024)).l = outL 0 t := by
    rw [BS.sl_l]
    simp only [BS.l, List.drop_zero, Nat.sub_zero]
    unfold writeL
    rw [List.length_append, zeros1024_length]
    exact List.take_left' (by omega)
  rw [readP_out t 0 (writeL t).length _ [] hb hp hf (by rw [hb]; omega) (by simpa using hl)]
  simp only [List.nil_append, finR]
  rw [checkT_map Ent.cp same_cp, checkT_map rdEnt same_rd, writeL_rd, if_pos ⟨h, rfl⟩]
end Go.Abs
/- BODIES OF FUNCTIONS, as the small code has them (printed by a program). -/
namespace Go.Abs
/- amphora/amphoralaw12.large -/
def l15_0 : ACode := (.seq (.reg false [] [⟨(some 9), (.bin .lss .other false (.t 8) (.t 7)), none⟩]) (.seq (.cond (.t 9) .skip (.exit 0)) (.seq (.block 1 (.seq (.reg false [] [⟨(some 10), (.ixa 8 (.t 6) (.t 8)), none⟩, ⟨(some 11), (.ld 8 true (.t 10)), none⟩, ⟨(some 5), (.alloc [(.str []), (.int .i64 0), (.int .i64 0), (.int .i64 0), (.int .i64 0), (.int .i64 0), (.str []), (.lit (.slice none 0 0))]), none⟩, ⟨none, (.st 8 (.t 5) (.t 11)), none⟩]) (.seq (.reg false [] [⟨(some 12), (.mov (.t 3)), none⟩, ⟨(some 13), (.fa 7 (.t 5)), none⟩, ⟨(some 14), (.ld 1 false (.t 13)), none⟩, ⟨(some 15), (.len 1 (.t 14)), none⟩, ⟨(some 16), (.bin .add .other true (.c (.int .i64 512)) (.t 15)), none⟩, ⟨(some 17), (.fa 0 (.t 5)), none⟩, ⟨(some 18), (.ld 1 false (.t 17)), none⟩, ⟨(some 19), (.len 0 (.t 18)), none⟩, ⟨(some 20), (.bin .add .other false (.t 16) (.t 19)), none⟩, ⟨(some 21), (.fa 6 (.t 5)), none⟩, ⟨(some 22), (.ld 1 false (.t 21)), none⟩, ⟨(some 23), (.len 0 (.t 22)), none⟩, ⟨(some 24), (.bin .add .other false (.t 20) (.t 23)), none⟩, ⟨(some 25), (.bin .add .other false (.t 12) (.t 24)), none⟩, ⟨(some 3), (.mov (.t 25)), none⟩]) (.seq (.reg false [] [⟨(some 26), (.mov (.t 3)), none⟩, ⟨(some 27), (.bin .gtr .other true (.t 26) (.c (.int .i64 65536))), none⟩]) (.cond (.t 27) (.seq (.reg false [] [⟨(some 2), (.mov (.c (.bool true))), none⟩]) .ret) .skip))))) (.reg false [] [⟨(some 28), (.bin .add .other true (.t 8) (.c (.int .i64 1))), none⟩, ⟨(some 8), (.mov (.t 28)), none⟩]))))
def r15_0 : ACode := (.seq (.reg false [] [⟨(some 2), (.mov (.c (.bool false))), none⟩]) .ret)
def b15 : AFn := ⟨1, 29, [(2, none)], (.seq (.reg false [] [⟨(some 2), (.mov (.c (.bool false))), none⟩]) (.seq (.reg false [] [⟨(some 3), (.mov (.c (.int .i64 0))), none⟩]) (.seq (.seq (.reg false [] [⟨(some 6), (.mov (.t 0)), none⟩, ⟨(some 7), (.len 1 (.t 6)), none⟩, ⟨(some 8), (.mov (.c (.int .i64 0))), none⟩]) (.block 0 (.loop [2, 3, 6, 7, 8] l15_0))) r15_0)))⟩
theorem fn15 : AA.fn 15 = some b15 := by kernel_rfl
theorem np15 : AA.prim 15 = none := rfl
/- amphora/pax.Find -/
def l80_0 : ACode := (.seq (.reg false [] [⟨(some 11), (.bin .lss .other false (.t 10) (.t 9)), none⟩]) (.seq (.cond (.t 11) .skip (.exit 0)) (.seq (.block 1 (.seq (.reg false [] [⟨(some 12), (.ixa 2 (.t 8) (.t 10)), none⟩, ⟨(some 13), (.ld 2 true (.t 12)), none⟩, ⟨(some 7), (.alloc [(.str []), (.str [])]), none⟩, ⟨none, (.st 2 (.t 7) (.t 13)), none⟩]) (.seq (.reg false [] [⟨(some 14), (.fa 0 (.t 7)), none⟩, ⟨(some 15), (.ld 1 false (.t 14)), none⟩, ⟨(some 16), (.mov (.t 1)), none⟩, ⟨(some 17), (.bin .eql .other false (.t 15) (.t 16)), none⟩]) (.cond (.t 17) (.seq (.reg false [] [⟨(some 18), (.fa 1 (.t 7)), none⟩, ⟨(some 19), (.ld 1 false (.t 18)), none⟩, ⟨(some 4), (.mov (.t 19)), none⟩, ⟨(some 5), (.mov (.c (.bool true))), none⟩]) .ret) .skip)))) (.reg false [] [⟨(some 20), (.bin .add .other true (.t 10) (.c (.int .i64 1))), none⟩, ⟨(some 10), (.mov (.t 20)), none⟩]))))
def r80_0 : ACode := (.seq (.reg false [] [⟨(some 4), (.mov (.c (.str []))), none⟩, ⟨(some 5), (.mov (.c (.bool false))), none⟩]) .ret)
def b80 : AFn := ⟨2, 21, [(4, none), (5, none)], (.seq (.reg false [] [⟨(some 4), (.mov (.c (.str []))), none⟩, ⟨(some 5), (.mov (.c (.bool false))), none⟩]) (.seq (.seq (.reg false [] [⟨(some 8), (.mov (.t 0)), none⟩, ⟨(some 9), (.len 1 (.t 8)), none⟩, ⟨(some 10), (.mov (.c (.int .i64 0))), none⟩]) (.block 0 (.loop [1, 4, 5, 8, 9, 10] l80_0))) r80_0))⟩
theorem fn80 : AA.fn 80 = some b80 := by kernel_rfl
theorem np80 : AA.prim 80 = none := rfl
/- amphora/amphoranum.Decimal -/
def l47_0 : ACode := (.seq (.seq (.reg false [] [⟨(some 12), (.mov (.t 3)), none⟩, ⟨(some 13), (.bin .eql .other true (.t 12) (.c (.str []))), none⟩, ⟨(some 14), (.mov (.t 13)), none⟩, ⟨(some 15), (.mov (.t 0)), (some (14, false))⟩, ⟨(some 16), (.bin .gtr .other true (.t 15) (.c (.int .i64 0))), (some (14, false))⟩, ⟨(some 17), (.pick (.t 14) (.c (.bool true)) (.t 16)), none⟩]) (.cond (.t 17) .skip (.exit 0))) (.block 1 (.seq (.reg false [] [⟨(some 18), (.mov (.t 0)), none⟩, ⟨(some 19), (.bin .rem .other true (.t 18) (.c (.int .i64 10))), none⟩, ⟨(some 20), (.bin .add .other true (.c (.int .i64 48)) (.t 19)), none⟩, ⟨(some 21), (.cvi .u8 (.t 20)), none⟩, ⟨(some 22), (.bslice 1 1 [(.int .u8 0)] [(.t 21)]), none⟩, ⟨(some 23), (.cvbs (.t 22)), none⟩, ⟨(some 24), (.mov (.t 3)), none⟩, ⟨(some 25), (.bin .add .other false (.t 23) (.t 24)), none⟩, ⟨(some 3), (.mov (.t 25)), none⟩]) (.reg false [] [⟨(some 26), (.mov (.t 0)), none⟩, ⟨(some 27), (.bin .quo .other true (.t 26) (.c (.int .i64 10))), none⟩, ⟨(some 0), (.mov (.t 27)), none⟩]))))
def r47_0 : ACode := (.seq (.seq (.reg false [] [⟨(some 28), (.mov (.t 4)), none⟩]) (.cond (.t 28) (.seq (.reg false [] [⟨(some 29), (.mov (.t 3)), none⟩, ⟨(some 30), (.bin .add .other true (.c (.str [45])) (.t 29)), none⟩, ⟨(some 2), (.mov (.t 30)), none⟩]) .ret) .skip)) (.seq (.reg false [] [⟨(some 31), (.mov (.t 3)), none⟩, ⟨(some 2), (.mov (.t 31)), none⟩]) .ret))
def b47 : AFn := ⟨1, 32, [(2, none)], (.seq (.reg false [] [⟨(some 2), (.mov (.c (.str []))), none⟩]) (.seq (.seq (.reg false [] [⟨(some 5), (.mov (.t 0)), none⟩, ⟨(some 6), (.bin .eql .other true (.t 5) (.c (.int .i64 (-9223372036854775808)))), none⟩]) (.cond (.t 6) (.seq (.reg false [] [⟨(some 2), (.mov (.c (.str [45, 57, 50, 50, 51, 51, 55, 50, 48, 51, 54, 56, 53, 52, 55, 55, 53, 56, 48, 56]))), none⟩]) .ret) .skip)) (.seq (.reg false [] [⟨(some 3), (.mov (.c (.str []))), none⟩]) (.seq (.reg false [] [⟨(some 7), (.mov (.t 0)), none⟩, ⟨(some 8), (.bin .lss .other true (.t 7) (.c (.int .i64 0))), none⟩, ⟨(some 4), (.mov (.t 8)), none⟩]) (.seq (.seq (.reg false [] [⟨(some 9), (.mov (.t 4)), none⟩]) (.cond (.t 9) (.reg false [] [⟨(some 10), (.mov (.t 0)), none⟩, ⟨(some 11), (.un .neg (.t 10)), none⟩, ⟨(some 0), (.mov (.t 11)), none⟩]) .skip)) (.seq (.block 0 (.loop [0, 2, 3, 4] l47_0)) r47_0))))))⟩
theorem fn47 : AA.fn 47 = some b47 := by kernel_rfl
theorem np47 : AA.prim 47 = none := rfl
/- amphora/amphoralaw12.field -/
def b72 : AFn := ⟨5, 31, [(10, none)], (.seq (.reg false [] [⟨(some 10), (.mov (.c (.bool false))), none⟩]) (.seq (.reg false [] [⟨(some 14), (.mov (.t 2)), none⟩, ⟨(some 15), (.mov (.t 3)), none⟩, ⟨(some 16), (.call (.c (.func (.func 80) [])) [(.t 14), (.t 15)]), none⟩, ⟨(some 13), (.mov (.t 16)), none⟩, ⟨(some 17), (.ext (.t 13) 0), none⟩, ⟨(some 18), (.ext (.t 13) 1), none⟩, ⟨(some 11), (.mov (.t 17)), none⟩, ⟨(some 12), (.mov (.t 18)), none⟩]) (.seq (.seq (.reg false [] [⟨(some 19), (.mov (.t 0)), none⟩]) (.cond (.t 19) (.seq (.reg false [] [⟨(some 20), (.mov (.t 1)), none⟩, ⟨(some 21), (.mov (.t 20)), none⟩, ⟨(some 22), (.mov (.t 12)), (some (21, true))⟩, ⟨(some 23), (.un .not (.t 22)), (some (21, true))⟩, ⟨(some 24), (.pick (.t 21) (.t 23) (.c (.bool false))), none⟩, ⟨(some 10), (.mov (.t 24)), none⟩]) .ret) .skip)) (.seq (.reg false [] [⟨(some 25), (.mov (.t 12)), none⟩, ⟨(some 26), (.mov (.t 25)), none⟩, ⟨(some 27), (.mov (.t 11)), (some (26, true))⟩, ⟨(some 28), (.mov (.t 4)), (some (26, true))⟩, ⟨(some 29), (.bin .eql .other false (.t 27) (.t 28)), (some (26, true))⟩, ⟨(some 30), (.pick (.t 26) (.t 29) (.c (.bool false))), none⟩, ⟨(some 10), (.mov (.t 30)), none⟩]) .ret))))⟩
theorem fn72 : AA.fn 72 = some b72 := by kernel_rfl
theorem np72 : AA.prim 72 = none := rfl
/- amphora/amphoralaw12.says -/
def l36_0 : ACode := (.seq (.reg false [] [⟨(some 28), (.bin .lss .other false (.t 27) (.t 26)), none⟩]) (.seq (.cond (.t 28) .skip (.exit 0)) (.seq (.block 1 (.seq (.reg false [] [⟨(some 29), (.ixa 2 (.t 25) (.t 27)), none⟩, ⟨(some 30), (.ld 2 true (.t 29)), none⟩, ⟨(some 10), (.alloc [(.str []), (.str [])]), none⟩, ⟨none, (.st 2 (.t 10) (.t 30)), none⟩]) (.seq (.reg false [] [⟨(some 31), (.fa 0 (.t 10)), none⟩, ⟨(some 32), (.ld 1 false (.t 31)), none⟩, ⟨(some 33), (.bin .neq .other true (.t 32) (.c (.str [103, 105, 100]))), none⟩, ⟨(some 34), (.mov (.t 33)), none⟩, ⟨(some 35), (.fa 0 (.t 10)), (some (34, true))⟩, ⟨(some 36), (.ld 1 false (.t 35)), (some (34, true))⟩, ⟨(some 37), (.bin .neq .other true (.t 36) (.c (.str [108, 105, 110, 107, 112, 97, 116, 104]))), (some (34, true))⟩, ⟨(some 38), (.pick (.t 34) (.t 37) (.c (.bool false))), none⟩, ⟨(some 39), (.mov (.t 38)), none⟩, ⟨(some 40), (.fa 0 (.t 10)), (some (39, true))⟩, ⟨(some 41), (.ld 1 false (.t 40)), (some (39, true))⟩, ⟨(some 42), (.bin .neq .other true (.t 41) (.c (.str [109, 116, 105, 109, 101]))), (some (39, true))⟩, ⟨(some 43), (.pick (.t 39) (.t 42) (.c (.bool false))), none⟩, ⟨(some 44), (.mov (.t 43)), none⟩, ⟨(some 45), (.fa 0 (.t 10)), (some (44, true))⟩, ⟨(some 46), (.ld 1 false (.t 45)), (some (44, true))⟩, ⟨(some 47), (.bin .neq .other true (.t 46) (.c (.str [112, 97, 116, 104]))), (some (44, true))⟩, ⟨(some 48), (.pick (.t 44) (.t 47) (.c (.bool false))), none⟩, ⟨(some 49), (.mov (.t 48)), none⟩, ⟨(some 50), (.fa 0 (.t 10)), (some (49, true))⟩, ⟨(some 51), (.ld 1 false (.t 50)), (some (49, true))⟩, ⟨(some 52), (.bin .neq .other true (.t 51) (.c (.str [117, 105, 100]))), (some (49, true))⟩, ⟨(some 53), (.pick (.t 49) (.t 52) (.c (.bool false))), none⟩]) (.cond (.t 53) (.seq (.reg false [] [⟨(some 8), (.mov (.c (.bool false))), none⟩]) .ret) .skip)))) (.reg false [] [⟨(some 54), (.bin .add .other true (.t 27) (.c (.int .i64 1))), none⟩, ⟨(some 27), (.mov (.t 54)), none⟩]))))
def r36_0 : ACode := (.seq (.reg false [] [⟨(some 11), (.mov (.c (.int .i64 0))), none⟩]) (.seq (.seq (.reg false [] [⟨(some 55), (.fa 6 (.t 4)), none⟩, ⟨(some 56), (.ld 1 false (.t 55)), none⟩]) (.block 2 (.seq (.reg false [] [⟨(some 58), (.bin .eql .other true (.t 56) (.c (.int .u8 48))), none⟩, ⟨(some 57), (.mov (.t 58)), none⟩]) (.cond (.t 57) (.reg false [] [⟨(some 11), (.mov (.c (.int .i64 2))), none⟩]) (.seq (.reg false [] [⟨(some 60), (.bin .eql .other true (.t 56) (.c (.int .u8 49))), none⟩, ⟨(some 59), (.mov (.t 60)), none⟩]) (.cond (.t 59) (.reg false [] [⟨(some 11), (.mov (.c (.int .i64 4))), none⟩]) (.seq (.reg false [] [⟨(some 62), (.bin .eql .other true (.t 56) (.c (.int .u8 50))), none⟩, ⟨(some 61), (.mov (.t 62)), none⟩]) (.cond (.t 61) (.reg false [] [⟨(some 11), (.mov (.c (.int .i64 3))), none⟩]) (.seq (.reg false [] [⟨(some 64), (.bin .eql .other true (.t 56) (.c (.int .u8 53))), none⟩, ⟨(some 63), (.mov (.t 64)), none⟩]) (.cond (.t 63) (.reg false [] [⟨(some 11), (.mov (.c (.int .i64 1))), none⟩]) .skip)))))))))) (.seq (.reg true [(0, 2), (6, 8), (7, 8), (5, 9), (6, 9), (7, 9), (6, 10), (7, 10), (9, 10), (5, 11), (6, 11), (7, 11), (8, 11), (9, 11), (6, 12), (7, 12), (6, 13), (7, 13), (9, 13), (11, 13), (6, 14), (7, 14), (9, 14), (11, 14), (5, 15), (6, 15), (7, 15), (8, 15), (9, 15), (10, 15), (11, 15), (12, 15), (13, 15), (20, 27), (24, 27), (25, 27), (19, 28), (20, 28), (21, 28), (22, 28), (23, 28), (24, 28), (25, 28), (26, 28), (20, 29), (24, 29), (25, 29), (28, 29), (19, 30), (20, 30), (21, 30), (22, 30), (23, 30), (24, 30), (25, 30), (26, 30), (27, 30), (28, 30), (20, 31), (24, 31), (25, 31), (20, 32), (24, 32), (25, 32), (28, 32), (30, 32), (20, 33), (24, 33), (25, 33), (28, 33), (30, 33), (19, 34), (20, 34), (21, 34), (22, 34), (23, 34), (24, 34), (25, 34), (26, 34), (27, 34), (28, 34), (29, 34), (30, 34), (31, 34), (32, 34), (39, 41), (38, 42), (39, 42), (40, 42), (39, 43), (42, 43), (38, 44), (39, 44), (40, 44), (41, 44), (42, 44), (39, 45), (39, 46), (42, 46), (44, 46), (39, 47), (42, 47), (44, 47), (38, 48), (39, 48), (40, 48), (41, 48), (42, 48), (43, 48), (44, 48), (45, 48), (46, 48), (38, 49), (39, 49), (40, 49), (41, 49), (42, 49), (43, 49), (44, 49), (45, 49), (46, 49), (54, 56), (53, 57), (54, 57), (55, 57), (54, 58), (57, 58), (53, 59), (54, 59), (55, 59), (56, 59), (57, 59), (54, 60), (54, 61), (57, 61), (59, 61), (54, 62), (57, 62), (59, 62), (53, 63), (54, 63), (55, 63), (56, 63), (57, 63), (58, 63), (59, 63), (60, 63), (61, 63), (53, 64), (54, 64), (55, 64), (56, 64), (57, 64), (58, 64), (59, 64), (60, 64), (61, 64), (69, 76), (73, 76), (68, 77), (69, 77), (70, 77), (71, 77), (72, 77), (73, 77), (74, 77), (75, 77), (69, 78), (73, 78), (77, 78), (68, 79), (69, 79), (70, 79), (71, 79), (72, 79), (73, 79), (74, 79), (75, 79), (76, 79), (77, 79), (69, 80), (73, 80), (69, 81), (73, 81), (77, 81), (79, 81), (69, 82), (73, 82), (77, 82), (79, 82), (68, 83), (69, 83), (70, 83), (71, 83), (72, 83), (73, 83), (74, 83), (75, 83), (76, 83), (77, 83), (78, 83), (79, 83), (80, 83), (81, 83), (72, 84), (73, 84), (74, 84), (75, 84), (76, 84), (77, 84), (78, 84), (79, 84), (80, 84), (81, 84)] [⟨(some 65), (.mov (.t 11)), none⟩, ⟨(some 66), (.fa 1 (.t 7)), none⟩, ⟨(some 67), (.ld 1 false (.t 66)), none⟩, ⟨(some 68), (.bin .eql .other false (.t 65) (.t 67)), none⟩, ⟨(some 69), (.mov (.t 68)), none⟩, ⟨(some 70), (.fa 0 (.t 7)), (some (69, true))⟩, ⟨(some 71), (.ld 1 false (.t 70)), (some (69, true))⟩, ⟨(some 72), (.call (.c (.func (.func 44) [])) [(.t 71)]), (some (69, true))⟩, ⟨(some 73), (.fa 0 (.t 4)), (some (69, true))⟩, ⟨(some 74), (.ld 1 false (.t 73)), (some (69, true))⟩, ⟨(some 75), (.fa 0 (.t 7)), (some (69, true))⟩, ⟨(some 76), (.ld 1 false (.t 75)), (some (69, true))⟩, ⟨(some 77), (.bin .eql .other false (.t 74) (.t 76)), (some (69, true))⟩, ⟨(some 78), (.mov (.t 2)), (some (69, true))⟩, ⟨(some 79), (.fa 0 (.t 7)), (some (69, true))⟩, ⟨(some 80), (.ld 1 false (.t 79)), (some (69, true))⟩, ⟨(some 81), (.call (.c (.func (.func 72) [])) [(.t 72), (.t 77), (.t 78), (.c (.str [112, 97, 116, 104])), (.t 80)]), (some (69, true))⟩, ⟨(some 82), (.pick (.t 69) (.t 81) (.c (.bool false))), none⟩, ⟨(some 83), (.mov (.t 82)), none⟩, ⟨(some 84), (.fa 6 (.t 7)), (some (83, true))⟩, ⟨(some 85), (.ld 1 false (.t 84)), (some (83, true))⟩, ⟨(some 86), (.bin .eql .other true (.t 85) (.c (.str []))), (some (83, true))⟩, ⟨(some 87), (.mov (.t 86)), (some (83, true))⟩, ⟨(some 88), (.fa 6 (.t 7)), (some (87, false))⟩, ⟨(some 89), (.ld 1 false (.t 88)), (some (87, false))⟩, ⟨(some 90), (.call (.c (.func (.func 45) [])) [(.t 89)]), (some (87, false))⟩, ⟨(some 91), (.pick (.t 87) (.c (.bool true)) (.t 90)), (some (83, true))⟩, ⟨(some 92), (.fa 7 (.t 4)), (some (83, true))⟩, ⟨(some 93), (.ld 1 false (.t 92)), (some (83, true))⟩, ⟨(some 94), (.fa 6 (.t 7)), (some (83, true))⟩, ⟨(some 95), (.ld 1 false (.t 94)), (some (83, true))⟩, ⟨(some 96), (.bin .eql .other false (.t 93) (.t 95)), (some (83, true))⟩, ⟨(some 97), (.mov (.t 2)), (some (83, true))⟩, ⟨(some 98), (.fa 6 (.t 7)), (some (83, true))⟩, ⟨(some 99), (.ld 1 false (.t 98)), (some (83, true))⟩, ⟨(some 100), (.call (.c (.func (.func 72) [])) [(.t 91), (.t 96), (.t 97), (.c (.str [108, 105, 110, 107, 112, 97, 116, 104])), (.t 99)]), (some (83, true))⟩, ⟨(some 101), (.pick (.t 83) (.t 100) (.c (.bool false))), none⟩, ⟨(some 102), (.mov (.t 101)), none⟩, ⟨(some 103), (.fa 3 (.t 7)), (some (102, true))⟩, ⟨(some 104), (.ld 1 false (.t 103)), (some (102, true))⟩, ⟨(some 105), (.bin .lss .other true (.t 104) (.c (.int .i64 2097152))), (some (102, true))⟩, ⟨(some 106), (.fa 2 (.t 4)), (some (102, true))⟩, ⟨(some 107), (.ld 1 false (.t 106)), (some (102, true))⟩, ⟨(some 108), (.fa 3 (.t 7)), (some (102, true))⟩, ⟨(some 109), (.ld 1 false (.t 108)), (some (102, true))⟩, ⟨(some 110), (.bin .eql .other false (.t 107) (.t 109)), (some (102, true))⟩, ⟨(some 111), (.mov (.t 2)), (some (102, true))⟩, ⟨(some 112), (.fa 3 (.t 7)), (some (102, true))⟩, ⟨(some 113), (.ld 1 false (.t 112)), (some (102, true))⟩, ⟨(some 114), (.call (.c (.func (.func 47) [])) [(.t 113)]), (some (102, true))⟩, ⟨(some 115), (.call (.c (.func (.func 72) [])) [(.t 105), (.t 110), (.t 111), (.c (.str [117, 105, 100])), (.t 114)]), (some (102, true))⟩, ⟨(some 116), (.pick (.t 102) (.t 115) (.c (.bool false))), none⟩, ⟨(some 117), (.mov (.t 116)), none⟩, ⟨(some 118), (.fa 4 (.t 7)), (some (117, true))⟩, ⟨(some 119), (.ld 1 false (.t 118)), (some (117, true))⟩, ⟨(some 120), (.bin .lss .other true (.t 119) (.c (.int .i64 2097152))), (some (117, true))⟩, ⟨(some 121), (.fa 3 (.t 4)), (some (117, true))⟩, ⟨(some 122), (.ld 1 false (.t 121)), (some (117, true))⟩, ⟨(some 123), (.fa 4 (.t 7)), (some (117, true))⟩, ⟨(some 124), (.ld 1 false (.t 123)), (some (117, true))⟩, ⟨(some 125), (.bin .eql .other false (.t 122) (.t 124)), (some (117, true))⟩, ⟨(some 126), (.mov (.t 2)), (some (117, true))⟩, ⟨(some 127), (.fa 4 (.t 7)), (some (117, true))⟩, ⟨(some 128), (.ld 1 false (.t 127)), (some (117, true))⟩, ⟨(some 129), (.call (.c (.func (.func 47) [])) [(.t 128)]), (some (117, true))⟩, ⟨(some 130), (.call (.c (.func (.func 72) [])) [(.t 120), (.t 125), (.t 126), (.c (.str [103, 105, 100])), (.t 129)]), (some (117, true))⟩, ⟨(some 131), (.pick (.t 117) (.t 130) (.c (.bool false))), none⟩, ⟨(some 132), (.mov (.t 131)), none⟩, ⟨(some 133), (.fa 5 (.t 7)), (some (132, true))⟩, ⟨(some 134), (.ld 1 false (.t 133)), (some (132, true))⟩, ⟨(some 135), (.bin .geq .other true (.t 134) (.c (.int .i64 0))), (some (132, true))⟩, ⟨(some 136), (.mov (.t 135)), (some (132, true))⟩, ⟨(some 137), (.fa 5 (.t 7)), (some (136, true))⟩, ⟨(some 138), (.ld 1 false (.t 137)), (some (136, true))⟩, ⟨(some 139), (.bin .lss .other true (.t 138) (.c (.int .i64 8589934592))), (some (136, true))⟩, ⟨(some 140), (.pick (.t 136) (.t 139) (.c (.bool false))), (some (132, true))⟩, ⟨(some 141), (.fa 5 (.t 4)), (some (132, true))⟩, ⟨(some 142), (.ld 1 false (.t 141)), (some (132, true))⟩, ⟨(some 143), (.fa 5 (.t 7)), (some (132, true))⟩, ⟨(some 144), (.ld 1 false (.t 143)), (some (132, true))⟩, ⟨(some 145), (.bin .eql .other false (.t 142) (.t 144)), (some (132, true))⟩, ⟨(some 146), (.mov (.t 2)), (some (132, true))⟩, ⟨(some 147), (.fa 5 (.t 7)), (some (132, true))⟩, ⟨(some 148), (.ld 1 false (.t 147)), (some (132, true))⟩, ⟨(some 149), (.call (.c (.func (.func 47) [])) [(.t 148)]), (some (132, true))⟩, ⟨(some 150), (.call (.c (.func (.func 72) [])) [(.t 140), (.t 145), (.t 146), (.c (.str [109, 116, 105, 109, 101])), (.t 149)]), (some (132, true))⟩, ⟨(some 151), (.pick (.t 132) (.t 150) (.c (.bool false))), none⟩, ⟨(some 8), (.mov (.t 151)), none⟩]) .ret)))
def b36 : AFn := ⟨4, 152, [(8, none)], (.seq (.reg false [] [⟨(some 4), (.box (.t 0)), none⟩, ⟨(some 7), (.box (.t 3)), none⟩, ⟨(some 8), (.mov (.c (.bool false))), none⟩]) (.seq (.seq (.reg false [] [⟨(some 12), (.fa 1 (.t 4)), none⟩, ⟨(some 13), (.ld 1 false (.t 12)), none⟩, ⟨(some 14), (.fa 2 (.t 7)), none⟩, ⟨(some 15), (.ld 1 false (.t 14)), none⟩, ⟨(some 16), (.bin .neq .other false (.t 13) (.t 15)), none⟩, ⟨(some 17), (.mov (.t 16)), none⟩, ⟨(some 18), (.mov (.t 1)), (some (17, false))⟩, ⟨(some 19), (.cvbs (.t 18)), (some (17, false))⟩, ⟨(some 20), (.fa 7 (.t 7)), (some (17, false))⟩, ⟨(some 21), (.ld 1 false (.t 20)), (some (17, false))⟩, ⟨(some 22), (.cvbs (.t 21)), (some (17, false))⟩, ⟨(some 23), (.bin .neq .other false (.t 19) (.t 22)), (some (17, false))⟩, ⟨(some 24), (.pick (.t 17) (.c (.bool true)) (.t 23)), none⟩]) (.cond (.t 24) (.seq (.reg false [] [⟨(some 8), (.mov (.c (.bool false))), none⟩]) .ret) .skip)) (.seq (.seq (.reg false [] [⟨(some 25), (.mov (.t 2)), none⟩, ⟨(some 26), (.len 1 (.t 25)), none⟩, ⟨(some 27), (.mov (.c (.int .i64 0))), none⟩]) (.block 0 (.loop [2, 4, 7, 8, 25, 26, 27] l36_0))) r36_0)))⟩
theorem fn36 : AA.fn 36 = some b36 := by kernel_rfl
theorem np36 : AA.prim 36 = none := rfl
/- amphora/amphoralaw12.TarForms -/
def l7_0 : ACode := (.seq (.seq (.reg false [] [⟨(some 49), (.mov (.t 6)), none⟩, ⟨(some 50), (.mov (.t 5)), none⟩, ⟨(some 51), (.bin .lss .other false (.t 49) (.t 50)), none⟩]) (.cond (.t 51) .skip (.exit 0))) (.block 1 (.seq (.reg false [] [⟨(some 53), (.mov (.t 3)), none⟩, ⟨(some 54), (.mov (.t 6)), none⟩, ⟨(some 55), (.mov (.t 6)), none⟩, ⟨(some 56), (.bin .add .other true (.t 55) (.c (.int .i64 512))), none⟩, ⟨(some 57), (.slc 1 (.t 53) (some (.t 54)) (some (.t 56)) none), none⟩, ⟨(some 58), (.call (.c (.func (.func 34) [])) [(.t 57)]), none⟩, ⟨(some 52), (.mov (.t 58)), none⟩, ⟨(some 59), (.ext (.t 52) 0), none⟩, ⟨(some 60), (.ext (.t 52) 1), none⟩, ⟨(some 10), (.alloc [(.str []), (.int .i64 0), (.int .i64 0), (.int .i64 0), (.int .i64 0), (.int .i64 0), (.int .u8 0), (.str [])]), none⟩, ⟨none, (.st 8 (.t 10) (.t 59)), none⟩, ⟨(some 11), (.mov (.t 60)), none⟩]) (.seq (.reg false [] [⟨(some 61), (.mov (.t 6)), none⟩, ⟨(some 62), (.bin .add .other true (.t 61) (.c (.int .i64 512))), none⟩, ⟨(some 6), (.mov (.t 62)), none⟩]) (.seq (.reg false [] [⟨(some 63), (.fa 4 (.t 10)), none⟩, ⟨(some 64), (.ld 1 false (.t 63)), none⟩, ⟨(some 65), (.bin .add .other true (.t 64) (.c (.int .i64 511))), none⟩, ⟨(some 66), (.bin .quo .other true (.t 65) (.c (.int .i64 512))), none⟩, ⟨(some 67), (.bin .mul .other true (.t 66) (.c (.int .i64 512))), none⟩, ⟨(some 12), (.mov (.t 67)), none⟩]) (.seq (.seq (.reg false [] [⟨(some 68), (.mov (.t 11)), none⟩, ⟨(some 69), (.bin .neq (.iface [58]) true (.t 68) (.c (.lit .nilIface))), none⟩, ⟨(some 70), (.mov (.t 69)), none⟩, ⟨(some 71), (.mov (.t 12)), (some (70, false))⟩, ⟨(some 72), (.mov (.t 5)), (some (70, false))⟩, ⟨(some 73), (.mov (.t 6)), (some (70, false))⟩, ⟨(some 74), (.bin .sub .other false (.t 72) (.t 73)), (some (70, false))⟩, ⟨(some 75), (.bin .gtr .other false (.t 71) (.t 74)), (some (70, false))⟩, ⟨(some 76), (.pick (.t 70) (.c (.bool true)) (.t 75)), none⟩, ⟨(some 77), (.mov (.t 76)), none⟩, ⟨(some 78), (.mov (.t 3)), (some (77, false))⟩, ⟨(some 79), (.mov (.t 6)), (some (77, false))⟩, ⟨(some 80), (.fa 4 (.t 10)), (some (77, false))⟩, ⟨(some 81), (.ld 1 false (.t 80)), (some (77, false))⟩, ⟨(some 82), (.bin .add .other false (.t 79) (.t 81)), (some (77, false))⟩, ⟨(some 83), (.mov (.t 6)), (some (77, false))⟩, ⟨(some 84), (.mov (.t 12)), (some (77, false))⟩, ⟨(some 85), (.bin .add .other false (.t 83) (.t 84)), (some (77, false))⟩, ⟨(some 86), (.slc 1 (.t 78) (some (.t 82)) (some (.t 85)) none), (some (77, false))⟩, ⟨(some 87), (.call (.c (.func (.func 33) [])) [(.t 86)]), (some (77, false))⟩, ⟨(some 88), (.un .not (.t 87)), (some (77, false))⟩, ⟨(some 89), (.pick (.t 77) (.c (.bool true)) (.t 88)), none⟩, ⟨(some 90), (.mov (.t 89)), none⟩, ⟨(some 91), (.mov (.t 7)), (some (90, false))⟩, ⟨(some 92), (.mov (.t 0)), (some (90, false))⟩, ⟨(some 93), (.len 1 (.t 92)), (some (90, false))⟩, ⟨(some 94), (.bin .geq .other false (.t 91) (.t 93)), (some (90, false))⟩, ⟨(some 95), (.pick (.t 90) (.c (.bool true)) (.t 94)), none⟩]) (.cond (.t 95) (.seq (.reg false [] [⟨(some 2), (.mov (.c (.bool false))), none⟩]) .ret) .skip)) (.seq (.reg false [] [⟨(some 96), (.mov (.t 3)), none⟩, ⟨(some 97), (.mov (.t 6)), none⟩, ⟨(some 98), (.mov (.t 6)), none⟩, ⟨(some 99), (.fa 4 (.t 10)), none⟩, ⟨(some 100), (.ld 1 false (.t 99)), none⟩, ⟨(some 101), (.bin .add .other false (.t 98) (.t 100)), none⟩, ⟨(some 102), (.slc 1 (.t 96) (some (.t 97)) (some (.t 101)) none), none⟩, ⟨(some 13), (.mov (.t 102)), none⟩]) (.seq (.reg false [] [⟨(some 103), (.mov (.t 6)), none⟩, ⟨(some 104), (.mov (.t 12)), none⟩, ⟨(some 105), (.bin .add .other false (.t 103) (.t 104)), none⟩, ⟨(some 6), (.mov (.t 105)), none⟩]) (.seq (.seq (.reg false [] [⟨(some 106), (.fa 6 (.t 10)), none⟩, ⟨(some 107), (.ld 1 false (.t 106)), none⟩, ⟨(some 108), (.bin .eql .other true (.t 107) (.c (.int .u8 120))), none⟩]) (.cond (.t 108) (.seq (.reg false [] [⟨(some 110), (.mov (.t 13)), none⟩, ⟨(some 111), (.call (.c (.func (.func 35) [])) [(.t 110)]), none⟩, ⟨(some 109), (.mov (.t 111)), none⟩, ⟨(some 112), (.ext (.t 109) 0), none⟩, ⟨(some 113), (.ext (.t 109) 1), none⟩, ⟨(some 14), (.mov (.t 112)), none⟩, ⟨(some 15), (.mov (.t 113)), none⟩]) (.seq (.seq (.reg false [] [⟨(some 114), (.mov (.t 9)), none⟩, ⟨(some 115), (.mov (.t 114)), none⟩, ⟨(some 116), (.mov (.t 15)), (some (115, false))⟩, ⟨(some 117), (.bin .neq (.iface [58]) true (.t 116) (.c (.lit .nilIface))), (some (115, false))⟩, ⟨(some 118), (.pick (.t 115) (.c (.bool true)) (.t 117)), none⟩, ⟨(some 119), (.mov (.t 118)), none⟩, ⟨(some 120), (.mov (.t 14)), (some (119, false))⟩, ⟨(some 121), (.len 1 (.t 120)), (some (119, false))⟩, ⟨(some 122), (.bin .eql .other true (.t 121) (.c (.int .i64 0))), (some (119, false))⟩, ⟨(some 123), (.pick (.t 119) (.c (.bool true)) (.t 122)), none⟩]) (.cond (.t 123) (.seq (.reg false [] [⟨(some 2), (.mov (.c (.bool false))), none⟩]) .ret) .skip)) (.seq (.reg false [] [⟨(some 124), (.mov (.t 14)), none⟩, ⟨(some 8), (.mov (.t 124)), none⟩, ⟨(some 9), (.mov (.c (.bool true))), none⟩]) (.exit 1)))) .skip)) (.seq (.seq (.reg true [(0, 1), (0, 2), (0, 3), (0, 4), (0, 5), (0, 6), (1, 6), (2, 6)] [⟨(some 125), (.ld 8 true (.t 10)), none⟩, ⟨(some 126), (.mov (.t 13)), none⟩, ⟨(some 127), (.mov (.t 8)), none⟩, ⟨(some 128), (.mov (.t 0)), none⟩, ⟨(some 129), (.mov (.t 7)), none⟩, ⟨(some 130), (.ixa 8 (.t 128) (.t 129)), none⟩, ⟨(some 131), (.ld 8 true (.t 130)), none⟩, ⟨(some 132), (.call (.c (.func (.func 36) [])) [(.t 125), (.t 126), (.t 127), (.t 131)]), none⟩, ⟨(some 133), (.un .not (.t 132)), none⟩]) (.cond (.t 133) (.seq (.reg false [] [⟨(some 2), (.mov (.c (.bool false))), none⟩]) .ret) .skip)) (.seq (.reg false [] [⟨(some 134), (.mov (.t 7)), none⟩, ⟨(some 135), (.bin .add .other true (.t 134) (.c (.int .i64 1))), none⟩, ⟨(some 7), (.mov (.t 135)), none⟩]) (.reg false [] [⟨(some 8), (.mov (.c (.lit (.slice none 0 0)))), none⟩, ⟨(some 9), (.mov (.c (.bool false))), none⟩]))))))))))))
def r7_0 : ACode := (.seq (.reg false [] [⟨(some 136), (.mov (.t 9)), none⟩, ⟨(some 137), (.un .not (.t 136)), none⟩, ⟨(some 138), (.mov (.t 137)), none⟩, ⟨(some 139), (.mov (.t 7)), (some (138, true))⟩, ⟨(some 140), (.mov (.t 0)), (some (138, true))⟩, ⟨(some 141), (.len 1 (.t 140)), (some (138, true))⟩, ⟨(some 142), (.bin .eql .other false (.t 139) (.t 141)), (some (138, true))⟩, ⟨(some 143), (.pick (.t 138) (.t 142) (.c (.bool false))), none⟩, ⟨(some 2), (.mov (.t 143)), none⟩]) .ret)
def b7 : AFn := ⟨1, 144, [(2, none)], (.seq (.reg false [] [⟨(some 2), (.mov (.c (.bool false))), none⟩]) (.seq (.seq (.reg false [] [⟨(some 16), (.call (.c (.func (.func 14) [])) []), none⟩, ⟨(some 17), (.un .not (.t 16)), none⟩]) (.cond (.t 17) (.seq (.reg false [] [⟨(some 2), (.mov (.c (.bool false))), none⟩]) .ret) .skip)) (.seq (.seq (.reg false [] [⟨(some 18), (.mov (.t 0)), none⟩, ⟨(some 19), (.call (.c (.func (.func 15) [])) [(.t 18)]), none⟩]) (.cond (.t 19) (.seq (.reg false [] [⟨(some 2), (.mov (.c (.bool true))), none⟩]) .ret) .skip)) (.seq (.reg false [] [⟨(some 21), (.mov (.t 0)), none⟩, ⟨(some 22), (.call (.c (.func (.func 17) [])) [(.t 21)]), none⟩, ⟨(some 20), (.mov (.t 22)), none⟩, ⟨(some 23), (.ext (.t 20) 0), none⟩, ⟨(some 24), (.ext (.t 20) 1), none⟩, ⟨(some 3), (.mov (.t 23)), none⟩, ⟨(some 4), (.mov (.t 24)), none⟩]) (.seq (.seq (.reg false [] [⟨(some 25), (.mov (.t 4)), none⟩, ⟨(some 26), (.bin .neq (.iface [58]) true (.t 25) (.c (.lit .nilIface))), none⟩]) (.cond (.t 26) (.seq (.reg false [] [⟨(some 27), (.mov (.t 3)), none⟩, ⟨(some 28), (.len 1 (.t 27)), none⟩, ⟨(some 29), (.bin .eql .other true (.t 28) (.c (.int .i64 0))), none⟩, ⟨(some 2), (.mov (.t 29)), none⟩]) .ret) .skip)) (.seq (.reg false [] [⟨(some 30), (.mov (.t 3)), none⟩, ⟨(some 31), (.len 1 (.t 30)), none⟩, ⟨(some 32), (.bin .sub .other true (.t 31) (.c (.int .i64 1024))), none⟩, ⟨(some 5), (.mov (.t 32)), none⟩]) (.seq (.seq (.reg false [] [⟨(some 33), (.mov (.t 5)), none⟩, ⟨(some 34), (.bin .lss .other true (.t 33) (.c (.int .i64 0))), none⟩, ⟨(some 35), (.mov (.t 34)), none⟩, ⟨(some 36), (.mov (.t 3)), (some (35, false))⟩, ⟨(some 37), (.len 1 (.t 36)), (some (35, false))⟩, ⟨(some 38), (.bin .rem .other true (.t 37) (.c (.int .i64 512))), (some (35, false))⟩, ⟨(some 39), (.bin .neq .other true (.t 38) (.c (.int .i64 0))), (some (35, false))⟩, ⟨(some 40), (.pick (.t 35) (.c (.bool true)) (.t 39)), none⟩, ⟨(some 41), (.mov (.t 40)), none⟩, ⟨(some 42), (.mov (.t 3)), (some (41, false))⟩, ⟨(some 43), (.mov (.t 5)), (some (41, false))⟩, ⟨(some 44), (.slc 1 (.t 42) (some (.t 43)) none none), (some (41, false))⟩, ⟨(some 45), (.call (.c (.func (.func 33) [])) [(.t 44)]), (some (41, false))⟩, ⟨(some 46), (.un .not (.t 45)), (some (41, false))⟩, ⟨(some 47), (.pick (.t 41) (.c (.bool true)) (.t 46)), none⟩]) (.cond (.t 47) (.seq (.reg false [] [⟨(some 2), (.mov (.c (.bool false))), none⟩]) .ret) .skip)) (.seq (.reg false [] [⟨(some 6), (.mov (.c (.int .i64 0))), none⟩, ⟨(some 7), (.mov (.c (.int .i64 0))), none⟩]) (.seq (.reg false [] [⟨(some 48), (.bslice 2 0 [(.str []), (.str [])] []), none⟩, ⟨(some 8), (.mov (.t 48)), none⟩]) (.seq (.reg false [] [⟨(some 9), (.mov (.c (.bool false))), none⟩]) (.seq (.block 0 (.loop [0, 2, 3, 5, 6, 7, 8, 9] l7_0)) r7_0)))))))))))⟩
theorem fn7 : AA.fn 7 = some b7 := by kernel_rfl
theorem np7 : AA.prim 7 = none := rfl
end Go.Abs
