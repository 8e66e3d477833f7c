import Derived.Test.YtambgnjkakdoeaaGreatDoorWrites12
import Derived.Below
import Derived.ChangeArms
import Derived.ChangeSame
import Derived.ChangeSlices
import Derived.Deep.Fields
import Derived.Deep.Slices
import Derived.Ground.NamesProg
import Derived.Lib.BytesEntry
import Derived.ProofKit
import Derived.Shelf.Strconv.AtoiAll
import Derived.Shelf.Strconv.Itoa4
import Derived.Shelf.Unicode.ValidAny
import Derived.Test.YtambgnjkakdoeaaGreatDoorProg
import Derived.WalkKit
/- PART OF A PROOF (texts joined by a program): F69 F35 Q3 F82 Shelf P1 R0 R2 Q6 F36 F37 B4 F83. -/
set_option linter.unusedVariables false
set_option linter.unusedSimpArgs false
set_option linter.unusedSectionVars false
namespace Go.Abs
open Am Lib
set_option maxRecDepth 10000
set_option linter.unusedSimpArgs false
set_option maxHeartbeats 4000000 in
theorem h41 (cl tmp : Bool) (t : List Ent) (ht : t.length ≤ 200) (hq : ∀ e ∈ t, EntOk e) (r0 : Int × Int) : ∀ (rest done : List Ent) (c : Ck) (i : Int), t = done ++ rest → i = done.length → CkOk c done → (∀ p ∈ done.getLast?, c.last = p.path) → r0 = checkL c i rest →
    HD AA 0 [0, 2, 3, 4, 5] l41_0 ⟨[.view 8 (t.map Ent.av) cl tmp, .junk, .int .i64 0, .int .i64 0, .int .i64 c.size, .int .i64 i, .junk, .junk, .junk, .junk, .junk, .junk, .junk, .junk, .junk, .junk, .junk, .junk, .junk, .junk, .junk, .junk, .junk, .junk, .junk, .junk, .junk, .junk, .junk, .junk, .junk, .junk, .junk, .junk, .junk, .junk, .junk, .junk, .junk, .junk, .junk, .junk, .junk, .junk, .junk, .junk, .junk, .junk, .junk, .junk, .junk, .junk, .junk, .junk, .junk, .junk, .junk, .junk, .junk, .junk, .junk, .junk, .junk, .junk, .junk, .junk, .junk, .junk, .junk, .junk, .junk, .junk, .junk, .junk, .junk, .junk, .junk, .junk, .junk, .junk, .junk, .junk, .junk, .junk, .junk, .junk, .junk, .junk, .junk, .junk, .junk], [], 0⟩ [.blk 0, .code r41_0] (Fin [(2, none), (3, none)] 0 (.tuple [.int .i64 r0.1, .int .i64 r0.2]) [])
  | [], done, c, i, h1, h2, hck, hlast, h5 => by
    have hl : t.length = done.length := by rw [h1]; simp
    have hr : r0 = (-1, 0) := h5
    subst hr
    refine hd_of (by unfold l41_0; rfl) ?_
    have gg := trivial; repeat' first | simp (maxSteps := 2000000) (disch := omega) only [gg, r41_0, go_sem] | (refine br ?_ ?_ <;> intro gg <;> try (exfalso; omega)) | (refine And.intro ?_ ?_; focus omega) | omega
  | e :: rest, done, c, i, h1, h2, hck, hlast, h5 => by
    have hl : t.length = done.length + (rest.length + 1) := by rw [h1]; simp
    have hm : e ∈ t := by rw [h1]; simp
    obtain ⟨b1, b2, b3, b4⟩ := hq e hm
    have hsz := hck.size
    have hx : t[i.toNat]? = some e := by
      rw [show i.toNat = done.length by omega, h1, List.getElem?_append_right (by omega)]
      simp
    have k1 := s75 e.path b2
    have k2 := s76 e.path b2
    have k3 := s77 e b1
    have k4 := fun p => s79 cl tmp t (by omega) p i (by omega) (by omega)
    have hti : t.take i.toNat = done := by rw [show i.toNat = done.length by omega, h1, List.take_left' rfl]
    simp only [hti] at k4
    simp only [Ent.av] at k3
    have hs := step_entry hck e
    rw [checkL, hs] at h5
    have S : ∀ k, stepE done c.last c.size e = k → k ≠ 0 → r0 = (i, k) := by
      intro k h6 h7
      rw [h5, h6, if_neg h7]
    have K : stepE done c.last c.size e = 0 → HD AA 0 [0, 2, 3, 4, 5] l41_0 ⟨[.view 8 (t.map Ent.av) cl tmp, .junk, .int .i64 0, .int .i64 0, .int .i64 (c.size + e.data.l.length), .int .i64 (i + 1), .junk, .junk, .junk, .junk, .junk, .junk, .junk, .junk, .junk, .junk, .junk, .junk, .junk, .junk, .junk, .junk, .junk, .junk, .junk, .junk, .junk, .junk, .junk, .junk, .junk, .junk, .junk, .junk, .junk, .junk, .junk, .junk, .junk, .junk, .junk, .junk, .junk, .junk, .junk, .junk, .junk, .junk, .junk, .junk, .junk, .junk, .junk, .junk, .junk, .junk, .junk, .junk, .junk, .junk, .junk, .junk, .junk, .junk, .junk, .junk, .junk, .junk, .junk, .junk, .junk, .junk, .junk, .junk, .junk, .junk, .junk, .junk, .junk, .junk, .junk, .junk, .junk, .junk, .junk, .junk, .junk, .junk, .junk, .junk, .junk], [], 0⟩ [.blk 0, .code r41_0] (Fin [(2, none), (3, none)] 0 (.tuple [.int .i64 r0.1, .int .i64 r0.2]) []) := by
      intro h6
      rw [h6] at hs
      rw [h6, if_pos rfl] at h5
      obtain ⟨a1, a2, a3⟩ := step_ok hck hs
      have ih := h41 cl tmp t ht hq r0 rest (done ++ [e]) (entryE c e).2 (i + 1) (by rw [h1]; simp) (by simp; omega) a1 (by simp [a2]) h5
      rw [a3] at ih
      exact ih
    clear h5 hs
    by_cases hi : 0 < i
    · obtain ⟨p, hp⟩ : ∃ p, done.getLast? = some p := by
        cases hd : done.getLast? with
        | none => rw [List.getLast?_eq_none_iff.1 hd] at h2; simp at h2; omega
        | some p => exact ⟨p, rfl⟩
      have hcl : c.last = p.path := hlast p (by rw [hp]; rfl)
      have hx2 : t[(i - 1).toNat]? = some p := by
        rw [show (i - 1).toNat = done.length - 1 by omega, h1, List.getElem?_append_left (by omega), ← List.getLast?_eq_getElem?, hp]
      have hpm : p ∈ t := by rw [h1]; exact List.mem_append_left _ (List.mem_of_getLast? hp)
      have k5 := s78 p.path e.path (hq p hpm).2.1 b2
      have hdl : 0 < done.length := by omega
      rw [hcl] at S K
      refine hd_of (by unfold l41_0; rfl) ?_
      have gg := trivial; repeat' first | simp (maxSteps := 2000000) (disch := omega) only [gg, hx, hx2, k1, k2, k3, k4, k5, lp_head, go_sem] | (refine br ?_ ?_ <;> intro gg <;> try (exfalso; omega)) | (refine And.intro ?_ ?_; focus omega) | omega
      all_goals clear k1 k2 k3 k4 k5
      all_goals (try simp only [Bool.not_eq_true', Bool.not_eq_false'] at *)
      all_goals first
        | (refine K ?_; simp [stepE, *]; done)
        | (rw [S 12] <;> first | omega | (simp [stepE, *]; done))
        | (rw [S 13] <;> first | omega | (simp [stepE, *]; done))
        | (rw [S 18] <;> first | omega | (simp [stepE, *]; done))
    · have hdl : ¬ 0 < done.length := by omega
      refine hd_of (by unfold l41_0; rfl) ?_
      have gg := trivial; repeat' first | simp (maxSteps := 2000000) (disch := omega) only [gg, hx, k1, k2, k3, k4, lp_head, go_sem] | (refine br ?_ ?_ <;> intro gg <;> try (exfalso; omega)) | (refine And.intro ?_ ?_; focus omega) | omega
      all_goals clear k1 k2 k3 k4
      all_goals (try simp only [Bool.not_eq_true', Bool.not_eq_false'] at *)
      all_goals first
        | (refine K ?_; simp [stepE, *]; done)
        | (rw [S 12] <;> first | omega | (simp [stepE, *]; done))
        | (rw [S 13] <;> first | omega | (simp [stepE, *]; done))
        | (rw [S 18] <;> first | omega | (simp [stepE, *]; done))
theorem s41 (cl tmp : Bool) (t : List Ent) (hq : ∀ e ∈ t, EntOk e) (hl : t.length ≤ 1000000000) : callT AA 41 [.view 8 (t.map Ent.av) cl tmp] [] = some (.tuple [.int .i64 (checkT t).1, .int .i64 (checkT t).2], []) := by
  refine enter fn41 np41 rfl ?_
  unfold checkT
  by_cases h : 200 < t.length
  · rw [if_pos h]
    have gg := trivial; repeat' first | simp (maxSteps := 2000000) (disch := omega) only [gg, b41, go_sem] | (refine br ?_ ?_ <;> intro gg <;> try (exfalso; omega)) | (refine And.intro ?_ ?_; focus omega) | omega
  · rw [if_neg h]
    have hh := h41 cl tmp t (by omega) hq (checkL ⟨[], [], 0⟩ 0 t) t [] ⟨[], [], 0⟩ 0 rfl rfl ck_first (by simp) rfl
    have gg := trivial; repeat' first | simp (maxSteps := 2000000) (disch := omega) only [gg, b41, lp_head, go_sem] | (refine br ?_ ?_ <;> intro gg <;> try (exfalso; omega)) | (refine And.intro ?_ ?_; focus omega) | omega
end Go.Abs
namespace Go.Abs
open Am
set_option maxRecDepth 10000
set_option linter.unusedSimpArgs false
theorem sl_le (a : BS) (i j : Nat) : (a.sl i j).l.length ≤ a.l.length - i := by
  rw [BS.sl_l, List.length_take, List.length_drop]
  omega
theorem hdrR_lt {b : BS} (h : (rdH b).2.2 = true) : (hdrR b).l.length + 512 ≤ b.l.length := by
  unfold rdH at h
  by_cases c1 : b.l.length < 512 ∨ decOk (b.sl 0 512).l = false
  · rw [if_pos c1] at h; cases h
  have c2 : ¬ b.l.length < 512 := fun hh => c1 (.inl hh)
  have c3 : ¬ decOk (b.sl 0 512).l = false := fun hh => c1 (.inr hh)
  unfold hdrR
  rw [if_neg c2, if_neg c3]
  have h1 := sl_le b 512 b.l.length
  split
  · have h2 := sl_le (b.sl 512 b.l.length) (wholeN (decH (b.sl 0 512).l).size).toNat (b.sl 512 b.l.length).l.length
    omega
  · omega
theorem decH_le (l : List UInt8) : (decH l).path.length ≤ 1000000 ∧ (decH l).link.length ≤ 1000000 := by
  have h1 := textF_le l 345 155
  have h2 := textF_le l 0 100
  have h3 := textF_le l 157 100
  unfold decH
  refine ⟨?_, by show (textF l 157 100).length ≤ _; omega⟩
  show (if textF l 345 155 = [] then textF l 0 100 else textF l 345 155 ++ [47] ++ textF l 0 100).length ≤ _
  split
  · omega
  · simp only [List.length_append, List.length_cons, List.length_nil]; omega
theorem rdH_le2 (b : BS) : (rdH b).1.path.length ≤ 1000000 ∧ (rdH b).1.link.length ≤ 1000000 := by
  unfold rdH
  split
  · exact ⟨by decide, by decide⟩
  · split <;> exact decH_le _
theorem tellE_le {e : Ent} {r : Rcd} (h1 : e.path.length ≤ 1000000) (h2 : e.link.length ≤ 1000000) (hr : RcdOk r) : (tellE e r).1.path.length ≤ 1000000 ∧ (tellE e r).1.link.length ≤ 1000000 := by
  have := hr.2
  unfold tellE
  repeat' split
  all_goals exact ⟨by first | exact h1 | exact hr.2, by first | exact h2 | exact hr.2⟩
theorem toldE_le : ∀ (rs : List Rcd) (e : Ent), e.path.length ≤ 1000000 → e.link.length ≤ 1000000 → (∀ r ∈ rs, RcdOk r) → (toldE e rs).1.path.length ≤ 1000000 ∧ (toldE e rs).1.link.length ≤ 1000000
  | [], e, h1, h2, _ => ⟨h1, h2⟩
  | r :: rs, e, h1, h2, h3 => by
    have ht := tellE_le h1 h2 (h3 r (by simp))
    unfold toldE
    split
    · exact toldE_le rs _ ht.1 ht.2 fun x hx => h3 x (by simp [hx])
    · exact ht
theorem entP_ok {b : BS} {e : Ent} {r : BS} (h : entP b = some (e, r)) : (e.path.length ≤ 1000000 ∧ e.link.length ≤ 1000000) ∧ (∃ l, e.data = .mk false false l ∧ l.length ≤ b.l.length) ∧ r.l.length + 512 ≤ b.l.length := by
  unfold entP at h
  by_cases c0 : (rdH b).2.2 = false
  · rw [if_pos c0] at h; cases h
  rw [if_neg c0] at h
  have c0 : (rdH b).2.2 = true := by simpa using c0
  have hr := hdrR_lt c0
  by_cases c1 : (rdH b).1.type = 120
  · rw [if_pos c1] at h
    cases c2 : paxD (rdH b).2.1.l with
    | none => rw [c2] at h; cases h
    | some rs =>
      rw [c2] at h
      simp only at h
      by_cases c3 : (rdH (hdrR b)).2.2 = false
      · rw [if_pos c3] at h; cases h
      rw [if_neg c3] at h
      have c3 : (rdH (hdrR b)).2.2 = true := by simpa using c3
      have hr2 := hdrR_lt c3
      have hp := rdH_le2 (hdrR b)
      have ht := toldE_le rs (mkE (rdH (hdrR b)).1) hp.1 hp.2 (paxD_ok c2).1
      by_cases c4 : (toldE (mkE (rdH (hdrR b)).1) rs).2 = true
      · rw [if_pos c4] at h
        cases h
        have := rdH_le (hdrR b)
        exact ⟨ht, ⟨_, rfl, by omega⟩, by omega⟩
      · rw [if_neg c4] at h; cases h
  · rw [if_neg c1] at h
    cases h
    have hp := rdH_le2 b
    exact ⟨hp, ⟨_, rfl, rdH_le b⟩, hr⟩
/-- the entries of blocks -/
def readP : Nat → BS → List Ent → Option (List Ent)
  | 0, _, acc => some acc
  | k + 1, b, acc => if b.l = [] then some acc else
    match entP b with
    | none => none
    | some (e, r) => if acc.length = 200 then none else readP k r (acc ++ [e])
/-- is this what was read? -/
def finR (l : List UInt8) : Option (List Ent) → Option (List Ent)
  | none => none
  | some t => if (checkT (t.map Ent.cp)).2 = 0 ∧ writeL t = l then some t else none
/-- an archive's tree -/
def readE (b : BS) : Option (List Ent) := if b.l.length < 1024 then none else finR b.l (readP b.l.length (b.sl 0 (b.l.length - 1024)) [])
def readV : Option (List Ent) → AVal
  | none => .tuple [.lit (.slice none 0 0), .iface 58 (.int .i64 16)]
  | some [] => .tuple [.lit (.slice none 0 0), .lit .nilIface]
  | some (e :: r) => .tuple [.own 0 8 0 (e :: r).length false, .lit .nilIface]
def readH : Option (List Ent) → Heap
  | none => []
  | some [] => []
  | some (e :: r) => [(0, .row ((e :: r).map Ent.av) 8)]
theorem readV_ne {t : List Ent} (h : t ≠ []) : readV (some t) = .tuple [.own 0 8 0 t.length false, .lit .nilIface] ∧ readH (some t) = [(0, .row (t.map Ent.av) 8)] := by
  cases t with
  | nil => exact (h rfl).elim
  | cons x y => exact ⟨rfl, rfl⟩
/-- entries as they are read -/
def RdE (e : Ent) : Prop := e.path.length ≤ 1000000 ∧ e.link.length ≤ 1000000 ∧ ∃ l, e.data = .mk false false l ∧ l.length ≤ 1000000
theorem rdE_ok {e : Ent} (h : RdE e) : EntOk e := by
  obtain ⟨h1, h2, l, h3, h4⟩ := h
  exact ⟨h2, h1, by rw [h3]; simp only [BS.l]; omega, by rw [h3]; rfl⟩
theorem w17no (c tmp : Bool) (t : List Ent) (hne : t ≠ []) (hl : t.length ≤ 1000000) (hq : ∀ e ∈ t, RdE e) (he : (checkT (t.map Ent.cp)).2 ≠ 0) :
    callT AA 17 [.view 8 (t.map Ent.av) c tmp] [] = some (.tuple [.lit (.slice none 0 0), .iface 58 (.int .i64 (checkT (t.map Ent.cp)).2)], []) := by
  cases t with
  | nil => exact (hne rfl).elim
  | cons e r =>
    have h := s17no c tmp e r hl (fun x hx => rdE_ok (hq x hx)) he (fun x hx => by
      obtain ⟨_, _, l, h3, h4⟩ := hq x hx
      rw [h3]
      simp only [BS.l]
      omega)
    unfold errV at h
    rw [if_neg he] at h
    exact h
theorem w17 (c tmp : Bool) (t : List Ent) (hne : t ≠ []) (hl : t.length ≤ 200) (hq : ∀ e ∈ t, RdE e) (he : (checkT (t.map Ent.cp)).2 = 0) :
    callT AA 17 [.view 8 (t.map Ent.av) c tmp] [] = some (.tuple [.own 0 1 0 (writeL t).length false, .lit .nilIface], [(0, .row ((writeL t).map .byte) 1)]) := by
  cases t with
  | nil => exact (hne rfl).elim
  | cons e r => exact s17 c tmp e r hl (fun x hx => rdE_ok (hq x hx)) he (checkT_pieces he)
set_option maxHeartbeats 4000000 in
theorem h24 (b0 : BS) (hb0 : b0.l.length ≤ 1000000) (R : Option (List Ent)) : ∀ (k : Nat) (b : BS) (acc : List Ent) (q : Nat), acc ≠ [] → q = acc.length → acc.length ≤ 200 → b.l.length ≤ k → b.l.length ≤ 1000000 → (∀ e ∈ acc, RdE e) → R = finR b0.l (readP k b acc) →
    HD AA 0 [0, 2, 3, 4, 5] l24_0 ⟨[b0.av, .junk, .lit (.slice none 0 0), .lit .nilIface, .ptr 0 0, .own 1 8 0 q false, .junk, .junk, .junk, .junk, .junk, .junk, .junk, .junk, .junk, .junk, .junk, .junk, .junk, .junk, .junk, .junk, .junk, .junk, .junk, .junk, .junk, .junk, .junk, .junk, .junk, .junk, .junk, .junk, .junk, .junk, .junk, .junk, .junk, .junk, .junk, .junk, .junk, .junk, .junk, .junk, .junk, .junk, .junk, .junk, .junk, .junk, .junk, .junk, .junk, .junk, .junk, .junk, .junk], [(0, .var [b.av]), (1, .row (acc.map Ent.av) 8)], 2⟩ [.blk 0, .code r24_0] (Fin [(2, none), (3, none)] 0 (readV R) (readH R))
  | k, b, acc, q, h0, h1, h2, h3, h4, h5, h6 => by
    have et : (acc.map Ent.av).take q = acc.map Ent.av := List.take_of_length_le (by simp; omega)
    by_cases hl : b.l = []
    · have hl0 : b.l.length = 0 := by rw [hl]; rfl
      have hr : readP k b acc = some acc := by
        cases k with
        | zero => rfl
        | succ k => unfold readP; rw [if_pos hl]
      rw [hr] at h6
      simp only [finR] at h6
      refine hd_of (by unfold l24_0; rfl) ?_
      by_cases hc : (checkT (acc.map Ent.cp)).2 = 0
      · have hw := w17 false true acc h0 h2 h5 hc
        have hwl : (writeL acc).length ≤ 1000000000 := by
          have := outL_le acc 0 (checkT_pieces hc)
          unfold writeL
          rw [List.length_append, zeros1024_length]
          omega
        generalize writeL acc = W at *
        have hs := fun c t => s62v W c t b0
        by_cases hd : W = b0.l
        · rw [if_pos ⟨hc, hd⟩] at h6
          rw [h6, (readV_ne h0).1, (readV_ne h0).2]
          have gg := trivial; repeat' first | simp (maxSteps := 2000000) (disch := omega) only [gg, r24_0, et, hw, hs, decide_eq_true hd, go_sem] | (refine br ?_ ?_ <;> intro gg <;> try (exfalso; omega)) | (refine And.intro ?_ ?_; focus omega) | omega
          simp [h1]
        · rw [if_neg (fun h => hd h.2)] at h6
          rw [h6]
          unfold readV readH
          have gg := trivial; repeat' first | simp (maxSteps := 2000000) (disch := omega) only [gg, r24_0, et, hw, hs, decide_eq_false hd, go_sem] | (refine br ?_ ?_ <;> intro gg <;> try (exfalso; omega)) | (refine And.intro ?_ ?_; focus omega) | omega
      · have hw := w17no false true acc h0 (by omega) h5 hc
        rw [if_neg (fun h => hc h.1)] at h6
        rw [h6]
        unfold readV readH
        have gg := trivial; repeat' first | simp (maxSteps := 2000000) (disch := omega) only [gg, r24_0, et, hw, go_sem] | (refine br ?_ ?_ <;> intro gg <;> try (exfalso; omega)) | (refine And.intro ?_ ?_; focus omega) | omega
    · have hl0 : 0 < b.l.length := by
        cases hz : b.l with
        | nil => exact (hl hz).elim
        | cons x y => simp
      match k, h3, h6 with
      | 0, h3, h6 => omega
      | k + 1, h3, h6 =>
        have hf := s61f b h4
        unfold EntR at hf
        unfold readP at h6
        rw [if_neg hl] at h6
        refine hd_of (by unfold l24_0; rfl) ?_
        cases hp : entP b with
        | none =>
          rw [hp] at hf h6
          simp only [finR] at h6
          rw [h6]
          unfold readV readH
          rcases hf with ⟨e, r, hf⟩ | ⟨e, r, l, hf⟩
          · simp only [entCs] at hf
            have gg := trivial; repeat' first | simp (maxSteps := 2000000) (disch := omega) only [gg, hf, lp_head, go_sem] | (refine br ?_ ?_ <;> intro gg <;> try (exfalso; omega)) | (refine And.intro ?_ ?_; focus omega) | omega
          · simp only [entCs] at hf
            have gg := trivial; repeat' first | simp (maxSteps := 2000000) (disch := omega) only [gg, hf, lp_head, go_sem] | (refine br ?_ ?_ <;> intro gg <;> try (exfalso; omega)) | (refine And.intro ?_ ?_; focus omega) | omega
        | some er =>
          obtain ⟨e, r⟩ := er
          rw [hp] at hf h6
          obtain ⟨⟨p1, p2⟩, ⟨l, p3, p4⟩, p5⟩ := entP_ok hp
          simp only [p3, BS.l, entCs] at hf
          simp only at h6
          by_cases hq : acc.length = 200
          · rw [if_pos hq] at h6
            simp only [finR] at h6
            rw [h6]
            unfold readV readH
            have gg := trivial; repeat' first | simp (maxSteps := 2000000) (disch := omega) only [gg, hf, lp_head, go_sem] | (refine br ?_ ?_ <;> intro gg <;> try (exfalso; omega)) | (refine And.intro ?_ ?_; focus omega) | omega
          · rw [if_neg hq] at h6
            have ih := h24 b0 hb0 R k r (acc ++ [e]) (q + 1) (by simp) (by simp [h1]) (by simp; omega) (by omega) (by omega) (by
              intro x hx
              rcases List.mem_append.1 hx with hx | hx
              · exact h5 x hx
              · rw [List.mem_singleton.1 hx]
                exact ⟨p1, p2, l, p3, by omega⟩) h6
            simp only [List.map_append, List.map_cons, List.map_nil, Ent.av, p3, mk_av] at ih et
            have gg := trivial; repeat' first | simp (maxSteps := 2000000) (disch := omega) only [gg, hf, et, lp_head, go_sem] | (refine br ?_ ?_ <;> intro gg <;> try (exfalso; omega)) | (refine And.intro ?_ ?_; focus omega) | omega
set_option maxHeartbeats 4000000 in
theorem s24 (b : BS) (hb : b.l.length ≤ 1000000) : callT AA 24 [b.av] [] = some (readV (readE b), readH (readE b)) := by
  refine enter fn24 np24 rfl ?_
  generalize hR : readE b = R
  unfold readE at hR
  by_cases c0 : b.l.length < 1024
  · rw [if_pos c0] at hR
    rw [← hR]
    unfold readV readH
    have gg := trivial; repeat' first | simp (maxSteps := 2000000) (disch := omega) only [gg, b24, go_sem] | (refine br ?_ ?_ <;> intro gg <;> try (exfalso; omega)) | (refine And.intro ?_ ?_; focus omega) | omega
  rw [if_neg c0] at hR
  have e0 : ((b.l.length : Int) - 1024).toNat = b.l.length - 1024 := by omega
  have gg := trivial; repeat' first | simp (maxSteps := 2000000) (disch := omega) only [gg, b24, e0, lp_head, go_sem] | (refine br ?_ ?_ <;> intro gg <;> try (exfalso; omega)) | (refine And.intro ?_ ?_; focus omega) | omega
  generalize hb1 : b.sl 0 (b.l.length - 1024) = b1 at *
  have hb2 : b1.l.length ≤ b.l.length := by
    have := sl_le b 0 (b.l.length - 1024)
    rw [hb1] at this
    omega
  obtain ⟨k, hk⟩ : ∃ k, b.l.length = k + 1 := ⟨b.l.length - 1, by omega⟩
  rw [hk] at hR
  unfold readP at hR
  refine hd_of (by unfold l24_0; rfl) ?_
  by_cases hl : b1.l = []
  · have hl0 : b1.l.length = 0 := by rw [hl]; rfl
    rw [if_pos hl] at hR
    simp only [finR] at hR
    have hcn : (checkT (([] : List Ent).map Ent.cp)).2 = 0 := rfl
    have hwn : writeL [] = zeros1024 := rfl
    have hs := fun c t => s62v zeros1024 c t b
    have hz := zeros1024_take
    have hzl := zeros1024_length
    rw [hwn] at hR
    by_cases hd : zeros1024 = b.l
    · rw [if_pos ⟨hcn, hd⟩] at hR
      rw [← hR]
      unfold readV readH
      have gg := trivial; repeat' first | simp (maxSteps := 2000000) (disch := omega) only [gg, r24_0, s17n, hs, decide_eq_true hd, hz, hzl, go_sem] | (refine br ?_ ?_ <;> intro gg <;> try (exfalso; omega)) | (refine And.intro ?_ ?_; focus omega) | omega
    · rw [if_neg (fun h => hd h.2)] at hR
      rw [← hR]
      unfold readV readH
      have gg := trivial; repeat' first | simp (maxSteps := 2000000) (disch := omega) only [gg, r24_0, s17n, hs, decide_eq_false hd, hz, hzl, go_sem] | (refine br ?_ ?_ <;> intro gg <;> try (exfalso; omega)) | (refine And.intro ?_ ?_; focus omega) | omega
  · have hl0 : 0 < b1.l.length := by
      cases hz : b1.l with
      | nil => exact (hl hz).elim
      | cons x y => simp
    rw [if_neg hl] at hR
    have hf := s61f b1 (by omega)
    unfold EntR at hf
    cases hp : entP b1 with
    | none =>
      rw [hp] at hf hR
      simp only [finR] at hR
      rw [← hR]
      unfold readV readH
      rcases hf with ⟨e, r, hf⟩ | ⟨e, r, l, hf⟩
      · simp only [entCs] at hf
        have gg := trivial; repeat' first | simp (maxSteps := 2000000) (disch := omega) only [gg, hf, lp_head, go_sem] | (refine br ?_ ?_ <;> intro gg <;> try (exfalso; omega)) | (refine And.intro ?_ ?_; focus omega) | omega
      · simp only [entCs] at hf
        have gg := trivial; repeat' first | simp (maxSteps := 2000000) (disch := omega) only [gg, hf, lp_head, go_sem] | (refine br ?_ ?_ <;> intro gg <;> try (exfalso; omega)) | (refine And.intro ?_ ?_; focus omega) | omega
    | some er =>
      obtain ⟨e, r⟩ := er
      rw [hp] at hf hR
      obtain ⟨⟨p1, p2⟩, ⟨l, p3, p4⟩, p5⟩ := entP_ok hp
      simp only [p3, BS.l, entCs] at hf
      simp only [List.length_nil, List.nil_append] at hR
      rw [if_neg (by omega)] at hR
      have ih := h24 b hb R k r [e] 1 (by simp) rfl (by simp) (by omega) (by omega) (by
        intro x hx
        rw [List.mem_singleton.1 hx]
        exact ⟨p1, p2, l, p3, by omega⟩) hR.symm
      simp only [List.map_cons, List.map_nil, Ent.av, p3, mk_av] at ih
      have gg := trivial; repeat' first | simp (maxSteps := 2000000) (disch := omega) only [gg, hf, lp_head, go_sem] | (refine br ?_ ?_ <;> intro gg <;> try (exfalso; omega)) | (refine And.intro ?_ ?_; focus omega) | omega
end Go.Abs
namespace Go.Abs
open Am
set_option maxRecDepth 10000
set_option linter.unusedSimpArgs false
theorem pad_whole (l : List UInt8) : ((padL l).length : Int) = wholeN l.length := by
  rw [padL_length]
  unfold padN wholeN
  omega
/-- a header and its bytes are read -/
theorem rd_block {b : BS} {h : Hd} {body rest : List UInt8} (hb : b.l = encB h ++ (padL body ++ rest)) (hok : encOk h = true) (hs : h.size = body.length) :
    (rdH b).1 = h ∧ (rdH b).2.1.l = body ∧ (rdH b).2.2 = true ∧ (hdrR b).l = rest := by
  have hl := encB_length h
  have hp := pad_whole body
  have hp2 := padL_length body
  have hbl : b.l.length = 512 + (padL body).length + rest.length := by rw [hb]; simp [hl]; omega
  have h0 : (b.sl 0 512).l = encB h := by
    rw [BS.sl_l, hb]
    simp only [List.drop_zero, Nat.sub_zero]
    exact List.take_left' hl
  have h1 : (b.sl 512 b.l.length).l = padL body ++ rest := by
    rw [BS.sl_l, List.take_of_length_le (by simp), hb]
    exact List.drop_left' hl
  have hd := decOk_encB hok
  have hdh := decH_encB hok
  have c1 : ¬ (b.l.length < 512 ∨ decOk (b.sl 0 512).l = false) := by
    rw [h0, hd]
    simp
    omega
  have c2 : wholeN h.size ≤ (b.sl 512 b.l.length).l.length := by
    rw [h1, List.length_append, hs]
    omega
  refine ⟨?_, ?_, ?_, ?_⟩
  · unfold rdH
    rw [if_neg c1, h0, hdh, if_pos c2]
  · unfold rdH
    rw [if_neg c1, h0, hdh, if_pos c2]
    simp only []
    rw [BS.sl_l, h1, hs]
    simp only [List.drop_zero, Nat.sub_zero, Int.toNat_natCast]
    unfold padL
    rw [List.append_assoc]
    exact List.take_left' rfl
  · unfold rdH
    rw [if_neg c1, h0, hdh, if_pos c2]
  · unfold hdrR
    rw [if_neg (by omega), h0, hd, if_neg (by simp), hdh, if_pos c2, BS.sl_l, h1, hs, List.take_of_length_le (by simp)]
    refine List.drop_left' ?_
    omega
/-- an entry as it is read -/
def rdEnt (e : Ent) : Ent := { e with data := .mk false false e.data.l }
theorem kind_type {k : Int} (h : k = 1 ∨ k = 2 ∨ k = 3 ∨ k = 4) : kindB (typeB k) = k ∧ typeB k ≠ 120 := by
  rcases h with rfl | rfl | rfl | rfl <;> decide
theorem told_back {e : Ent} (hf : FieldsOk e) (d : BS) : toldE ⟨if (splitN e.path).2.2 then e.path else paxB, e.kind, e.mode, if idB e.uid then e.uid else 0, if idB e.gid then e.gid else 0, if timeB e.time then e.time else 0, if linkE e.link then e.link else paxB, d⟩ (recsE e) = (⟨e.path, e.kind, e.mode, e.uid, e.gid, e.time, e.link, d⟩, true) := by
  have g := atoiV_itoa (n := e.gid) (by have := hf.gid; omega) (by have := hf.gid; omega)
  have u := atoiV_itoa (n := e.uid) (by have := hf.uid; omega) (by have := hf.uid; omega)
  have t := atoiV_itoa (n := e.time) (by have := hf.time; omega) (by have := hf.time; omega)
  unfold recsE rst3 rst4 rst5 rst6 rst7
  cases idB e.gid <;> cases linkE e.link <;> cases timeB e.time <;> cases (splitN e.path).2.2 <;> cases idB e.uid <;> simp [recIf, toldE, tellE, gidB, linkpathB, mtimeB, pathB, uidB, g, u, t]
/-- a piece is read -/
theorem entP_piece {b : BS} {n : Nat} {e : Ent} {rest : List UInt8} (hb : b.l = pieceL n e ++ rest) (hok : pieceOk n e) (hf : FieldsOk e) : ∃ r : BS, entP b = some (rdEnt e, r) ∧ r.l = rest := by
  have hk : e.kind = 1 ∨ e.kind = 2 ∨ e.kind = 3 ∨ e.kind = 4 := by
    rcases hf.kinds with h | h | h | h
    · exact .inl h.1
    · exact .inr (.inl h.1)
    · exact .inr (.inr (.inl h.1))
    · exact .inr (.inr (.inr h.1))
  obtain ⟨k1, k2⟩ := kind_type hk
  have hsz : (hdrE e (recsE e)).size = e.data.l.length := by rw [hdrE_eq]
  have hty : (hdrE e (recsE e)).type = typeB e.kind := by rw [hdrE_eq]
  have hmk : mkE (hdrE e (recsE e)) = ⟨if (splitN e.path).2.2 then e.path else paxB, e.kind, e.mode, if idB e.uid then e.uid else 0, if idB e.gid then e.gid else 0, if timeB e.time then e.time else 0, if linkE e.link then e.link else paxB, .nil⟩ := by
    unfold mkE
    rw [hdrE_eq]
    simp only [k1]
  have htold := told_back hf .nil
  obtain ⟨ok1, ok2⟩ := hok
  by_cases hr : recsE e = []
  · have hp : pieceL n e = encB (hdrE e (recsE e)) ++ padL e.data.l := by
      unfold pieceL preE
      rw [if_pos hr, List.nil_append]
    rw [hp, List.append_assoc] at hb
    obtain ⟨r1, r2, r3, r4⟩ := rd_block hb ok1 hsz
    refine ⟨hdrR b, ?_, r4⟩
    unfold entP
    rw [if_neg (by rw [r3]; simp), r1, hty, if_neg k2, r2, hmk]
    rw [hr] at htold
    simp only [toldE, Prod.mk.injEq, and_true] at htold
    rw [htold]
    rfl
  · obtain ⟨o1, o2⟩ := ok2 hr
    obtain ⟨body, hbo⟩ := Option.isSome_iff_exists.1 o1
    have hbe : bodyE e = body := by unfold bodyE; rw [hbo]; rfl
    have hp : pieceL n e = encB (hdX n body) ++ (padL body ++ (encB (hdrE e (recsE e)) ++ padL e.data.l)) := by
      unfold pieceL preE
      rw [if_neg hr, hbe]
      simp
    rw [hbe] at o2
    have hb1 : b.l = encB (hdX n body) ++ (padL body ++ (encB (hdrE e (recsE e)) ++ (padL e.data.l ++ rest))) := by
      rw [hb, hp]
      simp
    obtain ⟨r1, r2, r3, r4⟩ := rd_block hb1 o2 rfl
    obtain ⟨q1, q2, q3, q4⟩ := rd_block r4 ok1 hsz
    refine ⟨hdrR (hdrR b), ?_, q4⟩
    unfold entP
    rw [if_neg (by rw [r3]; simp), r1, if_pos (show (hdX n body).type = 120 from rfl), r2, paxD_paxE hbo]
    simp only []
    rw [if_neg (by rw [q3]; simp), q1, hmk, htold, q2]
    rfl
theorem readP_out : ∀ (t : List Ent) (i k : Nat) (b : BS) (acc : List Ent), b.l = outL i t → PiecesOk i t → (∀ e ∈ t, FieldsOk e) → b.l.length ≤ k → acc.length + t.length ≤ 200 → readP k b acc = some (acc ++ t.map rdEnt)
  | [], i, k, b, acc, hb, _, _, _, _ => by
    simp only [outL] at hb
    cases k with
    | zero => simp [readP]
    | succ k => simp [readP, hb]
  | e :: t, i, k, b, acc, hb, hp, hf, hk, hl => by
    obtain ⟨h1, h2, h3, h4⟩ := hp
    simp only [outL] at hb
    have hpl := pieceL_le h2 h3
    have hbl : b.l.length = (pieceL i e).length + (outL (i + 1) t).length := by rw [hb, List.length_append]
    obtain ⟨r, hr1, hr2⟩ := entP_piece hb h3 (hf e (by simp))
    obtain ⟨k, rfl⟩ : ∃ j, k = j + 1 := ⟨k - 1, by omega⟩
    have hne : b.l ≠ [] := by
      intro hh
      rw [hh] at hbl
      simp at hbl
      omega
    simp only [List.length_cons] at hl
    unfold readP
    rw [if_neg hne, hr1]
    simp only []
    rw [if_neg (by omega), readP_out t (i + 1) k r _ hr2 h4 (fun x hx => hf x (by simp [hx])) (by rw [hr2]; omega) (by simp; omega)]
    simp
theorem entryE_rd (c : Ck) {e f : Ent} (h1 : f.path = e.path) (h2 : f.kind = e.kind) (h3 : f.mode = e.mode) (h4 : f.uid = e.uid) (h5 : f.gid = e.gid) (h6 : f.time = e.time) (h7 : f.link = e.link) (h8 : f.data.l = e.data.l) : entryE c f = entryE c e := by
  have hf : fieldsB f = fieldsB e := by
    unfold fieldsB
    rw [h2, h3, h4, h5, h6, h7, h8]
  unfold entryE
  rw [hf, h1, h2, h7, h8]
/-- the same, their slices aside -/
def SameE (e f : Ent) : Prop := f.path = e.path ∧ f.kind = e.kind ∧ f.mode = e.mode ∧ f.uid = e.uid ∧ f.gid = e.gid ∧ f.time = e.time ∧ f.link = e.link ∧ f.data.l = e.data.l
theorem entryE_same {c : Ck} {e f : Ent} (h : SameE e f) : entryE c f = entryE c e := entryE_rd c h.1 h.2.1 h.2.2.1 h.2.2.2.1 h.2.2.2.2.1 h.2.2.2.2.2.1 h.2.2.2.2.2.2.1 h.2.2.2.2.2.2.2
theorem checkL_map (g : Ent → Ent) (hg : ∀ e, SameE e (g e)) : ∀ (t : List Ent) (c : Ck) (i : Int), checkL c i (t.map g) = checkL c i t
  | [], c, i => rfl
  | e :: t, c, i => by
    simp only [List.map_cons, checkL]
    rw [entryE_same (hg e), checkL_map g hg t]
theorem checkT_map (g : Ent → Ent) (hg : ∀ e, SameE e (g e)) (t : List Ent) : checkT (t.map g) = checkT t := by
  unfold checkT
  rw [List.length_map, checkL_map g hg]
theorem same_cp (e : Ent) : SameE e e.cp := ⟨rfl, rfl, rfl, rfl, rfl, rfl, rfl, cp_l⟩
theorem same_rd (e : Ent) : SameE e (rdEnt e) := ⟨rfl, rfl, rfl, rfl, rfl, rfl, rfl, rfl⟩
theorem outL_rd : ∀ (t : List Ent) (i : Nat), outL i (t.map rdEnt) = outL i t
  | [], _ => rfl
  | e :: t, i => by
    simp only [List.map_cons, outL]
    rw [outL_rd t]
    rfl
theorem writeL_rd (t : List Ent) : writeL (t.map rdEnt) = writeL t := by
  unfold writeL
  rw [outL_rd]
/-- THERE AND BACK: a tree's archive is read as that tree -/
theorem readE_writeL (c tmp : Bool) {t : List Ent} (h : (checkT t).2 = 0) : readE (.mk c tmp (writeL t)) = some (t.map rdEnt) := by
  obtain ⟨hl, hg⟩ := checkT_good h
  have hp : PiecesOk 0 t := piecesOk_of t 0 (by omega) hg
  have hf : ∀ e ∈ t, FieldsOk e := fun e he => fields_ok (hg e he).2
  have hwl : (writeL t).length = (outL 0 t).length + 1024 := by
    unfold writeL
    rw [List.length_append, zeros1024_length]
  unfold readE
  rw [if_neg (show ¬ (BS.mk c tmp (writeL t)).l.length < 1024 by rw [mk_l]; omega)]
  show finR (writeL t) (readP (writeL t).length ((BS.mk c tmp (writeL t)).sl 0 ((writeL t).length - 1024)) []) = _
  have hb : ((BS.mk c tmp (writeL t)).sl 0 ((writeL t).length - 1024)).l = outL 0 t := by
    rw [BS.sl_l]
    simp only [BS.l, List.drop_zero, Nat.sub_zero]
    unfold writeL
    rw [List.length_append, zeros1024_length]
    exact List.take_left' (by omega)
  rw [readP_out t 0 (writeL t).length _ [] hb hp hf (by rw [hb]; omega) (by simpa using hl)]
  simp only [List.nil_append, finR]
  rw [checkT_map Ent.cp same_cp, checkT_map rdEnt same_rd, writeL_rd, if_pos ⟨h, rfl⟩]
end Go.Abs
namespace Go.Abs
open Am Lib
set_option maxRecDepth 20000
set_option linter.unusedSimpArgs false
theorem mod_pad (l : List UInt8) : (padL l).length % 512 = 0 := by
  rw [padL_length]
  unfold padN
  omega
theorem mod_piece (n : Int) (e : Ent) : (pieceL n e).length % 512 = 0 := by
  have h2 := mod_pad e.data.l
  have h3 := encB_length (hdrE e (recsE e))
  have h4 : (preE n e).length % 512 = 0 := by
    unfold preE
    split
    · rfl
    · have := mod_pad (bodyE e)
      have := encB_length (hdX n (bodyE e))
      rw [List.length_append]
      omega
  unfold pieceL
  simp only [List.length_append]
  omega
theorem h18 (c tmp : Bool) (t : List Ent) (ht : t.length ≤ 128) (hk : ∀ e ∈ t, e.kind = 1 ∨ e.kind = 2 ∨ e.kind = 3 ∨ e.kind = 4) (W : List UInt8) : ∀ (rest done : List Ent) (out : List UInt8) (i : Int) (q : Nat), t = done ++ rest → i = done.length → q = out.length → out.length ≤ 1100000 * done.length → out.length % 512 = 0 → PiecesOk done.length rest → W = out ++ (outL done.length rest ++ zeros1024) →
    HD AA 0 [0, 2, 3, 6, 7] l18_0 ⟨[.view 8 (t.map Ent.av) c tmp, .junk, .lit (.slice none 0 0), .int .i64 0, .junk, .junk, .own 0 1 0 q false, .int .i64 i, .junk, .junk, .junk, .junk, .junk, .junk, .junk, .junk, .junk, .junk, .junk, .junk, .junk, .junk, .junk, .junk, .junk, .junk, .junk, .junk, .junk, .junk, .junk, .junk], [(0, .row (out.map .byte) 1)], 1⟩ [.blk 0, .code r18_0] (Fin [(2, none), (3, none)] 0 (.tuple [.own 0 1 0 W.length false, .int .i64 0]) [(0, .row (W.map .byte) 1)])
  | [], done, out, i, q, h1, h2, h3, h4, h5, h6, h7 => by
    have hl : t.length = done.length := by rw [h1]; simp
    have e : (out.map AVal.byte).take q = out.map .byte := List.take_of_length_le (by simp; omega)
    have hz := zeros1024_length
    have hW : W = out ++ zeros1024 := h7
    have hWl : W.length = q + 1024 := by rw [hW, List.length_append, hz, h3]
    have hWm : out.map AVal.byte ++ zeros1024.map AVal.byte = W.map .byte := by rw [hW, List.map_append]
    rw [hWl]
    clear hW h7
    refine hd_of (by unfold l18_0; rfl) ?_
    have gg := trivial; repeat' first | simp (maxSteps := 2000000) (disch := omega) only [gg, r18_0, e, zeros1024_eq, hz, hWm, go_sem] | (refine br ?_ ?_ <;> intro gg <;> try (exfalso; omega)) | (refine And.intro ?_ ?_; focus omega) | omega
  | e :: rest, done, out, i, q, h1, h2, h3, h4, h5, h6, h7 => by
    have hl : t.length = done.length + (rest.length + 1) := by rw [h1]; simp
    have hx : t[i.toNat]? = some e := by
      rw [h1, show i.toNat = done.length by omega]
      simp
    obtain ⟨p1, p2, p3, p4⟩ := h6
    rw [← h2] at p3
    have hpl := pieceL_le p2 p3
    have hpm := mod_piece i e
    have h53 := s53 out q h3 (by omega) h5 i (by omega) (by omega) e p1 (hk e (by rw [h1]; simp)) p2 p3
    have hR : (out ++ pieceL i e).length = q + (pieceL i e).length := by rw [List.length_append, h3]
    have ih := h18 c tmp t ht hk W rest (done ++ [e]) (out ++ pieceL i e) (i + 1) (out ++ pieceL i e).length (by rw [h1]; simp) (by rw [List.length_append]; simp; omega) rfl (by rw [hR, List.length_append]; simp; omega) (by rw [hR]; omega) (by rw [List.length_append]; exact p4) (by
      rw [h7, List.length_append]
      simp only [outL, List.length_cons, List.length_nil, List.append_assoc]
      rw [← h2])
    simp only [Ent.av] at h53
    generalize out ++ pieceL i e = R at *
    refine hd_of (by unfold l18_0; rfl) ?_
    have gg := trivial; repeat' first | simp (maxSteps := 2000000) (disch := omega) only [gg, hx, h53, lp_head, go_sem] | (refine br ?_ ?_ <;> intro gg <;> try (exfalso; omega)) | (refine And.intro ?_ ?_; focus omega) | omega
theorem kinds_of {t : List Ent} (h : (checkT t).2 = 0) : ∀ e ∈ t, FieldsOk e ∧ e.path.length ≤ 400 := by
  intro e he
  obtain ⟨_, h2⟩ := checkT_good h
  obtain ⟨g1, g2⟩ := h2 e he
  exact ⟨fields_ok g2, good_le g1⟩
theorem kind_of {e : Ent} (h : FieldsOk e) : e.kind = 1 ∨ e.kind = 2 ∨ e.kind = 3 ∨ e.kind = 4 := by
  rcases h.kinds with k | k | k | k
  · exact .inl k.1
  · exact .inr (.inl k.1)
  · exact .inr (.inr (.inl k.1))
  · exact .inr (.inr (.inr k.1))
theorem s18 (c tmp : Bool) (t : List Ent) (ht : t.length ≤ 128) (hq : ∀ e ∈ t, EntOk e) (he : (checkT t).2 = 0) : callT AA 18 [.view 8 (t.map Ent.av) c tmp] [] = some (.tuple [.own 0 1 0 (writeL t).length false, .int .i64 0], [(0, .row ((writeL t).map .byte) 1)]) := by
  have h41 := s41 c tmp t hq (by omega)
  have hp : PiecesOk 0 t := checkT_pieces (by rw [checkT_map Ent.cp same_cp]; exact he)
  have hh := h18 c tmp t ht (fun e h => kind_of (kinds_of he e h).1) (writeL t) t [] [] 0 0 rfl rfl rfl (by simp) rfl hp rfl
  simp only [List.map_nil] at hh
  rw [he] at h41
  generalize writeL t = W at *
  refine enter fn18 np18 rfl ?_
  have gg := trivial; repeat' first | simp (maxSteps := 2000000) (disch := omega) only [gg, b18, h41, lp_head, go_sem] | (refine br ?_ ?_ <;> intro gg <;> try (exfalso; omega)) | (refine And.intro ?_ ?_; focus omega) | omega
theorem s18no (c tmp : Bool) (t : List Ent) (ht : t.length ≤ 128) (hq : ∀ e ∈ t, EntOk e) (he : (checkT t).2 ≠ 0) : callT AA 18 [.view 8 (t.map Ent.av) c tmp] [] = some (.tuple [.lit (.slice none 0 0), .int .i64 (checkT t).2], []) := by
  have h41 := s41 c tmp t hq (by omega)
  generalize (checkT t).2 = E at *
  refine enter fn18 np18 rfl ?_
  have gg := trivial; repeat' first | simp (maxSteps := 2000000) (disch := omega) only [gg, b18, h41, go_sem] | (refine br ?_ ?_ <;> intro gg <;> try (exfalso; omega)) | (refine And.intro ?_ ?_; focus omega) | omega
theorem s41n : callT AA 41 [.lit (.slice none 0 0)] [] = some (.tuple [.int .i64 (-1), .int .i64 0], []) := by
  refine enter fn41 np41 rfl ?_
  have gg := trivial; repeat' first | simp (maxSteps := 2000000) (disch := omega) only [gg, b41, lp_head, go_sem] | (refine br ?_ ?_ <;> intro gg <;> try (exfalso; omega)) | (refine And.intro ?_ ?_; focus omega) | omega
  refine hd_of (by unfold l41_0; rfl) ?_
  have gg := trivial; repeat' first | simp (maxSteps := 2000000) (disch := omega) only [gg, r41_0, go_sem] | (refine br ?_ ?_ <;> intro gg <;> try (exfalso; omega)) | (refine And.intro ?_ ?_; focus omega) | omega
theorem s18n : callT AA 18 [.lit (.slice none 0 0)] [] = some (.tuple [.own 0 1 0 1024 false, .int .i64 0], [(0, .row (zeros1024.map .byte) 1)]) := by
  have h41 := s41n
  have hz := zeros1024_length
  refine enter fn18 np18 rfl ?_
  have gg := trivial; repeat' first | simp (maxSteps := 2000000) (disch := omega) only [gg, b18, h41, lp_head, go_sem] | (refine br ?_ ?_ <;> intro gg <;> try (exfalso; omega)) | (refine And.intro ?_ ?_; focus omega) | omega
  refine hd_of (by unfold l18_0; rfl) ?_
  have gg := trivial; repeat' first | simp (maxSteps := 2000000) (disch := omega) only [gg, r18_0, zeros1024_eq, hz, go_sem] | (refine br ?_ ?_ <;> intro gg <;> try (exfalso; omega)) | (refine And.intro ?_ ?_; focus omega) | omega
theorem s54 (x y : Ent) (h : SameE x y) : callT AA 54 [x.av, y.av] [] = some (.bool true, []) := by
  obtain ⟨a, b, c, d, e, f, g, i⟩ := h
  obtain ⟨p, k, m, u, gi, ti, li, da⟩ := x
  obtain ⟨p', k', m', u', gi', ti', li', da'⟩ := y
  simp only at a b c d e f g i
  subst a b c d e f g
  refine enter fn54 np54 rfl ?_
  have gg := trivial; repeat' first | simp (maxSteps := 2000000) (disch := omega) only [gg, b54, i, go_sem] | (refine br ?_ ?_ <;> intro gg <;> try (exfalso; omega)) | (refine And.intro ?_ ?_; focus omega) | omega
theorem h20 (c tmp c2 tmp2 : Bool) (t u : List Ent) (ht : t.length ≤ 1000000) (hl : u.length = t.length) (hu : ∀ (i : Nat) (x y : Ent), t[i]? = some x → u[i]? = some y → SameE x y) : ∀ (k : Nat) (i : Int), 0 ≤ i → i + k = t.length →
    HD AA 0 [0, 1, 4, 5] l20_0 ⟨[.view 8 (t.map Ent.av) c tmp, .view 8 (u.map Ent.av) c2 tmp2, .junk, .junk, .bool false, .int .i64 i, .junk, .junk, .junk, .junk, .junk, .junk, .junk, .junk, .junk, .junk, .junk, .junk, .junk, .junk, .junk, .junk, .junk, .junk, .junk, .junk, .junk], [], 0⟩ [.blk 0, .code r20_0] (Fin [(4, none)] 0 (.bool true) [])
  | 0, i, h0, h1 => by
    refine hd_of (by unfold l20_0; rfl) ?_
    have gg := trivial; repeat' first | simp (maxSteps := 2000000) (disch := omega) only [gg, r20_0, go_sem] | (refine br ?_ ?_ <;> intro gg <;> try (exfalso; omega)) | (refine And.intro ?_ ?_; focus omega) | omega
  | k + 1, i, h0, h1 => by
    have ih := h20 c tmp c2 tmp2 t u ht hl hu k (i + 1) (by omega) (by omega)
    have hx : t[i.toNat]? = some (t[i.toNat]'(by omega)) := List.getElem?_eq_getElem _
    have hy : u[i.toNat]? = some (u[i.toNat]'(by omega)) := List.getElem?_eq_getElem _
    have h54 := s54 _ _ (hu _ _ _ hx hy)
    generalize t[i.toNat]'(by omega) = x at *
    generalize u[i.toNat]'(by omega) = y at *
    simp only [Ent.av] at h54
    refine hd_of (by unfold l20_0; rfl) ?_
    have gg := trivial; repeat' first | simp (maxSteps := 2000000) (disch := omega) only [gg, hx, hy, h54, hl, lp_head, go_sem] | (refine br ?_ ?_ <;> intro gg <;> try (exfalso; omega)) | (refine And.intro ?_ ?_; focus omega) | omega
theorem s20 (c tmp c2 tmp2 : Bool) (t u : List Ent) (ht : t.length ≤ 1000000) (hl : u.length = t.length) (hu : ∀ (i : Nat) (x y : Ent), t[i]? = some x → u[i]? = some y → SameE x y) : callT AA 20 [.view 8 (t.map Ent.av) c tmp, .view 8 (u.map Ent.av) c2 tmp2] [] = some (.bool true, []) := by
  have hh := h20 c tmp c2 tmp2 t u ht hl hu t.length 0 (by omega) (by omega)
  refine enter fn20 np20 rfl ?_
  have gg := trivial; repeat' first | simp (maxSteps := 2000000) (disch := omega) only [gg, b20, hl, lp_head, go_sem] | (refine br ?_ ?_ <;> intro gg <;> try (exfalso; omega)) | (refine And.intro ?_ ?_; focus omega) | omega
theorem s20n : callT AA 20 [.lit (.slice none 0 0), .lit (.slice none 0 0)] [] = some (.bool true, []) := by
  refine enter fn20 np20 rfl ?_
  have gg := trivial; repeat' first | simp (maxSteps := 2000000) (disch := omega) only [gg, b20, lp_head, go_sem] | (refine br ?_ ?_ <;> intro gg <;> try (exfalso; omega)) | (refine And.intro ?_ ?_; focus omega) | omega
  refine hd_of (by unfold l20_0; rfl) ?_
  have gg := trivial; repeat' first | simp (maxSteps := 2000000) (disch := omega) only [gg, r20_0, go_sem] | (refine br ?_ ?_ <;> intro gg <;> try (exfalso; omega)) | (refine And.intro ?_ ?_; focus omega) | omega
theorem s20e (c tmp : Bool) : callT AA 20 [.view 8 [] c tmp, .lit (.slice none 0 0)] [] = some (.bool true, []) := by
  refine enter fn20 np20 rfl ?_
  have gg := trivial; repeat' first | simp (maxSteps := 2000000) (disch := omega) only [gg, b20, lp_head, go_sem] | (refine br ?_ ?_ <;> intro gg <;> try (exfalso; omega)) | (refine And.intro ?_ ?_; focus omega) | omega
  refine hd_of (by unfold l20_0; rfl) ?_
  have gg := trivial; repeat' first | simp (maxSteps := 2000000) (disch := omega) only [gg, r20_0, go_sem] | (refine br ?_ ?_ <;> intro gg <;> try (exfalso; omega)) | (refine And.intro ?_ ?_; focus omega) | omega
def Ent.rav (e : Ent) : AVal := .agg [.str e.path, .int .i64 e.kind, .int .i64 e.mode, .int .i64 e.uid, .int .i64 e.gid, .int .i64 e.time, .str e.link, .view 1 (e.data.l.map .byte) false false]
theorem rav_eq (t : List Ent) : t.map Ent.rav = (t.map rdEnt).map Ent.av := by
  rw [List.map_map]
  rfl
theorem h16 (c tmp : Bool) (t : List Ent) (ht : t.length ≤ 1000000) (hd : ∀ e ∈ t, e.data.l.length ≤ 140737488351232) : ∀ (rest done : List Ent) (i : Int) (q : Nat), t = done ++ rest → i = done.length → q = done.length →
    HD AA 0 [0, 2, 3, 4] l16_0 ⟨[.view 8 (t.map Ent.av) c tmp, .junk, .lit (.slice none 0 0), .own 0 8 0 q false, .int .i64 i, .junk, .junk, .junk, .junk, .junk, .junk, .junk, .junk, .junk, .junk, .junk, .junk, .junk, .junk, .junk, .junk, .junk, .junk, .junk, .junk, .junk], [(0, .row (done.map Ent.rav) 8)], 1⟩ [.blk 0, .code r16_0] (Fin [(2, none)] 0 (.own 0 8 0 t.length false) [(0, .row (t.map Ent.rav) 8)])
  | [], done, i, q, h1, h2, h3 => by
    have hl : t.length = q := by rw [h1, h3]; simp
    have hl2 : t = done := by rw [h1]; simp
    rw [hl]
    subst hl2
    refine hd_of (by unfold l16_0; rfl) ?_
    have gg := trivial; repeat' first | simp (maxSteps := 2000000) (disch := omega) only [gg, r16_0, go_sem] | (refine br ?_ ?_ <;> intro gg <;> try (exfalso; omega)) | (refine And.intro ?_ ?_; focus omega) | omega
  | e :: rest, done, i, q, h1, h2, h3 => by
    have hl : t.length = done.length + (rest.length + 1) := by rw [h1]; simp
    have hx : t[i.toNat]? = some e := by
      rw [h1, show i.toNat = done.length by omega]
      simp
    have hde := hd e (by rw [h1]; simp)
    have ih := h16 c tmp t ht hd rest (done ++ [e]) (i + 1) (q + 1) (by rw [h1]; simp) (by simp; omega) (by simp; omega)
    simp only [List.map_append, List.map_cons, List.map_nil, Ent.rav] at ih
    have hr : (done.map Ent.rav).take q = done.map Ent.rav := List.take_of_length_le (by simp; omega)
    refine hd_of (by unfold l16_0; rfl) ?_
    have gg := trivial; repeat' first | simp (maxSteps := 2000000) (disch := omega) only [gg, hx, hr, List.take_zero, List.drop_zero, take_map_len, lp_head, go_sem] | (refine br ?_ ?_ <;> intro gg <;> try (exfalso; omega)) | (refine And.intro ?_ ?_; focus omega) | omega
theorem s16 (c tmp : Bool) (e : Ent) (r : List Ent) (ht : (e :: r).length ≤ 1000000) (hd : ∀ x ∈ e :: r, x.data.l.length ≤ 140737488351232) : callT AA 16 [.view 8 ((e :: r).map Ent.av) c tmp] [] = some (.own 0 8 0 (e :: r).length false, [(0, .row ((e :: r).map Ent.rav) 8)]) := by
  have hh := h16 c tmp (e :: r) ht hd r [e] 1 1 rfl rfl rfl
  have hde := hd e (by simp)
  have hx : (e :: r)[0]? = some e := rfl
  have hl : 0 < (e :: r).length := by simp
  generalize e :: r = t at *
  simp only [List.map_cons, List.map_nil, Ent.rav] at hh
  refine enter fn16 np16 rfl ?_
  have gg := trivial; repeat' first | simp (maxSteps := 2000000) (disch := omega) only [gg, b16, lp_head, go_sem] | (refine br ?_ ?_ <;> intro gg <;> try (exfalso; omega)) | (refine And.intro ?_ ?_; focus omega) | omega
  refine hd_of (by unfold l16_0; rfl) ?_
  have gg := trivial; repeat' first | simp (maxSteps := 2000000) (disch := omega) only [gg, hx, List.take_zero, List.drop_zero, take_map_len, lp_head, go_sem] | (refine br ?_ ?_ <;> intro gg <;> try (exfalso; omega)) | (refine And.intro ?_ ?_; focus omega) | omega
theorem s16n : callT AA 16 [.lit (.slice none 0 0)] [] = some (.lit (.slice none 0 0), []) := by
  refine enter fn16 np16 rfl ?_
  have gg := trivial; repeat' first | simp (maxSteps := 2000000) (disch := omega) only [gg, b16, lp_head, go_sem] | (refine br ?_ ?_ <;> intro gg <;> try (exfalso; omega)) | (refine And.intro ?_ ?_; focus omega) | omega
  refine hd_of (by unfold l16_0; rfl) ?_
  have gg := trivial; repeat' first | simp (maxSteps := 2000000) (disch := omega) only [gg, r16_0, go_sem] | (refine br ?_ ?_ <;> intro gg <;> try (exfalso; omega)) | (refine And.intro ?_ ?_; focus omega) | omega
theorem s16e (c tmp : Bool) : callT AA 16 [.view 8 [] c tmp] [] = some (.lit (.slice none 0 0), []) := by
  refine enter fn16 np16 rfl ?_
  have gg := trivial; repeat' first | simp (maxSteps := 2000000) (disch := omega) only [gg, b16, lp_head, go_sem] | (refine br ?_ ?_ <;> intro gg <;> try (exfalso; omega)) | (refine And.intro ?_ ?_; focus omega) | omega
  refine hd_of (by unfold l16_0; rfl) ?_
  have gg := trivial; repeat' first | simp (maxSteps := 2000000) (disch := omega) only [gg, r16_0, go_sem] | (refine br ?_ ?_ <;> intro gg <;> try (exfalso; omega)) | (refine And.intro ?_ ?_; focus omega) | omega
end Go.Abs
namespace Go.Proofs
open Go.Shelf
def Tryz.laysValid_ren : Go.Shelf.Ren := ⟨fun | 196 => 191 | 259 => 226 | n => n, fun | 9 => 9 | 4 => 4 | 3 => 3 | 5 => 5 | 12 => 12 | 119 => 252 | 0 => 0 | 46 => 78 | 139 => 255 | 138 => 254 | 53 => 80 | n => n, fun | 3 => 2 | 4 => 3 | n => n⟩
theorem Tryz.laysValid : Go.Proofs.Lays.n196 Tryz.prog Tryz.laysValid_ren := {
  mixed := by kernel_rfl
  f196 := Tryz.func191.trans (congrArg some (by kernel_rfl))
  f259 := Tryz.func226.trans (congrArg some (by kernel_rfl))
  t0 := Tryz.underlying0
  a0 := Tryz.isAgg0
  z0 := Tryz.sizeOf0
  v0 := Tryz.zeroValue0
  t3 := Tryz.underlying3
  a3 := Tryz.isAgg3
  z3 := Tryz.sizeOf3
  v3 := Tryz.zeroValue3
  t4 := Tryz.underlying4
  a4 := Tryz.isAgg4
  z4 := Tryz.sizeOf4
  v4 := Tryz.zeroValue4
  t5 := Tryz.underlying5
  a5 := Tryz.isAgg5
  z5 := Tryz.sizeOf5
  v5 := Tryz.zeroValue5
  t9 := Tryz.underlying9
  a9 := Tryz.isAgg9
  z9 := Tryz.sizeOf9
  v9 := Tryz.zeroValue9
  t12 := Tryz.underlying12
  a12 := Tryz.isAgg12
  z12 := Tryz.sizeOf12
  v12 := Tryz.zeroValue12
  t46 := Tryz.underlying78
  a46 := Tryz.isAgg78
  z46 := Tryz.sizeOf78
  v46 := Tryz.zeroValue78
  t53 := Tryz.underlying80
  a53 := Tryz.isAgg80
  z53 := Tryz.sizeOf80
  v53 := Tryz.zeroValue80
  t119 := Tryz.underlying252
  a119 := Tryz.isAgg252
  z119 := Tryz.sizeOf252
  t138 := Tryz.underlying254
  a138 := Tryz.isAgg254
  z138 := Tryz.sizeOf254
  v138 := Tryz.zeroValue254
  t139 := Tryz.underlying255
  a139 := Tryz.isAgg255
  z139 := Tryz.sizeOf255
  v139 := Tryz.zeroValue255
  g3 := by kernel_rfl
  g4 := by kernel_rfl }
def Tryz.laysItoa_ren : Go.Shelf.Ren := ⟨fun | 243 => 98 | 246 => 142 | 283 => 183 | 284 => 184 | 285 => 185 | 286 => 186 | 129 => 174 | 317 => 219 | 318 => 220 | 319 => 221 | 320 => 222 | 337 => 243 | 338 => 244 | n => n, fun | 3 => 3 | 9 => 9 | 2 => 2 | 4 => 4 | 171 => 217 | 0 => 0 | 53 => 80 | 37 => 26 | 5 => 5 | 173 => 219 | 212 => 247 | 51 => 205 | 20 => 20 | 213 => 248 | 46 => 78 | 232 => 282 | 233 => 283 | n => n, fun | 17 => 1 | 18 => 6 | 19 => 7 | n => n⟩
theorem Tryz.laysItoa : Go.Proofs.LaysM.n243 Tryz.prog Tryz.laysItoa_ren := {
  mixed := by kernel_rfl
  f129 := Tryz.func174.trans (congrArg some (by kernel_rfl))
  f243 := Tryz.func98.trans (congrArg some (by kernel_rfl))
  f246 := Tryz.func142.trans (congrArg some (by kernel_rfl))
  f283 := Tryz.func183.trans (congrArg some (by kernel_rfl))
  f284 := Tryz.func184.trans (congrArg some (by kernel_rfl))
  f285 := Tryz.func185.trans (congrArg some (by kernel_rfl))
  f286 := Tryz.func186.trans (congrArg some (by kernel_rfl))
  f317 := Tryz.func219.trans (congrArg some (by kernel_rfl))
  f318 := Tryz.func220.trans (congrArg some (by kernel_rfl))
  f319 := Tryz.func221.trans (congrArg some (by kernel_rfl))
  f320 := Tryz.func222.trans (congrArg some (by kernel_rfl))
  f337 := Tryz.func243.trans (congrArg some (by kernel_rfl))
  f338 := Tryz.func244.trans (congrArg some (by kernel_rfl))
  t0 := Tryz.underlying0
  a0 := Tryz.isAgg0
  z0 := Tryz.sizeOf0
  v0 := Tryz.zeroValue0
  t2 := Tryz.underlying2
  a2 := Tryz.isAgg2
  z2 := Tryz.sizeOf2
  v2 := Tryz.zeroValue2
  t3 := Tryz.underlying3
  a3 := Tryz.isAgg3
  z3 := Tryz.sizeOf3
  v3 := Tryz.zeroValue3
  t4 := Tryz.underlying4
  a4 := Tryz.isAgg4
  z4 := Tryz.sizeOf4
  v4 := Tryz.zeroValue4
  t5 := Tryz.underlying5
  a5 := Tryz.isAgg5
  z5 := Tryz.sizeOf5
  v5 := Tryz.zeroValue5
  t9 := Tryz.underlying9
  a9 := Tryz.isAgg9
  z9 := Tryz.sizeOf9
  v9 := Tryz.zeroValue9
  t20 := Tryz.underlying20
  a20 := Tryz.isAgg20
  z20 := Tryz.sizeOf20
  v20 := Tryz.zeroValue20
  t37 := Tryz.underlying26
  a37 := Tryz.isAgg26
  z37 := Tryz.sizeOf26
  v37 := Tryz.zeroValue26
  t46 := Tryz.underlying78
  a46 := Tryz.isAgg78
  z46 := Tryz.sizeOf78
  v46 := Tryz.zeroValue78
  t51 := Tryz.underlying205
  a51 := Tryz.isAgg205
  z51 := Tryz.sizeOf205
  v51 := Tryz.zeroValue205
  t53 := Tryz.underlying80
  a53 := Tryz.isAgg80
  z53 := Tryz.sizeOf80
  v53 := Tryz.zeroValue80
  t171 := Tryz.underlying217
  a171 := Tryz.isAgg217
  z171 := Tryz.sizeOf217
  v171 := Tryz.zeroValue217
  t173 := Tryz.underlying219
  a173 := Tryz.isAgg219
  z173 := Tryz.sizeOf219
  v173 := Tryz.zeroValue219
  t212 := Tryz.underlying247
  a212 := Tryz.isAgg247
  z212 := Tryz.sizeOf247
  v212 := Tryz.zeroValue247
  t213 := Tryz.underlying248
  a213 := Tryz.isAgg248
  z213 := Tryz.sizeOf248
  t232 := Tryz.underlying282
  a232 := Tryz.isAgg282
  z232 := Tryz.sizeOf282
  v232 := Tryz.zeroValue282
  t233 := Tryz.underlying283
  a233 := Tryz.isAgg283
  z233 := Tryz.sizeOf283
  v233 := Tryz.zeroValue283
  g17 := by kernel_rfl
  g18 := by kernel_rfl
  g19 := by kernel_rfl
  i0 := by kernel_rfl
  i2 := by kernel_rfl
  i3 := by kernel_rfl
  i4 := by kernel_rfl
  i5 := by kernel_rfl
  i9 := by kernel_rfl
  i20 := by kernel_rfl
  i37 := by kernel_rfl
  i46 := by kernel_rfl
  i51 := by kernel_rfl
  i53 := by kernel_rfl
  i171 := by kernel_rfl
  i173 := by kernel_rfl
  i212 := by kernel_rfl
  i232 := by kernel_rfl
  i233 := by kernel_rfl
  m17 := by kernel_rfl
  m18 := by kernel_rfl
  m19 := by kernel_rfl }
def Tryz.laysAtoi_ren : Go.Shelf.Ren := ⟨fun | 172 => 118 | 244 => 153 | 245 => 154 | 247 => 197 | 279 => 198 | 280 => 199 | 281 => 200 | 282 => 201 | 287 => 230 | 316 => 231 | 171 => 56 | 205 => 232 | 321 => 248 | 322 => 249 | 243 => 98 | 246 => 142 | 283 => 183 | 284 => 184 | 285 => 185 | 286 => 186 | 129 => 174 | 317 => 219 | 318 => 220 | 319 => 221 | 320 => 222 | 337 => 243 | 338 => 244 | n => n, fun | 9 => 9 | 3 => 3 | 75 => 28 | 76 => 54 | 4 => 4 | 5 => 5 | 167 => 224 | 37 => 26 | 0 => 0 | 85 => 225 | 2 => 2 | 168 => 227 | 53 => 80 | 175 => 242 | 46 => 78 | 210 => 261 | 127 => 277 | 145 => 280 | 143 => 278 | 21 => 21 | 171 => 217 | 173 => 219 | 212 => 247 | 51 => 205 | 20 => 20 | 213 => 248 | 232 => 282 | 233 => 283 | 80 => 269 | n => n, fun | 15 => 4 | 16 => 5 | 17 => 1 | 18 => 6 | 19 => 7 | n => n⟩
theorem Tryz.laysAtoi : Go.Proofs.LaysC.n172 Tryz.prog Tryz.laysAtoi_ren := {
  mixed := by kernel_rfl
  f129 := Tryz.func174.trans (congrArg some (by kernel_rfl))
  f171 := Tryz.func56.trans (congrArg some (by kernel_rfl))
  f172 := Tryz.func118.trans (congrArg some (by kernel_rfl))
  f205 := Tryz.func232.trans (congrArg some (by kernel_rfl))
  f243 := Tryz.func98.trans (congrArg some (by kernel_rfl))
  f244 := Tryz.func153.trans (congrArg some (by kernel_rfl))
  f245 := Tryz.func154.trans (congrArg some (by kernel_rfl))
  f246 := Tryz.func142.trans (congrArg some (by kernel_rfl))
  f247 := Tryz.func197.trans (congrArg some (by kernel_rfl))
  f279 := Tryz.func198.trans (congrArg some (by kernel_rfl))
  f280 := Tryz.func199.trans (congrArg some (by kernel_rfl))
  f281 := Tryz.func200.trans (congrArg some (by kernel_rfl))
  f282 := Tryz.func201.trans (congrArg some (by kernel_rfl))
  f283 := Tryz.func183.trans (congrArg some (by kernel_rfl))
  f284 := Tryz.func184.trans (congrArg some (by kernel_rfl))
  f285 := Tryz.func185.trans (congrArg some (by kernel_rfl))
  f286 := Tryz.func186.trans (congrArg some (by kernel_rfl))
  f287 := Tryz.func230.trans (congrArg some (by kernel_rfl))
  f316 := Tryz.func231.trans (congrArg some (by kernel_rfl))
  f317 := Tryz.func219.trans (congrArg some (by kernel_rfl))
  f318 := Tryz.func220.trans (congrArg some (by kernel_rfl))
  f319 := Tryz.func221.trans (congrArg some (by kernel_rfl))
  f320 := Tryz.func222.trans (congrArg some (by kernel_rfl))
  f321 := Tryz.func248.trans (congrArg some (by kernel_rfl))
  f322 := Tryz.func249.trans (congrArg some (by kernel_rfl))
  f337 := Tryz.func243.trans (congrArg some (by kernel_rfl))
  f338 := Tryz.func244.trans (congrArg some (by kernel_rfl))
  t0 := Tryz.underlying0
  a0 := Tryz.isAgg0
  z0 := Tryz.sizeOf0
  v0 := Tryz.zeroValue0
  t2 := Tryz.underlying2
  a2 := Tryz.isAgg2
  z2 := Tryz.sizeOf2
  v2 := Tryz.zeroValue2
  t3 := Tryz.underlying3
  a3 := Tryz.isAgg3
  z3 := Tryz.sizeOf3
  v3 := Tryz.zeroValue3
  t4 := Tryz.underlying4
  a4 := Tryz.isAgg4
  z4 := Tryz.sizeOf4
  v4 := Tryz.zeroValue4
  t5 := Tryz.underlying5
  a5 := Tryz.isAgg5
  z5 := Tryz.sizeOf5
  v5 := Tryz.zeroValue5
  t9 := Tryz.underlying9
  a9 := Tryz.isAgg9
  z9 := Tryz.sizeOf9
  v9 := Tryz.zeroValue9
  t20 := Tryz.underlying20
  a20 := Tryz.isAgg20
  z20 := Tryz.sizeOf20
  v20 := Tryz.zeroValue20
  t21 := Tryz.underlying21
  a21 := Tryz.isAgg21
  z21 := Tryz.sizeOf21
  v21 := Tryz.zeroValue21
  t37 := Tryz.underlying26
  a37 := Tryz.isAgg26
  z37 := Tryz.sizeOf26
  v37 := Tryz.zeroValue26
  t46 := Tryz.underlying78
  a46 := Tryz.isAgg78
  z46 := Tryz.sizeOf78
  v46 := Tryz.zeroValue78
  t51 := Tryz.underlying205
  a51 := Tryz.isAgg205
  z51 := Tryz.sizeOf205
  v51 := Tryz.zeroValue205
  t53 := Tryz.underlying80
  a53 := Tryz.isAgg80
  z53 := Tryz.sizeOf80
  v53 := Tryz.zeroValue80
  t75 := Tryz.underlying28
  a75 := Tryz.isAgg28
  z75 := Tryz.sizeOf28
  v75 := Tryz.zeroValue28
  t76 := Tryz.underlying54
  a76 := Tryz.isAgg54
  z76 := Tryz.sizeOf54
  v76 := Tryz.zeroValue54
  t85 := Tryz.underlying225
  a85 := Tryz.isAgg225
  z85 := Tryz.sizeOf225
  v85 := Tryz.zeroValue225
  t127 := Tryz.underlying277
  a127 := Tryz.isAgg277
  z127 := Tryz.sizeOf277
  v127 := Tryz.zeroValue277
  t143 := Tryz.underlying278
  a143 := Tryz.isAgg278
  z143 := Tryz.sizeOf278
  v143 := Tryz.zeroValue278
  t145 := Tryz.underlying280
  a145 := Tryz.isAgg280
  z145 := Tryz.sizeOf280
  v145 := Tryz.zeroValue280
  t167 := Tryz.underlying224
  a167 := Tryz.isAgg224
  z167 := Tryz.sizeOf224
  v167 := Tryz.zeroValue224
  t168 := Tryz.underlying227
  a168 := Tryz.isAgg227
  z168 := Tryz.sizeOf227
  v168 := Tryz.zeroValue227
  t171 := Tryz.underlying217
  a171 := Tryz.isAgg217
  z171 := Tryz.sizeOf217
  v171 := Tryz.zeroValue217
  t173 := Tryz.underlying219
  a173 := Tryz.isAgg219
  z173 := Tryz.sizeOf219
  v173 := Tryz.zeroValue219
  t175 := Tryz.underlying242
  a175 := Tryz.isAgg242
  z175 := Tryz.sizeOf242
  v175 := Tryz.zeroValue242
  t210 := Tryz.underlying261
  a210 := Tryz.isAgg261
  z210 := Tryz.sizeOf261
  v210 := Tryz.zeroValue261
  t212 := Tryz.underlying247
  a212 := Tryz.isAgg247
  z212 := Tryz.sizeOf247
  v212 := Tryz.zeroValue247
  t213 := Tryz.underlying248
  a213 := Tryz.isAgg248
  z213 := Tryz.sizeOf248
  t232 := Tryz.underlying282
  a232 := Tryz.isAgg282
  z232 := Tryz.sizeOf282
  v232 := Tryz.zeroValue282
  t233 := Tryz.underlying283
  a233 := Tryz.isAgg283
  z233 := Tryz.sizeOf283
  v233 := Tryz.zeroValue283
  g15 := by kernel_rfl
  g16 := by kernel_rfl
  g17 := by kernel_rfl
  g18 := by kernel_rfl
  g19 := by kernel_rfl
  t80 := Tryz.underlying269
  a80 := Tryz.isAgg269
  z80 := Tryz.sizeOf269
  v80 := Tryz.zeroValue269
  i0 := by kernel_rfl
  i2 := by kernel_rfl
  i3 := by kernel_rfl
  i4 := by kernel_rfl
  i5 := by kernel_rfl
  i9 := by kernel_rfl
  i20 := by kernel_rfl
  i21 := by kernel_rfl
  i37 := by kernel_rfl
  i46 := by kernel_rfl
  i51 := by kernel_rfl
  i53 := by kernel_rfl
  i75 := by kernel_rfl
  i76 := by kernel_rfl
  i80 := by kernel_rfl
  i85 := by kernel_rfl
  i127 := by kernel_rfl
  i143 := by kernel_rfl
  i145 := by kernel_rfl
  i167 := by kernel_rfl
  i168 := by kernel_rfl
  i171 := by kernel_rfl
  i173 := by kernel_rfl
  i175 := by kernel_rfl
  i210 := by kernel_rfl
  i212 := by kernel_rfl
  i232 := by kernel_rfl
  i233 := by kernel_rfl
  m15 := by kernel_rfl
  m16 := by kernel_rfl
  m17 := by kernel_rfl
  m18 := by kernel_rfl
  m19 := by kernel_rfl
  c0 := by kernel_rfl
  c2 := by kernel_rfl
  c3 := by kernel_rfl
  c4 := by kernel_rfl
  c5 := by kernel_rfl
  c9 := by kernel_rfl
  c20 := by kernel_rfl
  c21 := by kernel_rfl
  c37 := by kernel_rfl
  c46 := by kernel_rfl
  c51 := by kernel_rfl
  c53 := by kernel_rfl
  c75 := by kernel_rfl
  c76 := by kernel_rfl
  c80 := by kernel_rfl
  c85 := by kernel_rfl
  c127 := by kernel_rfl
  c143 := by kernel_rfl
  c145 := by kernel_rfl
  c167 := by kernel_rfl
  c168 := by kernel_rfl
  c171 := by kernel_rfl
  c173 := by kernel_rfl
  c175 := by kernel_rfl
  c210 := by kernel_rfl
  c212 := by kernel_rfl
  c213 := by kernel_rfl
  c232 := by kernel_rfl
  c233 := by kernel_rfl }
end Go.Proofs
namespace Go.Abs
open Go.Proofs Go.RowKit
set_option maxRecDepth 100000
/-- what holds of the tables and variables that the library reads -/
structure GG (S : Nat → Prop) (w : World) : Prop where
  pow : Lib.TabIs Tryz.prog w "internal/strconv.uint64pow10" .u64 Lib.pow10Tab
  utf : Lib.Utf8Tabs 2 3 w
  synt : ∃ ev, w.cell? ⟨4, 0, none⟩ = some ev ∧ (ev = .nilIface ∨ ∃ te pe, ev = .iface te pe)
  rang : ∃ ev, w.cell? ⟨5, 0, none⟩ = some ev ∧ (ev = .nilIface ∨ ∃ te pe, ev = .iface te pe)
  low : ∀ b, b < 8 → S b
theorem gg_stable : Stable GG := by
  intro S S' w w' h hS hw
  have hb : ∀ b, b < 8 → w'.heap[b]? = w.heap[b]? := fun b hb => hw b (h.low b hb)
  have hc : ∀ b o, b < 8 → w'.cell? ⟨b, o, none⟩ = w.cell? ⟨b, o, none⟩ := fun b o h => cell_congr (hb b h) o none
  refine ⟨?_, ⟨fun c hc' => ?_, fun i hi => ?_⟩, ?_, ?_, fun b hb' => hS b (h.low b hb')⟩
  · have h1 := h.pow
    unfold Lib.TabIs World.var? at h1 ⊢
    have hg : Tryz.prog.globalNamed "internal/strconv.uint64pow10" = some 1 := by kernel_rfl
    rw [hg] at h1 ⊢
    simp only [Option.bind_some] at h1 ⊢
    rw [hb 1 (by omega)]
    exact h1
  · rw [hc 2 _ (by omega)]; exact h.utf.1 c hc'
  · rw [hc 3 _ (by omega), hc 3 _ (by omega)]; exact h.utf.2 i hi
  · obtain ⟨ev, h1, h2⟩ := h.synt
    exact ⟨ev, by rw [hc 4 _ (by omega)]; exact h1, h2⟩
  · obtain ⟨ev, h1, h2⟩ := h.rang
    exact ⟨ev, by rw [hc 5 _ (by omega)]; exact h1, h2⟩
section
variable {ι : Emb} {S T : Nat → Prop} {w w' : World} {r : AVal} {v : Value} {next : Free}
/-- an answer that owns nothing, behind which the old memory is as it was -/
theorem back_of (hi : Inv ι S T [] w (Free.above 0)) (hb : Below w.heap.size w w') (hr : ∀ ι' S' T' w'', Rep ι' S' T' w'' r v) : Back ι S T [] w r [] v w' := by
  refine ⟨ι, S, Free.above 0, hr _ _ _ _, ⟨by simp, by simp, by simp, hi.fresh, fun b hb' => Nat.lt_of_lt_of_le (hi.s_lt b hb') hb.size, fun b hb' => Nat.lt_of_lt_of_le (hi.t_lt b hb') hb.size⟩, ?_⟩
  exact ⟨fun _ _ h => h, fun _ h => h, fun b hb' _ => hb.block b hb', hb.size, fun b ⟨e, he, _⟩ => (by cases he), fun b h => .inl h, hb.os, hb.tape, hb.output⟩
theorem call_enter {g : Nat} {vals : Array Value} {R : Value → World → Prop} {fn : Func} (hf : Tryz.prog.funcs[g]? = some fn) (hb : fn.body.isSome = true) (hn : (fn.name == "runtime.NumGoroutine") = false)
    (h : Go.Calls Tryz.prog g vals w fun | .returned v, w'' => R v w'' | _, _ => False) : CallOK Tryz.prog g vals w R := by
  obtain ⟨c, hc⟩ := Option.isSome_iff_exists.1 hb
  have hrun : (callFunc g vals).run Tryz.prog w = .ok (.enter g vals) w := by
    have hn : ¬ fn.name = "runtime.NumGoroutine" := by simpa using hn
    simp [callFunc, hf, hn, hc]
  unfold CallOK
  rw [hrun]
  exact h
theorem grow_below (k : Nat) (os : Array Obj) : Below w.heap.size w (Sort.grow (w.drewN k) os) := by
  refine ⟨rfl, rfl, rfl, ?_, fun j hj => ?_⟩
  · show w.heap.size ≤ (w.heap ++ os).size
    simp
  · show (w.heap ++ os)[j]? = _
    rw [Array.getElem?_append_left hj]
theorem itoa_ok {n : Int} (hg : GG S w) (hi : Inv ι S T [] w (Free.above 0)) (h0 : -9223372036854775808 ≤ n) (h1 : n ≤ 9223372036854775807) : CallOK Tryz.prog 98 #[.int .i64 n] w (Back ι S T [] w (.str (Lib.itoa n)) []) := by
  refine call_enter Tryz.func98 (by kernel_rfl) (by kernel_rfl) ?_
  refine (Any.internal_strconv_Itoa Tryz.laysItoa n h0 h1 w hg.pow).mono ?_
  rintro e w' ⟨rfl, k, os, rfl⟩
  exact back_of hi (grow_below k os) fun _ _ _ _ => .str _
theorem valid_ok {s : List UInt8} (hg : GG S w) (hi : Inv ι S T [] w (Free.above 0)) (h0 : s.length ≤ 9223372036854775807) : CallOK Tryz.prog 191 #[.string ⟨s.toArray⟩] w (Back ι S T [] w (.bool (Lib.validD s)) []) := by
  refine call_enter Tryz.func191 (by kernel_rfl) (by kernel_rfl) ?_
  refine (Any.utf8_ValidString Tryz.laysValid ⟨s.toArray⟩ w (by simpa [ByteArray.size] using h0) hg.utf).mono ?_
  rintro e w' ⟨rfl, hb⟩
  exact back_of hi hb fun _ _ _ _ => .bool _
theorem atoi_ok {s : List UInt8} (hg : GG S w) (hi : Inv ι S T [] w (Free.above 0)) (h0 : s.length ≤ 281474976710656) :
    CallOK Tryz.prog 118 #[.string ⟨s.toArray⟩] w (Back ι S T [] w (.tuple [.int .i64 (atoiV s), if atoiOk s = true then .lit .nilIface else numErr]) []) := by
  refine call_enter Tryz.func118 (by kernel_rfl) (by kernel_rfl) ?_
  have hsz : (ByteArray.mk s.toArray).size = s.length := by simp [ByteArray.size]
  have htl : (ByteArray.mk s.toArray).data.toList = s := by simp
  have rep : ∀ (n : Int) (a : AVal) (v : Value) (ι' : Emb) (S' T' : Nat → Prop) (w'' : World), Rep ι' S' T' w'' a v → Rep ι' S' T' w'' (.tuple [.int .i64 n, a]) (.tuple #[.int .i64 n, v]) := by
    intro n a v ι' S' T' w'' h
    refine .tuple _ _ rfl fun i c u hc hu => ?_
    match i with
    | 0 => simp at hc hu; subst hc; subst hu; exact .int _ _
    | 1 => simp at hc hu; subst hc; subst hu; exact h
    | i + 2 => simp at hc
  cases ha : Lib.atoiAll s
  case ok v =>
    have e1 : atoiV s = v := by simp [atoiV, ha]
    have e2 : atoiOk s = true := by simp [atoiOk, ha]
    rw [e1, if_pos e2]
    refine (Any.strconv_Atoi_ok Tryz.laysAtoi ⟨s.toArray⟩ (by omega) v (by rw [htl]; exact ha) w).mono ?_
    rintro e w' ⟨rfl, hw⟩
    refine back_of hi ?_ fun _ _ _ _ => rep _ _ _ _ _ _ _ (.lit _)
    rcases hw with rfl | ⟨t, rfl⟩
    · exact Below.refl _ _
    · exact Lib.bytesWorld_below _ _ _
  case range =>
    have e1 : atoiV s = Lib.atoiSat s := by simp [atoiV, ha]
    have e2 : ¬ atoiOk s = true := by simp [atoiOk, ha]
    rw [e1, if_neg e2]
    obtain ⟨ev, g1, g2⟩ := hg.rang
    refine (Any.strconv_Atoi_range Tryz.laysAtoi ⟨s.toArray⟩ (by omega) (by rw [htl]; exact ha) ev w g1 g2).mono ?_
    rintro e w' ⟨N, rfl, _, _, hb⟩
    exact back_of hi hb fun _ _ _ _ => rep _ _ _ _ _ _ _ (.iface _ _ _ (.junk _))
  have e1 : atoiV s = 0 := by simp [atoiV, ha]
  have e2 : ¬ atoiOk s = true := by simp [atoiOk, ha]
  rw [e1, if_neg e2]
  obtain ⟨ev, g1, g2⟩ := hg.synt
  refine (Any.strconv_Atoi_syntax Tryz.laysAtoi ⟨s.toArray⟩ (by omega) (by rw [htl]; exact ha) ev w g1 g2).mono ?_
  rintro e w' ⟨N, rfl, _, _, hb⟩
  exact back_of hi hb fun _ _ _ _ => rep _ _ _ _ _ _ _ (.iface _ _ _ (.junk _))
theorem extern_ok {g : Nat} {vals : Array Value} {fn : Func} {x : Array Value → Sem Value} (hi : Inv ι S T [] w (Free.above 0)) (hf : Tryz.prog.funcs[g]? = some fn) (hname : (fn.name == "runtime.NumGoroutine") = false)
    (hb : fn.body.isNone = true) (hn : Extern.findNext fn = none) (he : Extern.find fn = some x) (hx : (x vals).run Tryz.prog w = .ok v w) (hr : ∀ ι' S' T' w'', Rep ι' S' T' w'' r v) : CallOK Tryz.prog g vals w (Back ι S T [] w r []) := by
  unfold CallOK
  rw [run_callFunc_extern hf hname hb hn he, hx]
  exact back_of hi (Below.refl _ _) hr
theorem count_ok {s : List UInt8} {c : Int} (hi : Inv ι S T [] w (Free.above 0)) : CallOK Tryz.prog 255 #[.string ⟨s.toArray⟩, .int .u8 c] w (Back ι S T [] w (.int .i64 (Lib.countByte s c.toNat.toUInt8)) []) := by
  refine extern_ok hi Tryz.func255 (by kernel_rfl) (by kernel_rfl) (by kernel_rfl) (x := Extern.BytealgCount.count) (by kernel_rfl) (Lib.run_countString _ _ _) fun _ _ _ _ => ?_
  have htl : (ByteArray.mk s.toArray).data.toList = s := by simp
  rw [htl]
  exact .int _ _
theorem index_ok {s : List UInt8} {c : Int} (hi : Inv ι S T [] w (Free.above 0)) : CallOK Tryz.prog 247 #[.string ⟨s.toArray⟩, .int .u8 c] w (Back ι S T [] w (.int .i64 (Lib.indexByte s c.toNat.toUInt8)) []) := by
  refine extern_ok hi Tryz.func247 (by kernel_rfl) (by kernel_rfl) (by kernel_rfl) (x := Extern.BytealgIndexByte.indexByte) (by kernel_rfl) (Lib.run_indexByteString _ _ _) fun _ _ _ _ => ?_
  have htl : (ByteArray.mk s.toArray).data.toList = s := by simp
  rw [htl]
  exact .int _ _
theorem cmp_ok {s t : List UInt8} (hi : Inv ι S T [] w (Free.above 0)) : CallOK Tryz.prog 211 #[.string ⟨s.toArray⟩, .string ⟨t.toArray⟩] w (Back ι S T [] w (.int .i64 (Lib.compareBytes s t)) []) := by
  refine extern_ok hi Tryz.func211 (by kernel_rfl) (by kernel_rfl) (by kernel_rfl) (x := Extern.BytealgCompare.compare) (by kernel_rfl) (Lib.run_compareString _ _ _) fun _ _ _ _ => ?_
  have h1 : (ByteArray.mk s.toArray).data.toList = s := by simp
  have h2 : (ByteArray.mk t.toArray).data.toList = t := by simp
  rw [h1, h2]
  exact .int _ _
theorem bytesOf_some : ∀ {es : List AVal} {l : List UInt8}, bytesOf es = some l → ∃ xs : List Int, es = xs.map (.int .u8 ·) ∧ l = xs.map fun n => UInt8.ofNat n.toNat
  | [], l, h => by
    simp [bytesOf] at h
    exact ⟨[], rfl, h⟩
  | e :: r, l, h => by
    unfold bytesOf at h
    split at h <;> try (simp at h; done)
    · rename_i heq
      cases heq
    · rename_i n r' heq
      cases heq
      obtain ⟨l', h1, rfl⟩ := map_some h
      obtain ⟨xs, h2, h3⟩ := bytesOf_some h1
      exact ⟨n :: xs, by simp [h2], by simp [h3]⟩
theorem indexB_ok {es : List AVal} {l : List UInt8} {c : Int} {cl tm : Bool} {v : Value} (hi : Inv ι S T [] w (Free.above 0)) (hb : bytesOf es = some l) (hv : Rep ι S T w (.view 1 es cl tm) v) : CallOK Tryz.prog 228 #[v, .int .u8 c] w (Back ι S T [] w (.int .i64 (Lib.indexByte l c.toNat.toUInt8)) []) := by
  obtain ⟨xs, rfl, rfl⟩ := bytesOf_some hb
  obtain ⟨b, o, q, sp, vs, rfl, hsp, h1, h2, h3, h4, h5, h6, h7⟩ := hv.view_inv
  have hrun : (Extern.BytealgIndexByte.indexByte #[.slice (some ⟨b, o, sp⟩) (xs.map (AVal.int .u8 ·)).length q, .int .u8 c]).run Tryz.prog w = .ok (.int .i64 (Lib.indexByte (Lib.bytesOf xs) c.toNat.toUInt8)) w := by
    rcases hsp with rfl | rfl
    · exact Lib.run_indexByteSlice (P := Tryz.prog) (w := w) b o (xs.map (AVal.int .u8 ·)).length q xs (by simp) (fun i hil => by
        have hl : i < xs.length := by simpa using hil
        have e1 : (xs.map (AVal.int .u8 ·))[i]? = some (.int .u8 xs[i]) := by simp [hl]
        have e2 := h6 i _ 0 (.int .u8 xs[i]) e1 rfl
        have e3 := h7 i _ 0 (.int .u8 xs[i]) e1 rfl
        have e4 : xs.getD i 0 = xs[i] := by simp [List.getD, hl]
        rw [e4, ← e3.int_inv]
        simpa using e2) c
    · obtain rfl : xs = [] := List.eq_nil_of_length_eq_zero (by simpa using h1)
      exact Lib.run_indexByteString (P := Tryz.prog) .empty c w
  refine extern_ok hi Tryz.func228 (by kernel_rfl) (by kernel_rfl) (by kernel_rfl) (x := Extern.BytealgIndexByte.indexByte) (by kernel_rfl) hrun fun _ _ _ _ => ?_
  have : Lib.bytesOf xs = xs.map fun n => UInt8.ofNat n.toNat := rfl
  rw [this]
  exact .int _ _
theorem indexN_ok {c : Int} (hi : Inv ι S T [] w (Free.above 0)) : CallOK Tryz.prog 228 #[.slice none 0 0, .int .u8 c] w (Back ι S T [] w (.int .i64 (-1)) []) :=
  extern_ok hi Tryz.func228 (by kernel_rfl) (by kernel_rfl) (by kernel_rfl) (x := Extern.BytealgIndexByte.indexByte) (by kernel_rfl) (Lib.run_indexByteNil _ 0 0 c) fun _ _ _ _ => .int _ _
theorem one_arg {args : List AVal} {vals : Array Value} {a : AVal} (ha : args = [a]) (hl : args.length = vals.size) (hr : ∀ (i : Nat) (c : AVal) (v : Value), args[i]? = some c → vals[i]? = some v → Rep ι S T w c v) : ∃ v, vals = #[v] ∧ Rep ι S T w a v := by
  subst ha
  obtain ⟨l⟩ := vals
  match l, hl with
  | [v], _ => exact ⟨v, rfl, hr 0 a v rfl rfl⟩
theorem two_args {args : List AVal} {vals : Array Value} {a b : AVal} (ha : args = [a, b]) (hl : args.length = vals.size) (hr : ∀ (i : Nat) (c : AVal) (v : Value), args[i]? = some c → vals[i]? = some v → Rep ι S T w c v) : ∃ v u, vals = #[v, u] ∧ Rep ι S T w a v ∧ Rep ι S T w b u := by
  subst ha
  obtain ⟨l⟩ := vals
  match l, hl with
  | [v, u], _ => exact ⟨v, u, rfl, hr 0 a v rfl rfl, hr 1 b u rfl rfl⟩
theorem prim_ok {g : Nat} {p : List AVal → Option AVal} (hp : prims g = some p) {args : List AVal} (hr : p args = some r) (hg : GG S w) (hi : Inv ι S T [] w (Free.above 0)) {vals : Array Value} (hl : args.length = vals.size)
    (hv : ∀ (i : Nat) (c : AVal) (v : Value), args[i]? = some c → vals[i]? = some v → Rep ι S T w c v) : CallOK Tryz.prog g vals w (Back ι S T [] w r []) := by
  unfold prims at hp
  split at hp <;> simp only [Option.some.injEq, reduceCtorEq] at hp <;> subst hp
  · unfold itoaP at hr
    split at hr <;> try (simp at hr; done)
    split at hr <;> simp only [Option.some.injEq, reduceCtorEq] at hr
    subst hr
    rename_i n hn
    obtain ⟨v, rfl, h1⟩ := one_arg rfl hl hv
    rw [h1.int_inv]
    exact itoa_ok hg hi hn.1 hn.2
  · unfold atoiP at hr
    split at hr <;> try (simp at hr; done)
    split at hr <;> simp only [Option.some.injEq, reduceCtorEq] at hr
    subst hr
    rename_i s hn
    obtain ⟨v, rfl, h1⟩ := one_arg rfl hl hv
    rw [h1.str_inv]
    exact atoi_ok hg hi hn
  · unfold validP at hr
    split at hr <;> try (simp at hr; done)
    split at hr <;> simp only [Option.some.injEq, reduceCtorEq] at hr
    subst hr
    rename_i s hn
    obtain ⟨v, rfl, h1⟩ := one_arg rfl hl hv
    rw [h1.str_inv]
    exact valid_ok hg hi hn
  · unfold countP at hr
    split at hr <;> simp only [Option.some.injEq, reduceCtorEq] at hr
    subst hr
    obtain ⟨v, u, rfl, h1, h2⟩ := two_args rfl hl hv
    rw [h1.str_inv, h2.int_inv]
    exact count_ok hi
  · unfold indexP at hr
    split at hr <;> simp only [Option.some.injEq, reduceCtorEq] at hr
    subst hr
    obtain ⟨v, u, rfl, h1, h2⟩ := two_args rfl hl hv
    rw [h1.str_inv, h2.int_inv]
    exact index_ok hi
  · unfold indexBP at hr
    split at hr
    · obtain ⟨l, hb, rfl⟩ := map_some hr
      obtain ⟨v, u, rfl, h1, h2⟩ := two_args rfl hl hv
      rw [h2.int_inv]
      exact indexB_ok hi hb h1
    · simp only [Option.some.injEq] at hr
      subst hr
      obtain ⟨v, u, rfl, h1, h2⟩ := two_args rfl hl hv
      rw [h2.int_inv, h1.lit_inv]
      exact indexN_ok hi
    · simp at hr
  · unfold cmpP at hr
    split at hr <;> simp only [Option.some.injEq, reduceCtorEq] at hr
    subst hr
    obtain ⟨v, u, rfl, h1, h2⟩ := two_args rfl hl hv
    rw [h1.str_inv, h2.str_inv]
    exact cmp_ok hi
end
theorem names_ok : (Tryz.prog.funcs.all fun f => !(f.name == "runtime.NumGoroutine")) = true := by kernel_rfl
theorem aa_of : AA.Of gl0 Tryz.prog [58] GG := {
  mix := by kernel_rfl
  stable := gg_stable
  glob := fun S w _ g v h => by cases h
  fn := fun g afn h => by
    obtain ⟨fn, h1, h2⟩ := Option.bind_eq_some_iff.1 (show (Tryz.prog.funcs[g]?).bind (trFn gl0 Tryz.prog [58]) = some afn from h)
    refine ⟨fn, h1, ?_, h2⟩
    have hm := (Array.all_eq_true_iff_forall_mem.1 names_ok) fn (Array.mem_of_getElem? h1)
    simpa using hm
  prim := fun g p hp args r hr ι S T w vals hg hi hl hv => prim_ok hp hr hg hi hl hv }
end Go.Abs
namespace Go.Abs
open Go.Proofs Go.RowKit
set_option maxRecDepth 100000
theorem law_calls {g : Nat} {fn : Func} (hf : Tryz.prog.funcs[g]? = some fn) (hb : fn.body.isSome = true) (hn : (fn.name == "runtime.NumGoroutine") = false) {args : List AVal} (hs : callT AA g args [] = some (.bool true, [])) {w : World} {vals : Array Value}
    (hG : GG (fun b => b < w.heap.size) w) (hl : args.length = vals.size) (hr : ∀ (i : Nat) (c : AVal) (v : Value), args[i]? = some c → vals[i]? = some v → Rep (fun _ => none) (fun b => b < w.heap.size) (fun _ => False) w c v) :
    Go.Calls Tryz.prog g vals w fun e w' => e = .returned (.bool true) ∧ Below w.heap.size w w' := by
  have hi : Inv (fun _ => none) (fun b => b < w.heap.size) (fun _ => False) [] w (Free.above 0) := ⟨by simp, by simp, by simp, fun _ _ => rfl, fun _ h => h, fun _ h => h.elim⟩
  have h := callT_sound aa_of g args [] (.bool true) [] hs _ _ _ w vals hG hi hl hr
  obtain ⟨c, hc⟩ := Option.isSome_iff_exists.1 hb
  have hrun : (callFunc g vals).run Tryz.prog w = .ok (.enter g vals) w := by
    have hn : ¬ fn.name = "runtime.NumGoroutine" := by simpa using hn
    simp [callFunc, hf, hn, hc]
  unfold CallOK at h
  rw [hrun] at h
  refine Go.Calls.mono h fun e w' he => ?_
  cases e with
  | returned v =>
    obtain ⟨ι', S', n', h1, h2, h3⟩ := he
    rw [h1.bool_inv]
    exact ⟨rfl, h3.os, h3.tape, h3.output, h3.size, fun k hk => h3.frame k hk fun ⟨e, he, _⟩ => by cases he⟩
  | panicked c => exact he.elim
  | outgrown => exact he.elim
end Go.Abs
namespace Go.Abs
open Go.Proofs Go.RowKit Go.ChangeShapes Go.WideShapes Go.Deep
set_option maxRecDepth 100000
set_option linter.unusedSimpArgs false
/-- a value that is all old memory's -/
abbrev RepW (w : World) : AVal → Value → Prop := Rep (fun _ => none) (fun b => b < w.heap.size) (fun _ => False) w
section
variable {H : Type} {enc : TypeId × Value → H} {w : World} {n : Nat} {cs : List Value} {x : DataW H × List MemPlace}
theorem lt_of_cell {a : Addr} {v : Value} (h : w.cell? a = some v) : a.block < w.heap.size ∧ a.spot = none := by
  unfold World.cell? at h
  split at h
  · rename_i c e f hb
    refine ⟨(Array.getElem?_eq_some_iff.1 hb).1, ?_⟩
    cases hs : a.spot with
    | none => rfl
    | some k => rw [hs] at h; simp at h
  · cases h
theorem cell_add {b o i : Nat} {sp : Option Nat} {v : Value} (h : w.cell? ((⟨b, o, sp⟩ : Addr).add i) = some v) (hs : sp = none) : w.cell? ⟨b, o + i, none⟩ = some v := by
  subst hs
  rw [← h, Addr.add_none]
/-- no string, slice or map of it is larger than the reach -/
def Light (d : DataW H) (t : TypeId) : Prop := ∀ k ∈ d.weights Tryz.prog t, k ≤ reachBytes
theorem reach_eq : reachBytes = 140737488351232 := by decide
theorem str_of (hw : Light x.1 9) (h : DataW.trod enc Tryz.prog w 0 (fun _ => true) true n 9 cs = some x) : ∃ (l : List UInt8) (v : Value), cs = [v] ∧ RepW w (.str l) v ∧ l.length ≤ 140737488351232 := by
  obtain ⟨s, h1, hx, h2⟩ := DataW.trod_string Tryz.underlying9 h
  have hwl : s.data.toList.length ≤ 140737488351232 := by
    rw [← reach_eq]
    refine hw _ ?_
    rw [hx]
    simp [DataW.weights]
  refine ⟨s.data.toList, .string s, h1, ?_, hwl⟩
  · have := Rep.str (ι := fun _ => none) (S := fun b => b < w.heap.size) (T := fun _ => False) (w := w) s.data.toList
    simpa using this
theorem int_of (h : DataW.trod enc Tryz.prog w 0 (fun _ => true) true n 3 cs = some x) : ∃ (z : Int) (v : Value), cs = [v] ∧ RepW w (.int .i64 z) v ∧ -9223372036854775808 ≤ z ∧ z ≤ 9223372036854775807 := by
  obtain ⟨z, h1, _, h2⟩ := DataW.trod_int Tryz.underlying3 h
  simp only [Lit.wf, Bool.and_eq_true, decide_eq_true_eq] at h2
  exact ⟨z, _, h1, .int _ _, h2.1, h2.2⟩
theorem bytes_of (hw : Light x.1 26) (h : DataW.trod enc Tryz.prog w 0 (fun _ => true) true n 26 cs = some x) : ∃ (b : BS) (v : Value), cs = [v] ∧ RepW w b.av v ∧ b.isTmp = false ∧ b.l.length ≤ 140737488351232 := by
  rcases open_ints Tryz.underlying26 Tryz.underlying5 (by kernel_rfl) h with ⟨hcs, _⟩ | ⟨a, l, c, zs, hcs, _, hl, hm, hz, hx, hcell, hwz⟩
  · exact ⟨.nil, _, hcs, .lit _, rfl, by simp [BS.l]⟩
  · simp only [if_true] at hz
    have hwt : zs.length ≤ 140737488351232 := by
      have hb : Tryz.prog.bytesOf 5 = 1 := by kernel_rfl
      rw [← reach_eq]
      refine hw _ ?_
      rw [hx]
      simp only [DataW.weights, Tryz.underlying26, hb, lits, List.length_map, List.length_take, List.length_drop]
      refine List.mem_cons.2 (.inl ?_)
      omega
    have hw : ∀ i, i < zs.length → 0 ≤ zs.getD i 0 ∧ zs.getD i 0 ≤ 255 := by
      intro i hi
      have := hwz (zs.getD i 0) (by rw [List.getD, List.getElem?_eq_getElem hi]; exact List.getElem_mem hi)
      simpa [Lit.wf, IntKind.min, IntKind.max, IntKind.signed, IntKind.bits] using this
    obtain ⟨b, o, sp⟩ := a
    have hsp : sp = none ∨ c = 0 := by
      rcases Nat.eq_zero_or_pos c with h0 | h0
      · exact .inr h0
      · exact .inl (by simpa [Addr.add] using (lt_of_cell (hcell 0 (by omega))).2)
    let bs := (zs.take l).map fun z => UInt8.ofNat z.toNat
    have hlen : bs.length = l := by simp [bs]; omega
    have hget : ∀ (i : Nat) (e : AVal), (bs.map AVal.byte)[i]? = some e → i < l ∧ e = .int .u8 (zs.getD i 0) := by
      intro i e he
      have hi : i < l := by
        have := (List.getElem?_eq_some_iff.1 he).1
        simpa [hlen] using this
      refine ⟨hi, ?_⟩
      have hiz : i < zs.length := by omega
      have e1 : zs[i]? = some zs[i] := List.getElem?_eq_getElem hiz
      have e2 : zs.getD i 0 = zs[i] := by rw [List.getD, e1]; rfl
      have hb := hw i hiz
      rw [e2] at hb ⊢
      have e3 : (bs.map AVal.byte)[i]? = some (AVal.byte (UInt8.ofNat zs[i].toNat)) := by
        simp only [bs, List.getElem?_map, List.getElem?_take, hi, if_true, e1, Option.map_some]
      rw [e3] at he
      cases he
      unfold AVal.byte
      congr 1
      simp
      omega
    have hcl : ∀ i, i < zs.length → w.cell? ⟨b, o + i, none⟩ = some (.int .u8 (zs.getD i 0)) := by
      intro i hi
      refine cell_add (hcell i hi) ?_
      rcases hsp with h | h
      · exact h
      · omega
    have hcl1 : ∀ i, i < zs.length → w.cell? ⟨b, o + i * 1, none⟩ = some (.int .u8 (zs.getD i 0)) := by
      intro i hi
      rw [Nat.mul_one]
      exact hcl i hi
    have := Rep.view (ι := fun _ => none) (S := fun b => b < w.heap.size) (T := fun _ => False) (w := w) 1 (bs.map AVal.byte) false false b o c sp (fun i _ => .int .u8 (zs.getD i 0)) hsp (by simp [hlen]; omega) (by simp)
      (fun i e he => by
        obtain ⟨hi, rfl⟩ := hget i e he
        exact (lt_of_cell (hcl i (by omega))).1)
      (fun i e he => by
        obtain ⟨hi, rfl⟩ := hget i e he
        rfl)
      (fun i e he => by
        obtain ⟨hi, rfl⟩ := hget i e he
        rfl)
      (fun i e j y he hy => by
        obtain ⟨hi, rfl⟩ := hget i e he
        match j, hy with
        | 0, _ => exact hcl1 i (by omega)
        | j + 1, hy => simp [AVal.cells] at hy)
      (fun i e j y he hy => by
        obtain ⟨hi, rfl⟩ := hget i e he
        match j, hy with
        | 0, hy =>
          simp [AVal.cells] at hy
          subst hy
          exact .int _ _
        | j + 1, hy => simp [AVal.cells] at hy)
    refine ⟨.mk false false bs, _, hcs, ?_, rfl, ?_⟩
    · rw [List.length_map, hlen] at this
      exact this
    · simp only [BS.l, hlen]
      omega
structure EntW (e : Ent) : Prop where
  kind : -9223372036854775808 ≤ e.kind ∧ e.kind ≤ 9223372036854775807
  mode : -9223372036854775808 ≤ e.mode ∧ e.mode ≤ 9223372036854775807
  uid : -9223372036854775808 ≤ e.uid ∧ e.uid ≤ 9223372036854775807
  gid : -9223372036854775808 ≤ e.gid ∧ e.gid ≤ 9223372036854775807
  time : -9223372036854775808 ≤ e.time ∧ e.time ≤ 9223372036854775807
  path : e.path.length ≤ 140737488351232
  link : e.link.length ≤ 140737488351232
  data : e.data.l.length ≤ 140737488351232
  tmp : e.data.isTmp = false
theorem ent_of (hw : Light x.1 36) (h : DataW.trod enc Tryz.prog w 0 (fun _ => true) true n 36 cs = some x) : ∃ e : Ent, cs.length = 8 ∧ EntW e ∧ ∀ (j : Nat) (c : AVal) (v : Value), e.av.cells[j]? = some c → cs[j]? = some v → RepW w c v := by
  obtain ⟨xs, m, _, hx, hl, hxl, hf⟩ := DataW.trod_struct Tryz.underlying36 h
  have h8 : Tryz.prog.cellsOf 36 = 8 := by kernel_rfl
  have h9 : Tryz.prog.cellsOf 9 = 1 := by kernel_rfl
  have h3 : Tryz.prog.cellsOf 3 = 1 := by kernel_rfl
  have h26 : Tryz.prog.cellsOf 26 = 1 := by kernel_rfl
  rw [h8] at hl
  match cs, hl, xs, hxl with
  | [c0, c1, c2, c3, c4, c5, c6, c7], _, [y0, y1, y2, y3, y4, y5, y6, y7], _ =>
    have hws : (DataW.agg [y0.1, y1.1, y2.1, y3.1, y4.1, y5.1, y6.1, y7.1] : DataW H).weights Tryz.prog 36 = y0.1.weights Tryz.prog 9 ++ (y1.1.weights Tryz.prog 3 ++ (y2.1.weights Tryz.prog 3 ++ (y3.1.weights Tryz.prog 3 ++ (y4.1.weights Tryz.prog 3 ++ (y5.1.weights Tryz.prog 3 ++ (y6.1.weights Tryz.prog 9 ++ (y7.1.weights Tryz.prog 26 ++ []))))))) := by
      simp only [DataW.weights, Tryz.underlying36, List.map_cons, List.map_nil, DataW.weightsEach]
    have hw8 : ∀ k ∈ y0.1.weights Tryz.prog 9 ++ (y1.1.weights Tryz.prog 3 ++ (y2.1.weights Tryz.prog 3 ++ (y3.1.weights Tryz.prog 3 ++ (y4.1.weights Tryz.prog 3 ++ (y5.1.weights Tryz.prog 3 ++ (y6.1.weights Tryz.prog 9 ++ (y7.1.weights Tryz.prog 26 ++ []))))))), k ≤ reachBytes := by
      rw [← hws]
      intro k hk
      refine hw k ?_
      rw [hx]
      exact hk
    have w0 : Light y0.1 9 := fun k hk => hw8 k (by simp [hk])
    have w6 : Light y6.1 9 := fun k hk => hw8 k (by simp [hk])
    have w7 : Light y7.1 26 := fun k hk => hw8 k (by simp [hk])
    have g0 := hf 0 _ rfl
    have g1 := hf 1 _ rfl
    have g2 := hf 2 _ rfl
    have g3 := hf 3 _ rfl
    have g4 := hf 4 _ rfl
    have g5 := hf 5 _ rfl
    have g6 := hf 6 _ rfl
    have g7 := hf 7 _ rfl
    simp only [h9, h3, h26, List.drop_zero, List.drop_succ_cons, List.take_succ_cons, List.take_zero, List.getElem?_cons_zero, List.getElem?_cons_succ] at g0 g1 g2 g3 g4 g5 g6 g7
    obtain ⟨p, v0, e0, r0, b0⟩ := str_of w0 g0
    obtain ⟨k, v1, e1, r1, b1⟩ := int_of g1
    obtain ⟨md, v2, e2, r2, b2⟩ := int_of g2
    obtain ⟨u, v3, e3, r3, b3⟩ := int_of g3
    obtain ⟨gd, v4, e4, r4, b4⟩ := int_of g4
    obtain ⟨t, v5, e5, r5, b5⟩ := int_of g5
    obtain ⟨lk, v6, e6, r6, b6⟩ := str_of w6 g6
    obtain ⟨d, v7, e7, r7, b7, b8⟩ := bytes_of w7 g7
    cases e0; cases e1; cases e2; cases e3; cases e4; cases e5; cases e6; cases e7
    refine ⟨⟨p, k, md, u, gd, t, lk, d⟩, rfl, ⟨b1, b2, b3, b4, b5, b0, b6, b8, b7⟩, fun j c v hc hv => ?_⟩
    match j, hc, hv with
    | 0, hc, hv => cases hc; cases hv; exact r0
    | 1, hc, hv => cases hc; cases hv; exact r1
    | 2, hc, hv => cases hc; cases hv; exact r2
    | 3, hc, hv => cases hc; cases hv; exact r3
    | 4, hc, hv => cases hc; cases hv; exact r4
    | 5, hc, hv => cases hc; cases hv; exact r5
    | 6, hc, hv => cases hc; cases hv; exact r6
    | 7, hc, hv => cases hc; cases hv; exact r7
    | j + 8, hc, hv => cases hv
instance : Inhabited Ent := ⟨⟨[], 0, 0, 0, 0, 0, [], .nil⟩⟩
/-- a list of entries: nil, or a row -/
def esAv : Option (List Ent) → AVal
  | none => .lit (.slice none 0 0)
  | some t => .view 8 (t.map Ent.av) false false
def esL : Option (List Ent) → List Ent
  | none => []
  | some t => t
theorem weightsAll_mem : ∀ (l : List (DataW H)) (t : TypeId) (d : DataW H), d ∈ l → ∀ k ∈ d.weights Tryz.prog t, k ∈ DataW.weightsAll Tryz.prog t l
  | [], _, d, hd => by cases hd
  | a :: r, t, d, hd => by
    intro k hk
    simp only [DataW.weightsAll, List.mem_append]
    rcases List.mem_cons.1 hd with rfl | hd
    · exact .inl hk
    · exact .inr (weightsAll_mem r t d hd k hk)
theorem ents_of (hw : Light x.1 22) (h : DataW.trod enc Tryz.prog w 0 (fun _ => true) true n 22 cs = some x) : ∃ (t : Option (List Ent)) (v : Value), cs = [v] ∧ RepW w (esAv t) v ∧ (∀ e ∈ esL t, EntW e) ∧ (esL t).length ≤ 140737488351232 := by
  rcases open_slice Tryz.underlying22 h with ⟨hcs, _⟩ | ⟨a, len, cap, m, n', D, Pl, hcs, _, hl, hm, hmm, hx, hi⟩
  · exact ⟨none, _, hcs, .lit _, by simp [esL], by simp [esL]⟩
  · have h8 : Tryz.prog.cellsOf 36 = 8 := by kernel_rfl
    simp only [if_true] at hmm
    subst hmm
    rw [h8] at hi
    have hb : Tryz.prog.bytesOf 36 = 96 := by kernel_rfl
    have hws : x.1.weights Tryz.prog 22 = (((List.range len).map D).length + ((List.range (m - len)).map fun j => D (len + j)).length) * 96 :: (DataW.weightsAll Tryz.prog 36 ((List.range len).map D) ++ DataW.weightsAll Tryz.prog 36 ((List.range (m - len)).map fun j => D (len + j))) := by
      rw [hx]
      simp only [DataW.weights, Tryz.underlying22, hb]
    have hm96 : m * 96 ≤ 140737488351232 := by
      rw [← reach_eq]
      refine hw _ ?_
      rw [hws]
      simp only [List.length_map, List.length_range]
      refine List.mem_cons.2 (.inl ?_)
      congr 1
      omega
    have hwD : ∀ i, i < m → Light (D i) 36 := by
      intro i him k hk
      refine hw k ?_
      rw [hws]
      refine List.mem_cons.2 (.inr (List.mem_append.2 ?_))
      by_cases hil : i < len
      · exact .inl (weightsAll_mem _ _ _ (List.mem_map.2 ⟨i, List.mem_range.2 hil, rfl⟩) k hk)
      · refine .inr (weightsAll_mem _ _ (D i) (List.mem_map.2 ⟨i - len, List.mem_range.2 (by omega), ?_⟩) k hk)
        show D (len + (i - len)) = D i
        congr 1
        omega
    obtain ⟨V, hV⟩ := choose_lt (α := Ent × List Value) (n := m) (p := fun i z => w.cells? 0 (a.add (i * 8)) 8 = some z.2 ∧ z.2.length = 8 ∧ EntW z.1 ∧ ∀ (j : Nat) (c : AVal) (v : Value), z.1.av.cells[j]? = some c → z.2[j]? = some v → RepW w c v) (fun i him => by
      obtain ⟨cs', h1, h2⟩ := hi i him
      obtain ⟨e, e1, e2, e3⟩ := ent_of (hwD i him) h2
      exact ⟨(e, cs'), h1, e1, e2, e3⟩)
    obtain ⟨b, o, sp⟩ := a
    have hsp : sp = none ∨ m = 0 := by
      rcases Nat.eq_zero_or_pos m with h0 | h0
      · exact .inr h0
      · obtain ⟨h1, h2, _⟩ := hV 0 h0
        obtain ⟨_, _, h3⟩ := World.cells?_some h1
        have h4 := h3 0 (by omega)
        rw [List.getElem?_eq_getElem (by omega)] at h4
        exact .inl (by simpa [Addr.add] using (lt_of_cell h4).2)
    let t := (List.range len).map fun i => (V i).1
    have hlen : t.length = len := by simp [t]
    have hget : ∀ (i : Nat) (e : AVal), (t.map Ent.av)[i]? = some e → i < len ∧ e = (V i).1.av := by
      intro i e he
      have hi : i < len := by
        have := (List.getElem?_eq_some_iff.1 he).1
        simpa [hlen] using this
      refine ⟨hi, ?_⟩
      simp [t, hi] at he
      exact he.symm
    have hcell : ∀ (i j : Nat), i < len → j < 8 → w.cell? ⟨b, o + i * 8 + j, none⟩ = some ((V i).2.getD j undef) := by
      intro i j hi hj
      obtain ⟨h1, h2, _⟩ := hV i (by omega)
      obtain ⟨_, _, h3⟩ := World.cells?_some h1
      have h4 := h3 j hj
      have hs : sp = none := by
        rcases hsp with h | h
        · exact h
        · omega
      subst hs
      rw [Addr.add_none, Addr.add_none] at h4
      rw [h4, List.getD, List.getElem?_eq_getElem (by omega)]
      rfl
    have hcn : ∀ e : Ent, e.av.cells.length = 8 := fun _ => rfl
    have := Rep.view (ι := fun _ => none) (S := fun b => b < w.heap.size) (T := fun _ => False) (w := w) 8 (t.map Ent.av) false false b o m sp (fun i j => (V i).2.getD j undef) hsp (by simp [hlen]; omega) (by simp)
      (fun i e he => by
        obtain ⟨hi, rfl⟩ := hget i e he
        exact (lt_of_cell (hcell i 0 hi (by omega))).1)
      (fun i e he => by
        obtain ⟨hi, rfl⟩ := hget i e he
        rfl)
      (fun i e he => by
        obtain ⟨hi, rfl⟩ := hget i e he
        have ht := (hV i (by omega)).2.2.1.tmp
        have hf : (V i).1.data.av.flat = true := by rw [flat_bs, ht]; rfl
        simp only [AVal.closed, cells_ent, List.all_cons, List.all_nil, flat_str, flat_int, hf, Bool.and_true])
      (fun i e j y he hy => by
        obtain ⟨hi, rfl⟩ := hget i e he
        have hj : j < 8 := by
          have := (List.getElem?_eq_some_iff.1 hy).1
          rwa [hcn] at this
        exact hcell i j hi hj)
      (fun i e j y he hy => by
        obtain ⟨hi, rfl⟩ := hget i e he
        have hj : j < 8 := by
          have := (List.getElem?_eq_some_iff.1 hy).1
          rwa [hcn] at this
        obtain ⟨_, h2, _, h4⟩ := hV i (by omega)
        refine h4 j y _ hy ?_
        rw [List.getD, List.getElem?_eq_getElem (by omega)]
        rfl)
    refine ⟨some t, _, hcs, ?_, ?_, ?_⟩
    · rw [List.length_map, hlen] at this
      exact this
    · intro e he
      simp only [esL, t, List.mem_map, List.mem_range] at he
      obtain ⟨i, hi, rfl⟩ := he
      exact (hV i (by omega)).2.2.1
    · simp only [esL, hlen]
      omega
end
end Go.Abs
namespace Go.Abs
open Am
set_option maxRecDepth 10000
set_option linter.unusedSimpArgs false
theorem large_small : ∀ (t : List Ent) (n : Int), 0 ≤ n → largeB n t = false → n + 512 * t.length ≤ 65536 + (if t = [] then n else 0) ∧ ∀ e ∈ t, e.data.l.length ≤ 65536 ∧ e.path.length ≤ 65536 ∧ e.link.length ≤ 65536
  | [], n, _, _ => by simp; omega
  | e :: t, n, h0, h => by
    unfold largeB at h
    by_cases hc : 65536 < n + (512 + (e.data.l.length : Int) + e.path.length + e.link.length)
    · rw [if_pos hc] at h; cases h
    rw [if_neg hc] at h
    obtain ⟨h1, h2⟩ := large_small t _ (by omega) h
    refine ⟨?_, fun x hx => ?_⟩
    · simp only [List.length_cons, reduceCtorEq, if_false]
      split at h1
      · rename_i ht
        subst ht
        simp
        omega
      · omega
    · rcases List.mem_cons.1 hx with rfl | hx
      · omega
      · exact h2 x hx
theorem large_len {t : List Ent} (h : largeB 0 t = false) : t.length ≤ 128 := by
  have := (large_small t 0 (by omega) h).1
  split at this <;> omega
theorem entL_of {e : Ent} (h : EntW e) : EntL e := ⟨h.path, h.link, h.data⟩
theorem entOk_of {e : Ent} (h : EntW e) (h1 : e.data.l.length ≤ 65536 ∧ e.path.length ≤ 65536 ∧ e.link.length ≤ 65536) : EntOk e := ⟨by omega, by omega, by omega, h.tmp⟩
end Go.Abs
namespace Go.Abs
open Am
set_option maxRecDepth 10000
set_option linter.unusedSimpArgs false
theorem sl_own_both {sz id z off len : Nat} {k k' : IntKind} {i j : Int} : aSlice sz (.own id z off len false) (some (.int k i)) (some (.int k' j)) none = if 0 ≤ i ∧ i ≤ j ∧ j ≤ len ∧ z = sz then some (.own id z (off + i.toNat) (j.toNat - i.toNat) false) else none := by
  by_cases h0 : 0 ≤ i
  · by_cases h1 : 0 ≤ j
    · rw [sl_own (a := i.toNat) (c := j.toNat) (by simp [natOr, toNat?, h0]) (by simp [natOr, toNat?, h1])]
      simp only [true_or, and_true]
      have : (i.toNat ≤ j.toNat ∧ j.toNat ≤ len ∧ z = sz) = (0 ≤ i ∧ i ≤ j ∧ j ≤ len ∧ z = sz) := by
        apply propext
        constructor
        · rintro ⟨a, b, c⟩; exact ⟨h0, by omega, by omega, c⟩
        · rintro ⟨a, b, c, d⟩; exact ⟨by omega, by omega, d⟩
      exact (ite_congr this (fun _ => rfl) (fun _ => rfl))
    · have hf : ¬ (0 ≤ i ∧ i ≤ j ∧ j ≤ len ∧ z = sz) := by omega
      rw [if_neg hf]
      simp [aSlice, bounds, natOr, toNat?, h1, h0]
  · simp [aSlice, bounds, natOr, toNat?, h0]
theorem ldE_head {e : AVal} {r : List AVal} {o sz : Nat} {agg : Bool} {h : Heap} : ldE (e :: r) 0 o sz agg h = (part e.cells o sz agg).map (·, h) := rfl
end Go.Abs
namespace Go.Abs
open Am
set_option maxRecDepth 100000
set_option linter.unusedSimpArgs false
def helloL : List UInt8 := [104, 101, 108, 108, 111]
def eA : Ent := ⟨[97], 2, 0, 0, 0, 0, [], .mk false false helloL⟩
def wA : List UInt8 := writeL [eA]
theorem checkA : (checkT [eA]).2 = 0 := by decide +kernel
theorem recsA : recsE eA = [] := by
  unfold recsE rst3 rst4 rst5 rst6 rst7
  have h1 : idB eA.gid = true := idB_iff.2 ⟨by decide, by decide⟩
  have h2 : linkE eA.link = true := rfl
  have h3 : timeB eA.time = true := timeB_iff.2 ⟨by decide, by decide⟩
  have h4 : (splitN eA.path).2.2 = true := by decide
  have h5 : idB eA.uid = true := idB_iff.2 ⟨by decide, by decide⟩
  rw [h1, h2, h3, h4, h5]
  rfl
theorem wA_eq : wA = encB (hdrE eA []) ++ (helloL ++ (List.replicate 507 0 ++ zeros1024)) := by
  unfold wA writeL outL pieceL preE
  rw [recsA, if_pos rfl]
  simp only [outL, List.nil_append, List.append_nil, List.append_assoc]
  rfl
theorem lenA : wA.length = 2048 := by
  rw [wA_eq]
  simp only [List.length_append, encB_length, zeros1024_length, List.length_replicate]
  rfl
theorem helloA : (wA.drop 512).take 5 = helloL := by
  rw [wA_eq, List.drop_left' (encB_length _), List.take_left' (show helloL.length = 5 from rfl)]
theorem readA (c t : Bool) : readE (.mk c t wA) = some [rdEnt eA] := readE_writeL c t checkA
set_option maxHeartbeats 4000000 in
theorem s14 : callT AA 14 [] [] = some (.bool true, []) := by
  have h17 : ∀ c t, callT AA 17 [.view 8 [.agg [.str [97], .int .i64 2, .int .i64 0, .int .i64 0, .int .i64 0, .int .i64 0, .str [], .view 1 [.int .u8 104, .int .u8 101, .int .u8 108, .int .u8 108, .int .u8 111] false false]] c t] [] = some (.tuple [.own 0 1 0 2048 false, .lit .nilIface], [(0, .row (wA.map .byte) 1)]) := by
    intro c t
    have h := w17 c t [eA] (by simp) (by simp) (by
      intro e he
      rw [List.mem_singleton.1 he]
      exact ⟨by decide, by decide, helloL, rfl, by decide⟩) (by rw [checkT_map Ent.cp same_cp]; exact checkA)
    rw [show writeL [eA] = wA from rfl, lenA] at h
    exact h
  have h24 : ∀ c t, callT AA 24 [.view 1 (wA.map .byte) c t] [] = some (.tuple [.own 0 8 0 1 false, .lit .nilIface], [(0, .row [.agg [.str [97], .int .i64 2, .int .i64 0, .int .i64 0, .int .i64 0, .int .i64 0, .str [], .view 1 (helloL.map .byte) false false]] 8)]) := by
    intro c t
    have h := s24 (.mk c t wA) (by simp only [BS.l]; rw [lenA]; omega)
    rw [readA] at h
    exact h
  have et : (wA.map AVal.byte).take 2048 = wA.map .byte := List.take_of_length_le (by rw [List.length_map, lenA]; omega)
  have hd : List.take 5 (List.drop 512 (wA.map AVal.byte)) = helloL.map .byte := by
    rw [← List.map_drop, ← List.map_take, helloA]
  have hh : decide (helloL = [104, 101, 108, 108, 111]) = true := rfl
  have h97 : decide (([97] : List UInt8) = [97]) = true := rfl
  have hl : (wA.map AVal.byte).length = 2048 := by rw [List.length_map, lenA]
  generalize wA = W at *
  refine enter fn14 np14 rfl ?_
  have gg := trivial; repeat' first | simp (maxSteps := 2000000) (disch := omega) only [gg, b14, h17, h24, et, hd, hh, h97, hl, sl_own_both, ldE_head, go_sem] | (refine br ?_ ?_ <;> intro gg <;> try (exfalso; omega)) | (refine And.intro ?_ ?_; focus omega) | omega
end Go.Abs
namespace Go.Abs
def b19 : AFn := ⟨1, 19, [(2, none)], (.seq (rg [oo 2 (.mov (ci 0))]) (.seq (.seq (rg [mv 5 0, oo 6 (.bin .eql (.iface [58]) true (.t 5) (.c (.lit .nilIface)))]) (.cond (.t 6) (.seq (rg [oo 2 (.mov (ci 0))]) .ret) .skip)) (.seq (rg [mv 8 0, oo 9 (.tass 58 true (.int .i64 0) (.t 8)), mv 7 9, oo 10 (.ext (.t 7) 0), oo 11 (.ext (.t 7) 1), mv 3 10, mv 4 11]) (.seq (.seq (rg [mv 12 4, oo 13 (.un .not (.t 12)), mv 14 13, og 15 (.mov (.t 3)) 14 false, og 16 (.bin .eql .other true (.t 15) (ci 0)) 14 false, oo 17 (.pick (.t 14) (.c (.bool true)) (.t 16))]) (.cond (.t 17) (.seq (rg [oo 2 (.mov (.c (.int .i64 (-1))))]) .ret) .skip)) (.seq (rg [mv 18 3, mv 2 18]) .ret)))))⟩
theorem fn19 : AA.fn 19 = some b19 := by kernel_rfl
theorem np19 : AA.prim 19 = none := rfl
def l5_0 : ACode := (.seq (rg [oo 59 (.bin .lss .other false (.t 58) (.t 57))]) (.seq (.cond (.t 59) .skip (.exit 0)) (.seq (.block 1 (.seq (rg [oo 60 (.ixa 1 (.t 56) (.t 58)), oo 61 (.ld 1 false (.t 60)), mv 13 61]) (.seq (rg [mv 62 13, mv 63 11, oo 64 (.minmax true (.t 62) (.t 63)), mv 65 0, oo 66 (.len 1 (.t 65)), oo 67 (.minmax false (.t 64) (.t 66)), mv 14 67]) (.seq (rg [mv 69 9, mv 70 0, mv 71 11, mv 72 14, oo 73 (.slc 8 (.t 70) (some (.t 71)) (some (.t 72)) none), cl 74 29 [(.t 69), (.t 73)], mv 68 74, oo 75 (.ext (.t 68) 0), oo 76 (.ext (.t 68) 1), mv 15 75, mv 16 76]) (.seq (.seq (rg [mv 77 16, oo 78 (.bin .neq (.iface [58]) true (.t 77) (.c (.lit .nilIface))), mv 79 78, og 80 (.mov (.t 9)) 79 false, og 81 (.call (.c (.func (.func 30) [])) [(.t 80)]) 79 false, og 82 (.mov (.t 14)) 79 false, og 83 (.bin .neq .other false (.t 81) (.t 82)) 79 false, oo 84 (.pick (.t 79) (.c (.bool true)) (.t 83))]) (.cond (.t 84) (.seq (rg [oo 6 (.mov (.c (.bool false)))]) .ret) .skip)) (.seq (rg [mv 85 10, mv 86 15, oo 87 (.app 1 1 (.t 85) (.t 86)), mv 10 87]) (.seq (rg [mv 88 14, mv 11 88]) (.seq (.reg true [(0, 1), (0, 2), (0, 3), (0, 5), (1, 5), (2, 5), (3, 5), (4, 5), (0, 6), (1, 6), (2, 6), (3, 6), (4, 6), (5, 6), (0, 7), (1, 7), (2, 7), (3, 7), (4, 7)] [oo 90 (.bslice 8 0 [(.str []), (.int .i64 0), (.int .i64 0), (.int .i64 0), (.int .i64 0), (.int .i64 0), (.str []), (.lit (.slice none 0 0))] []), mv 91 0, mv 92 11, oo 93 (.slc 8 (.t 91) none (some (.t 92)) none), oo 94 (.app 96 8 (.t 90) (.t 93)), oo 95 (.ld 8 true (.t 5)), oo 96 (.ld 8 true (.t 5)), oo 97 (.bslice 8 2 [(.str []), (.int .i64 0), (.int .i64 0), (.int .i64 0), (.int .i64 0), (.int .i64 0), (.str []), (.lit (.slice none 0 0))] [(.t 95), (.t 96)]), oo 98 (.app 96 8 (.t 94) (.t 97)), cl 99 31 [(.t 98)], mv 89 99, oo 100 (.ext (.t 89) 0), oo 101 (.ext (.t 89) 1), mv 17 100, mv 18 101]) (.seq (rg [mv 103 9, oo 104 (.ld 8 true (.t 5)), oo 105 (.ld 8 true (.t 5)), oo 106 (.bslice 8 2 [(.str []), (.int .i64 0), (.int .i64 0), (.int .i64 0), (.int .i64 0), (.int .i64 0), (.str []), (.lit (.slice none 0 0))] [(.t 104), (.t 105)]), cl 107 29 [(.t 103), (.t 106)], mv 102 107, oo 108 (.ext (.t 102) 0), oo 109 (.ext (.t 102) 1), mv 15 108, mv 16 109]) (.seq (rg [mv 110 18, oo 111 (.bin .eql (.iface [58]) true (.t 110) (.c (.lit .nilIface))), mv 112 111, og 113 (.mov (.t 16)) 112 false, og 114 (.call (.c (.func (.func 19) [])) [(.t 113)]) 112 false, og 115 (.mov (.t 18)) 112 false, og 116 (.call (.c (.func (.func 19) [])) [(.t 115)]) 112 false, og 117 (.bin .neq .other false (.t 114) (.t 116)) 112 false, oo 118 (.pick (.t 112) (.c (.bool true)) (.t 117)), mv 119 118, og 120 (.mov (.t 15)) 119 false, og 121 (.len 1 (.t 120)) 119 false, og 122 (.bin .neq .other true (.t 121) (ci 0)) 119 false, oo 123 (.pick (.t 119) (.c (.bool true)) (.t 122)), mv 124 123, og 125 (.mov (.t 9)) 124 false, og 126 (.call (.c (.func (.func 30) [])) [(.t 125)]) 124 false, og 127 (.mov (.t 11)) 124 false, og 128 (.bin .neq .other false (.t 126) (.t 127)) 124 false, oo 129 (.pick (.t 124) (.c (.bool true)) (.t 128))]) (.cond (.t 129) (.seq (rg [oo 6 (.mov (.c (.bool false)))]) .ret) .skip))))))))))) (rg [oo 130 (.bin .add .other true (.t 58) (ci 1)), mv 58 130]))))
def r5_0 : ACode := (.seq (rg [mv 131 10, mv 132 9, cl 133 32 [(.t 132)], oo 134 (.app 1 1 (.t 131) (.t 133)), mv 10 134]) (.seq (rg [mv 135 10, oo 136 (.cvbs (.t 135)), mv 137 7, oo 138 (.cvbs (.t 137)), oo 139 (.bin .eql .other false (.t 136) (.t 138)), mv 140 139, og 141 (.mov (.t 9)) 140 true, og 142 (.call (.c (.func (.func 30) [])) [(.t 141)]) 140 true, og 143 (.bin .eql .other true (.t 142) (ci 0)) 140 true, oo 144 (.pick (.t 140) (.t 143) (.c (.bool false))), mv 6 144]) .ret))
def b5 : AFn := ⟨3, 145, [(6, none)], (.seq (rg [oo 5 (.box (.t 2)), oo 6 (.mov (.c (.bool false)))]) (.seq (.seq (rg [cl 19 14 [], oo 20 (.un .not (.t 19))]) (.cond (.t 20) (.seq (rg [oo 6 (.mov (.c (.bool false)))]) .ret) .skip)) (.seq (.seq (rg [mv 21 0, cl 22 15 [(.t 21)], mv 23 22, og 24 (.fa 7 (.t 5)) 23 false, og 25 (.ld 1 false (.t 24)) 23 false, og 26 (.len 1 (.t 25)) 23 false, og 27 (.bin .gtr .other true (.t 26) (ci 4096)) 23 false, oo 28 (.pick (.t 23) (.c (.bool true)) (.t 27)), mv 29 28, og 30 (.fa 0 (.t 5)) 29 false, og 31 (.ld 1 false (.t 30)) 29 false, og 32 (.len 0 (.t 31)) 29 false, og 33 (.bin .gtr .other true (.t 32) (ci 4096)) 29 false, oo 34 (.pick (.t 29) (.c (.bool true)) (.t 33))]) (.cond (.t 34) (.seq (rg [oo 6 (.mov (.c (.bool true)))]) .ret) .skip)) (.seq (rg [mv 36 0, cl 37 17 [(.t 36)], mv 35 37, oo 38 (.ext (.t 35) 0), oo 39 (.ext (.t 35) 1), mv 7 38, mv 8 39]) (.seq (rg [cl 40 28 [], mv 9 40]) (.seq (.seq (rg [mv 41 8, oo 42 (.bin .neq (.iface [58]) true (.t 41) (.c (.lit .nilIface))), mv 43 42, og 44 (.mov (.t 9)) 43 false, og 45 (.bin .eql .ptr true (.t 44) (.c (.lit (.pointer none)))) 43 false, oo 46 (.pick (.t 43) (.c (.bool true)) (.t 45))]) (.cond (.t 46) (.seq (rg [mv 47 8, oo 48 (.bin .neq (.iface [58]) true (.t 47) (.c (.lit .nilIface))), mv 6 48]) .ret) .skip)) (.seq (rg [oo 49 (.bslice 1 0 [(.int .u8 0)] []), mv 10 49]) (.seq (rg [oo 11 (.mov (ci 0))]) (.seq (.seq (rg [oo 50 (.bslice 1 0 [(.int .i64 0)] []), mv 51 1, oo 52 (.app 8 1 (.t 50) (.t 51)), mv 53 0, oo 54 (.len 1 (.t 53)), oo 55 (.bslice 1 1 [(.int .i64 0)] [(.t 54)]), oo 56 (.app 8 1 (.t 52) (.t 55)), oo 57 (.len 1 (.t 56)), oo 58 (.mov (ci 0))]) (.block 0 (.loop [0, 5, 6, 7, 9, 10, 11, 56, 57, 58] l5_0))) r5_0)))))))))⟩
end Go.Abs
namespace Go.Abs
open Am Lib
set_option maxRecDepth 100000
set_option linter.unusedSimpArgs false
theorem s19w (n : Int) (hn : n ≠ 0) : callT AA 19 [.iface 58 (.int .i64 n)] [] = some (.int .i64 n, []) := by
  refine enter fn19 np19 rfl ?_
  have gg := trivial; repeat' first | simp (maxSteps := 2000000) (disch := omega) only [gg, b19, go_sem] | (refine br ?_ ?_ <;> intro gg <;> try (exfalso; omega)) | (refine And.intro ?_ ?_; focus omega) | omega
theorem s19z : callT AA 19 [.lit .nilIface] [] = some (.int .i64 0, []) := by
  refine enter fn19 np19 rfl ?_
  have gg := trivial; repeat' first | simp (maxSteps := 2000000) (disch := omega) only [gg, b19, go_sem] | (refine br ?_ ?_ <;> intro gg <;> try (exfalso; omega)) | (refine And.intro ?_ ?_; focus omega) | omega
set_option maxHeartbeats 4000000 in
theorem h3_0 (c tmp : Bool) (t : List Ent) (n i : Int) (rs : List Rcd) (L : Int) (q : Nat) (hq : q = rs.length) (hL : L = rs.length) (hl : rs.length ≤ 1000) (S : List Frame) (F : FinP)
    (K : ∀ m : Nat, RT AA 0 .norm ⟨[.junk, .junk, .bool false, .junk, .junk, .junk, .junk, .junk, .junk, .junk, .own 0 2 0 q false, .own 1 2 0 q false, .junk, .junk, .junk, .junk, .junk, .junk, .junk, .junk, .junk, .junk, .junk, .junk, .junk, .junk, .junk, .junk, .junk, .junk, .junk, .junk, .junk, .junk, .junk, .junk, .junk, .junk, .junk, .junk, .junk, .junk, .junk, .junk, .junk, .junk, .view 8 (t.map Ent.av) c tmp, .int .i64 n, .int .i64 i, .junk, .junk, .junk, .junk, .junk, .junk, .junk, .junk, .junk, .junk, .junk, .junk, .junk, .int .i64 L, .int .i64 L, .bool false, .junk, .junk, .junk, .junk, .junk, .junk, .junk, .junk, .junk, .junk, .junk, .junk], [(0, .row (rs.map Rcd.av) 2), (1, .row (rs.map Rcd.av) 2)], m⟩ S F) : ∀ (k : Nat) (j : Int), 0 ≤ j → j + k = rs.length →
    HD AA 0 [2, 10, 11, 46, 47, 48, 62, 63] l3_0 ⟨[.junk, .junk, .bool false, .junk, .junk, .junk, .junk, .junk, .junk, .junk, .own 0 2 0 q false, .own 1 2 0 q false, .junk, .junk, .junk, .junk, .junk, .junk, .junk, .junk, .junk, .junk, .junk, .junk, .junk, .junk, .junk, .junk, .junk, .junk, .junk, .junk, .junk, .junk, .junk, .junk, .junk, .junk, .junk, .junk, .junk, .junk, .junk, .junk, .junk, .junk, .view 8 (t.map Ent.av) c tmp, .int .i64 n, .int .i64 i, .junk, .junk, .junk, .junk, .junk, .junk, .junk, .junk, .junk, .junk, .junk, .junk, .junk, .int .i64 L, .int .i64 j, .junk, .junk, .junk, .junk, .junk, .junk, .junk, .junk, .junk, .junk, .junk, .junk, .junk], [(0, .row (rs.map Rcd.av) 2), (1, .row (rs.map Rcd.av) 2)], 2⟩ (.blk 2 :: S) F
  | 0, j, h0, h1 => by
    have hj : j = L := by omega
    subst hj
    refine hd_of (by unfold l3_0; rfl) ?_
    dsimp only at K
    have gg := trivial; repeat' first | simp (maxSteps := 2000000) (disch := omega) only [gg, go_sem] | (refine br ?_ ?_ <;> intro gg <;> try (exfalso; omega)) | (refine And.intro ?_ ?_; focus omega) | omega
    exact K 34
  | k + 1, j, h0, h1 => by
    have ih := h3_0 c tmp t n i rs L q hq hL hl S F K k (j + 1) (by omega) (by omega)
    have hx : rs[j.toNat]? = some (rs[j.toNat]'(by omega)) := List.getElem?_eq_getElem _
    generalize rs[j.toNat]'(by omega) = x at *
    refine hd_of (by unfold l3_0; rfl) ?_
    have gg := trivial; repeat' first | simp (maxSteps := 2000000) (disch := omega) only [gg, hx, Nat.zero_add, lp_head, go_sem] | (refine br ?_ ?_ <;> intro gg <;> try (exfalso; omega)) | (refine And.intro ?_ ?_; focus omega) | omega
end Go.Abs
