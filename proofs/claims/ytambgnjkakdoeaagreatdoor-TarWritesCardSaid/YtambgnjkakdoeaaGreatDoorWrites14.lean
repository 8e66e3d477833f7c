/- TarWrites: at every list of entries whatsoever the law TarWrites of the given program answers true: an archive is written as the document's reference writes it, other lists are refused as the reference refuses them, and an entry's records are the reference's. Conditions: none beyond the card's own. -/
import Derived.Test.YtambgnjkakdoeaaGreatDoorWrites13
import Derived.Carry
import Derived.ChangeSame
import Derived.LaidMore
import Derived.Lay
import Derived.Lib.LaidTab
import Derived.Lib.LaidU8T
import Derived.OpenShut
import Derived.ProofKit
import Derived.SevenTiedAt
import Derived.Stop.Joined
import Derived.Test.YtambgnjkakdoeaaGreatDoorCards
import Derived.Test.YtambgnjkakdoeaaGreatDoorTie
import Derived.WideShapes
set_option linter.unusedVariables false
set_option linter.unusedSimpArgs false
set_option linter.unusedSectionVars false
namespace Go.Abs
open Am Lib
set_option maxRecDepth 100000
set_option linter.unusedSimpArgs false
set_option maxHeartbeats 4000000 in
theorem h3_1 (c tmp : Bool) (t : List Ent) (ht : t.length ≤ 1000000) (hb : ∀ e ∈ t, EntB e) (n : Int) (hn : n = t.length) : ∀ (rest done : List Ent) (i : Int), t = done ++ rest → i = done.length →
    HD AA 0 [2, 46, 47, 48] l3_1 ⟨[.junk, .junk, .bool false, .junk, .junk, .junk, .junk, .junk, .junk, .junk, .junk, .junk, .junk, .junk, .junk, .junk, .junk, .junk, .junk, .junk, .junk, .junk, .junk, .junk, .junk, .junk, .junk, .junk, .junk, .junk, .junk, .junk, .junk, .junk, .junk, .junk, .junk, .junk, .junk, .junk, .junk, .junk, .junk, .junk, .junk, .junk, .view 8 (t.map Ent.av) c tmp, .int .i64 n, .int .i64 i, .junk, .junk, .junk, .junk, .junk, .junk, .junk, .junk, .junk, .junk, .junk, .junk, .junk, .junk, .junk, .junk, .junk, .junk, .junk, .junk, .junk, .junk, .junk, .junk, .junk, .junk, .junk, .junk], [], 0⟩ [.blk 0, .code r3_1] (Fin [(2, none)] 0 (.bool true) [])
  | [], done, i, h1, h2 => by
    have hl : t.length = done.length := by rw [h1]; simp
    refine hd_of (by unfold l3_1; rfl) ?_
    have gg := trivial; repeat' first | simp (maxSteps := 2000000) (disch := omega) only [gg, r3_1, go_sem] | (refine br ?_ ?_ <;> intro gg <;> try (exfalso; omega)) | (refine And.intro ?_ ?_; focus omega) | omega
  | e :: rest, done, i, h1, h2 => by
    have hl : t.length = done.length + (rest.length + 1) := by rw [h1]; simp
    have hx : t[i.toNat]? = some e := by
      rw [h1, show i.toNat = done.length by omega]
      simp
    have hbe := hb e (by rw [h1]; simp)
    have ih := h3_1 c tmp t ht hb n hn rest (done ++ [e]) (i + 1) (by rw [h1]; simp) (by simp; omega)
    have h21 := s21 e hbe
    have h22 := s22 e hbe
    have hrl := recsE_length e
    simp only [Ent.av] at h21 h22
    generalize recsE e = rs at *
    cases rs with
    | nil =>
      rw [recV_nil, recH_nil] at h21 h22
      refine hd_of (by unfold l3_1; rfl) ?_
      have gg := trivial; repeat' first | simp (maxSteps := 2000000) (disch := omega) only [gg, hx, h21, h22, lp_head, go_sem] | (refine br ?_ ?_ <;> intro gg <;> try (exfalso; omega)) | (refine And.intro ?_ ?_; focus omega) | omega
      refine hd_of (by unfold l3_0; rfl) ?_
      have gg := trivial; repeat' first | simp (maxSteps := 2000000) (disch := omega) only [gg, r3_0, lp_head, go_sem] | (refine br ?_ ?_ <;> intro gg <;> try (exfalso; omega)) | (refine And.intro ?_ ?_; focus omega) | omega
    | cons r rr =>
      rw [recV_cons, recH_cons] at h21 h22
      have hh := fun S F K => h3_0 c tmp t n i (r :: rr) (rr.length + 1 : Int) (rr.length + 1) rfl (by simp) (by omega) S F K (rr.length + 1) 0 (by omega) (by simp)
      generalize hR : r :: rr = R at *
      have hq : rr.length + 1 = R.length := by rw [← hR]; rfl
      refine hd_of (by unfold l3_1; rfl) ?_
      have gg := trivial; repeat' first | simp (maxSteps := 2000000) (disch := omega) only [gg, hx, h21, h22, lp_head, go_sem] | (refine br ?_ ?_ <;> intro gg <;> try (exfalso; omega)) | (refine And.intro ?_ ?_; focus omega) | omega
      dsimp only at hh ih
      refine hh _ _ fun m => ?_
      have gg := trivial; repeat' first | simp (maxSteps := 2000000) (disch := omega) only [gg, r3_0, lp_head, go_sem] | (refine br ?_ ?_ <;> intro gg <;> try (exfalso; omega)) | (refine And.intro ?_ ?_; focus omega) | omega
theorem bytesOf_nil : bytesOf [] = some [] := rfl
theorem t3_large (t : List Ent) (h15 : callT AA 15 [.view 8 (t.map Ent.av) false false] [] = some (.bool true, [])) : callT AA 3 [.view 8 (t.map Ent.av) false false] [] = some (.bool true, []) := by
  have hs14 := s14
  refine enter fn3 np3 rfl ?_
  have gg := trivial; repeat' first | simp (maxSteps := 2000000) (disch := omega) only [gg, b3, hs14, h15, go_sem] | (refine br ?_ ?_ <;> intro gg <;> try (exfalso; omega)) | (refine And.intro ?_ ?_; focus omega) | omega
theorem t3_nil : callT AA 3 [.lit (.slice none 0 0)] [] = some (.bool true, []) := by
  have hs14 := s14
  have h16 := s16n
  have h18 := s18n
  have h19 := s19z
  have h20 := s20n
  have et := zeros1024_take
  have hz := zeros1024_length
  refine enter fn3 np3 rfl ?_
  have gg := trivial; repeat' first | simp (maxSteps := 2000000) (disch := omega) only [gg, b3, hs14, s15n, h16, s17n, h18, h19, h20, et, hz, List.drop_zero, lp_head, go_sem] | (refine br ?_ ?_ <;> intro gg <;> try (exfalso; omega)) | (refine And.intro ?_ ?_; focus omega) | omega
  refine hd_of (by unfold l3_1; rfl) ?_
  have gg := trivial; repeat' first | simp (maxSteps := 2000000) (disch := omega) only [gg, r3_1, go_sem] | (refine br ?_ ?_ <;> intro gg <;> try (exfalso; omega)) | (refine And.intro ?_ ?_; focus omega) | omega
theorem t3_empty (h15 : callT AA 15 [.view 8 [] false false] [] = some (.bool false, [])) : callT AA 3 [.view 8 [] false false] [] = some (.bool true, []) := by
  have hs14 := s14
  have h16 := s16e false false
  have h17 := s17v false false
  have h18 := s18n
  have h19 := s19z
  have h20 := s20e false false
  have et := zeros1024_take
  have hz := zeros1024_length
  refine enter fn3 np3 rfl ?_
  have gg := trivial; repeat' first | simp (maxSteps := 2000000) (disch := omega) only [gg, b3, hs14, h15, h16, h17, h18, h19, h20, et, hz, List.drop_zero, lp_head, go_sem] | (refine br ?_ ?_ <;> intro gg <;> try (exfalso; omega)) | (refine And.intro ?_ ?_; focus omega) | omega
  refine hd_of (by unfold l3_1; rfl) ?_
  have gg := trivial; repeat' first | simp (maxSteps := 2000000) (disch := omega) only [gg, r3_1, go_sem] | (refine br ?_ ?_ <;> intro gg <;> try (exfalso; omega)) | (refine And.intro ?_ ?_; focus omega) | omega
set_option maxHeartbeats 4000000 in
theorem t3_ok (t : List Ent) (htl : t.length ≤ 128) (hb : ∀ e ∈ t, EntB e) (q p : Nat) (hq : q = t.length) (W : List UInt8) (hp : p = W.length)
    (h15 : callT AA 15 [.view 8 (t.map Ent.av) false false] [] = some (.bool false, []))
    (h16 : callT AA 16 [.view 8 (t.map Ent.av) false false] [] = some (.own 0 8 0 q false, [(0, .row (t.map Ent.rav) 8)]))
    (h17 : callT AA 17 [.view 8 (t.map Ent.av) false false] [] = some (.tuple [.own 0 1 0 p false, .lit .nilIface], [(0, .row (W.map .byte) 1)]))
    (h18 : callT AA 18 [.view 8 (t.map Ent.rav) false true] [] = some (.tuple [.own 0 1 0 p false, .int .i64 0], [(0, .row (W.map .byte) 1)]))
    (h20 : callT AA 20 [.view 8 (t.map Ent.av) false false, .view 8 (t.map Ent.rav) false true] [] = some (.bool true, [])) : callT AA 3 [.view 8 (t.map Ent.av) false false] [] = some (.bool true, []) := by
  have hs14 := s14
  have h19 := s19z
  have et : (W.map AVal.byte).take p = W.map .byte := List.take_of_length_le (by rw [List.length_map]; omega)
  have er : (t.map Ent.rav).take q = t.map Ent.rav := List.take_of_length_le (by rw [List.length_map]; omega)
  have hle : p ≤ W.length := by omega
  have hh := h3_1 false false t (by omega) hb t.length rfl t [] 0 rfl rfl
  dsimp only at hh
  refine enter fn3 np3 rfl ?_
  have gg := trivial; repeat' first | simp (maxSteps := 2000000) (disch := omega) only [gg, b3, hs14, h15, h16, h17, h18, h19, h20, hle, et, er, List.drop_zero, lp_head, go_sem] | (refine br ?_ ?_ <;> intro gg <;> try (exfalso; omega)) | (refine And.intro ?_ ?_; focus omega) | omega
set_option maxHeartbeats 4000000 in
theorem t3_err (t : List Ent) (htl : t.length ≤ 128) (hb : ∀ e ∈ t, EntB e) (q : Nat) (hq : q = t.length) (E : Int) (hE : E ≠ 0)
    (h15 : callT AA 15 [.view 8 (t.map Ent.av) false false] [] = some (.bool false, []))
    (h16 : callT AA 16 [.view 8 (t.map Ent.av) false false] [] = some (.own 0 8 0 q false, [(0, .row (t.map Ent.rav) 8)]))
    (h17 : callT AA 17 [.view 8 (t.map Ent.av) false false] [] = some (.tuple [.lit (.slice none 0 0), .iface 58 (.int .i64 E)], []))
    (h18 : callT AA 18 [.view 8 (t.map Ent.rav) false true] [] = some (.tuple [.lit (.slice none 0 0), .int .i64 E], []))
    (h20 : callT AA 20 [.view 8 (t.map Ent.av) false false, .view 8 (t.map Ent.rav) false true] [] = some (.bool true, [])) : callT AA 3 [.view 8 (t.map Ent.av) false false] [] = some (.bool true, []) := by
  have hs14 := s14
  have h19 := s19w E hE
  have er : (t.map Ent.rav).take q = t.map Ent.rav := List.take_of_length_le (by rw [List.length_map]; omega)
  have hh := h3_1 false false t (by omega) hb t.length rfl t [] 0 rfl rfl
  dsimp only at hh
  refine enter fn3 np3 rfl ?_
  have gg := trivial; repeat' first | simp (maxSteps := 2000000) (disch := omega) only [gg, b3, hs14, h15, h16, h17, h18, h19, h20, bytesOf_nil, er, List.drop_zero, lp_head, go_sem] | (refine br ?_ ?_ <;> intro gg <;> try (exfalso; omega)) | (refine And.intro ?_ ?_; focus omega) | omega
theorem entB_small {e : Ent} (h : EntW e) (h1 : e.data.l.length ≤ 65536 ∧ e.path.length ≤ 65536 ∧ e.link.length ≤ 65536) : EntB e := ⟨h.gid.1, h.gid.2, h.uid.1, h.uid.2, h.time.1, h.time.2, by omega, by omega⟩
theorem s3 (t : Option (List Ent)) (ht : ∀ e ∈ esL t, EntW e) (hl : (esL t).length ≤ 140737488351232) : callT AA 3 [esAv t] [] = some (.bool true, []) := by
  cases t with
  | none => exact t3_nil
  | some t =>
    simp only [esL] at ht hl
    show callT AA 3 [.view 8 (t.map Ent.av) false false] [] = _
    have h15 := s15 false false t hl fun e he => entL_of (ht e he)
    cases hb : largeB 0 t with
    | true =>
      rw [hb] at h15
      exact t3_large t h15
    | false =>
      rw [hb] at h15
      have hlen := large_len hb
      have hsm := (large_small t 0 (by omega) hb).2
      cases t with
      | nil => exact t3_empty h15
      | cons e r =>
        have hq : ∀ x ∈ e :: r, EntOk x := fun x hx => entOk_of (ht x hx) (hsm x hx)
        have hB : ∀ x ∈ e :: r, EntB x := fun x hx => entB_small (ht x hx) (hsm x hx)
        have hq2 : ∀ x ∈ (e :: r).map rdEnt, EntOk x := by
          intro x hx
          obtain ⟨y, hy, rfl⟩ := List.mem_map.1 hx
          have := hq y hy
          exact ⟨this.1, this.2.1, this.2.2.1, rfl⟩
        have h16 := s16 false false e r (by omega) (fun x hx => by have := hsm x hx; omega)
        have h20 := s20 false false false true (e :: r) ((e :: r).map rdEnt) (by omega) (by rw [List.length_map]) (fun i x y hx hy => by
          rw [List.getElem?_map, hx] at hy
          have : y = rdEnt x := by simpa using hy.symm
          rw [this]
          exact same_rd x)
        rw [← rav_eq] at h20
        have hcr : (checkT ((e :: r).map rdEnt)).2 = (checkT ((e :: r).map Ent.cp)).2 := by rw [checkT_map rdEnt same_rd, checkT_map Ent.cp same_cp]
        by_cases hc : (checkT ((e :: r).map Ent.cp)).2 = 0
        · have h17 := s17 false false e r (by omega) hq hc (checkT_pieces hc)
          have h18 := s18 false true ((e :: r).map rdEnt) (by rw [List.length_map]; omega) hq2 (by rw [hcr]; exact hc)
          rw [writeL_rd, ← rav_eq] at h18
          exact t3_ok (e :: r) (by omega) hB _ _ rfl (writeL (e :: r)) rfl h15 h16 h17 h18 h20
        · have h17 := s17no false false e r (by omega) hq hc (fun x hx => by have := hsm x hx; omega)
          have h18 := s18no false true ((e :: r).map rdEnt) (by rw [List.length_map]; omega) hq2 (by rw [hcr]; exact hc)
          rw [hcr, ← rav_eq] at h18
          unfold errV at h17
          rw [if_neg hc] at h17
          exact t3_err (e :: r) (by omega) hB _ rfl _ hc h15 h16 h17 h18 h20
end Go.Abs
namespace Go.Proofs.YtambgnjkakdoeaaGreatDoor
open Go.ChangeShapes Go.WideShapes Go.ChangeAt Go.RowKit Go.Abs
set_option maxRecDepth 100000
theorem ownNone : ownKnob Tryz.prog.godebug = none := by kernel_rfl
theorem laidOut : laidOutB Tryz.prog = true := by kernel_rfl
theorem iface_cells {H : Type} {enc : TypeId × Value → H} {P : Program} {w : World} {base : Nat} {sp : Nat → Bool} {held : Bool} {fuel : Nat} {t : TypeId} {ms : Array (String × TypeId)} {cs : List Value} {x : DataW H × List MemPlace}
    (ht : P.underlying t = some (.interface (ms))) (h : DataW.trod enc P w base sp held fuel t cs = some x) : ∃ v, cs = [v] ∧ (v = .nilIface ∨ ∃ u z, v = .iface u z) := by
  cases fuel with
  | zero => simp [DataW.trod] at h
  | succ fuel =>
    unfold DataW.trod at h
    rw [ht] at h
    split at h <;> first | (rename_i heq; cases heq; done) | skip
    · exact ⟨_, rfl, .inl rfl⟩
    · exact ⟨_, rfl, .inr ⟨_, _, rfl⟩⟩
    · cases h
theorem err_var {W : World} {nm : String} {d : DataW Unit} {k : Nat} (hk : Tryz.prog.globalNamed nm = some k) (ht : (Tryz.prog.globals[k]?).map (·.type) = some 28) (hr : Lib.VarReads Tryz.prog W nm d) :
    ∃ ev, W.cell? ⟨k, 0, none⟩ = some ev ∧ (ev = .nilIface ∨ ∃ te pe, ev = .iface te pe) := by
  obtain ⟨g, t, cs, fuel, p, hg, hty, hvar, hd⟩ := hr
  obtain rfl := Option.some.inj (hk.symm.trans hg)
  obtain rfl := Option.some.inj (ht.symm.trans hty)
  obtain ⟨v, hcs, hv⟩ := iface_cells Tryz.underlying28 hd
  refine ⟨v, ?_, hv⟩
  rw [World.var?_cell hg hvar 0, ← Array.getElem?_toList, hcs]
  rfl
theorem gg_of {W : World} (hL : laidMet Tryz.prog Rows.tarNoneRow.laid W) : GG (fun b => b < W.heap.size) W := by
  have r64 := Lib.laidMet.reads hL (.tail _ (.head _))
  have rpow := Lib.laidMet.reads hL (.tail _ (.tail _ (.head _)))
  have racc := Lib.laidMet.reads hL (.tail _ (.tail _ (.tail _ (.head _))))
  have rran := Lib.laidMet.reads hL (.tail _ (.tail _ (.tail _ (.tail _ (.head _)))))
  have rsyn := Lib.laidMet.reads hL (.tail _ (.tail _ (.tail _ (.tail _ (.tail _ (.head _))))))
  have rfst := Lib.laidMet.reads hL (.tail _ (.tail _ (.tail _ (.tail _ (.tail _ (.tail _ (.head _)))))))
  refine ⟨?_, ?_, err_var (by kernel_rfl) (by kernel_rfl) rsyn, err_var (by kernel_rfl) (by kernel_rfl) rran, fun b hb => ?_⟩
  · obtain ⟨g, t, cs, fuel, p, hg, hty, hvar, hd⟩ := rpow
    obtain rfl := Option.some.inj ((show Tryz.prog.globalNamed "internal/strconv.uint64pow10" = some 1 by kernel_rfl).symm.trans hg)
    obtain rfl := Option.some.inj ((show (Tryz.prog.globals[1]?).map (·.type) = some 247 by kernel_rfl).symm.trans hty)
    have hcs := Lib.cells_of_tab (zs := Lib.pow10Tab) (k := .u64) Tryz.underlying247 Tryz.underlying80 (by kernel_rfl) (by kernel_rfl) hd
    unfold Lib.TabIs
    rw [hvar, ← hcs]
  · exact utf8Tabs_of_readsT (U8Types.of196 Tryz.laysValid) ⟨by kernel_rfl, by kernel_rfl, by kernel_rfl, by kernel_rfl, by kernel_rfl, by kernel_rfl, by kernel_rfl⟩ rfst racc
  · obtain ⟨g, t, cs, fuel, p, hg, hty, hvar, hd⟩ := r64
    obtain rfl := Option.some.inj ((show Tryz.prog.globalNamed "math/bits.deBruijn64tab" = some 7 by kernel_rfl).symm.trans hg)
    have h7 : 7 < W.heap.size := by
      rcases Nat.lt_or_ge 7 W.heap.size with h | h
      · exact h
      · unfold World.var? at hvar
        rw [hg] at hvar
        simp [Array.getElem?_eq_none h] at hvar
    show b < W.heap.size
    omega
end Go.Proofs.YtambgnjkakdoeaaGreatDoor
namespace Go.Abs
open Go.Proofs Go.RowKit Go.ChangeShapes Go.WideShapes Go.Deep
set_option maxRecDepth 100000
section
variable {H : Type} {enc : TypeId × Value → H} {w : World}
theorem entsArg_of {v : Value} {d : DataW H} {p : List MemPlace} {r : Reach} {b0 : Nat} (hw : Light d 22) (hv : Value.okWide Tryz.prog w r b0 22 v) (h : DataW.Trod enc Tryz.prog w 0 (fun _ => true) true 22 v d p) : ∃ t : Option (List Ent), RepW w (esAv t) v ∧ (∀ e ∈ esL t, EntW e) ∧ (esL t).length ≤ 140737488351232 := by
  obtain ⟨a, len, cap, rfl⟩ := okWide_slice Tryz.underlying22 hv
  obtain ⟨m, hm⟩ := h
  obtain ⟨t, v', h1, h2, h3, h4⟩ := ents_of hw hm
  have e : v' = .slice a len cap := by
    have : (Value.slice a len cap).cells.toList = [.slice a len cap] := rfl
    rw [this] at h1
    exact (List.cons.inj h1).1.symm
  subst e
  exact ⟨t, h2, h3, h4⟩
end
end Go.Abs
namespace Go.Proofs.YtambgnjkakdoeaaGreatDoor
open Go.ChangeShapes Go.WideShapes Go.ChangeAt Go.RowKit Go.Abs
set_option maxRecDepth 100000
theorem lifted3 (sX : ∀ t : Option (List Ent), (∀ e ∈ esL t, EntW e) → (esL t).length ≤ 140737488351232 → callT AA 3 [esAv t] [] = some (.bool true, [])) (os : Os) (started : os.Started) (H : Type) (enc : TypeId × Value → H) :
    ReturnsInHanded {} Tryz.checked os 3 .any (fun w args => (Rows.tarWritesSpec.pre enc Tryz.prog Tryz.f3 Rows.tarWritesRow.domain false w args ∧ laidMetH Tryz.prog Rows.tarWritesRow.laid w) ∧ sizedMet enc Tryz.prog Tryz.f3 (OpenSpec.ofChange Rows.tarWritesSpec) false w args)
      (Rows.tarWritesSpec.post enc Tryz.prog Tryz.f3 false true false false) := by
  refine returnsInHanded_of_change_and (C := Tryz.checked) (X := fun w _ => laidMetH Tryz.prog Rows.tarWritesRow.laid w) (fun _ _ _ hh h => h.of_heap hh) ownNone started (by kernel_rfl) Tryz.func3
    (ChangeSpec.witness_shaped (enc := enc) (C := Tryz.checked) (os := os) (X := fun w _ => laidMetH Tryz.prog Rows.tarWritesRow.laid w) false (World.laidAll Tryz.prog os Rows.tarWritesRow.laid) #[.slice none 0 0] 8 (World.laidAll_os _ _ _)
      (World.shaped_of_ZipB (by kernel_rfl) (by kernel_rfl)) (by kernel_rfl) (by kernel_rfl) (by kernel_rfl)
      (by rw [MakeChecks.laidMetH_plain _ _ _ (by kernel_rfl)]; exact laidMet_laidAll _ (by kernel_rfl) (by kernel_rfl))) ?_
  intro W base args ds gs before hval0 hW hc hwt hL _
  have hval : ∀ (j : Nat) t v, Tryz.f3.params[j]? = some t → args[j]? = some v → Value.okWide Tryz.prog W .any base t v := hval0
  have hW' := hW
  obtain ⟨p, q, hA0, hV, rfl, _, _⟩ := hW
  have hA : DataW.TrodAll enc Tryz.prog W 0 (fun _ => true) true Tryz.f3.params.toList args.toList ds p := hA0
  rw [Tryz.params3] at hA hval
  obtain ⟨v0, d0, rfl, rfl, h0⟩ := trodAll_one hA
  obtain ⟨rfl, rfl⟩ := trodVars_none hV
  have k0 := h0
  have lt0 : ∀ x ∈ p, x.block < W.heap.size := by obtain ⟨m, hm⟩ := k0; exact DataW.trod_lt m _ _ _ hm
  have w0 : Light d0 22 := fun k hk => by
    rw [Tryz.params3] at hwt
    have := List.all_eq_true.1 hwt k (by
      show k ∈ DataW.weightsEach Tryz.prog (22 :: _) (d0 :: _)
      simp only [DataW.weightsEach, List.mem_append]
      exact .inl hk)
    simpa using this
  obtain ⟨t, hr, he, hl⟩ := entsArg_of w0 (hval 0 22 v0 rfl rfl) h0
  rw [MakeChecks.laidMetH_plain _ _ _ (by kernel_rfl)] at hL
  refine (law_calls (fn := Tryz.f3) Tryz.func3 (by kernel_rfl) (by kernel_rfl) (sX t he hl) (gg_of hL) rfl ?_).mono fun e' W' ⟨he', bel⟩ => ?_
  · intro i c v hc' hv
    match i, hc', hv with
    | 0, hc', hv =>
      cases hc'
      cases hv
      exact hr
    | i + 1, hc', hv => cases hc'
  subst he'
  exact ⟨_, rfl, _, _, _, [], _, [], hW', trodAll_mk1 (shut_bool Tryz.underlying4 _), trodAll_mk1 (Below.trod laidOut (by kernel_rfl) (of_decide_eq_true (by kernel_rfl)) k0 bel lt0), rfl, bel.frame _, fun h => by cases h⟩
theorem inPlace3 : Tryz.prog.inPlace 3 = Rows.tarWritesRow.inPlace := by kernel_rfl
theorem unfollowed3 : Tryz.prog.unfollowed 3 = true := by kernel_rfl
theorem recurses3 : Tryz.prog.recurses 3 = true := by kernel_rfl
theorem varsNamed3 : Tryz.prog.varsNamed 3 = Rows.tarWritesRow.named := by kernel_rfl
theorem facts3 : joinedFacts Tryz.prog 3 Tryz.f3 Rows.tarWritesSpec Rows.tarWritesRow = true := by
  unfold joinedFacts
  rw [inPlace3, unfollowed3, recurses3, varsNamed3]
  kernel_rfl
theorem over3 (sX : ∀ t : Option (List Ent), (∀ e ∈ esL t, EntW e) → (esL t).length ≤ 140737488351232 → callT AA 3 [esAv t] [] = some (.bool true, [])) : Rows.TarWritesSaid :=
  OpenClaim.holds_of_wide 3 Tryz.f3 rfl rfl rfl rfl rfl rfl rfl ⟨rfl, rfl, rfl, rfl, rfl⟩ rfl rfl rfl rfl rfl (by kernel_rfl) Tryz.func3 facts3
    (of_decide_eq_true (by kernel_rfl)) (by unfold Func.isWrapper; first | (rw [if_pos (by decide +kernel)]; kernel_rfl) | (rw [if_neg (by decide +kernel)]; exact ⟨rfl, rfl⟩))
    (fun os started H enc _ => lifted3 sX os started H enc)
theorem card3 (sX : ∀ t : Option (List Ent), (∀ e ∈ esL t, EntW e) → (esL t).length ≤ 140737488351232 → callT AA 3 [esAv t] [] = some (.bool true, [])) : Rows.TarWritesCardSaid :=
  Claim7.holds_tied_plain_at .later [] [.data, .data, .data, .data, .sentinel, .sentinel, .pinned] true (true, "9a27f009568e5a9d23452f5acf9f8ca070d2ce250d64b6051559486034a94d0c") true (over3 sX) (fun _ h => by cases h) (by kernel_rfl) (fun _ h => by cases h) tarWrites_row_tie rfl ⟨rfl, rfl⟩ (by kernel_rfl) rfl
    (fun f fn hf hfn => by
      obtain rfl : f = 3 := Option.some.inj ((show Tryz.prog.funcNamed "amphora/amphoralaw12.TarWrites" = some 3 by kernel_rfl).symm.trans hf) |>.symm
      obtain rfl : fn = Tryz.f3 := (Option.some.inj (Tryz.func3.symm.trans hfn)).symm
      exact ⟨by kernel_rfl, fun j t ht => by
        rw [Tryz.params3] at ht
        have hm : t ∈ [22] := by simpa using Array.mem_of_getElem? ht
        have hall : ([22].all fun u => !Tryz.prog.wantsStandIn u) = true := by kernel_rfl
        exact (show Tryz.prog.wantsStandIn t = false by simpa using List.all_eq_true.1 hall t hm)⟩)
    (by kernel_rfl)
end Go.Proofs.YtambgnjkakdoeaaGreatDoor
namespace Go.Proofs.YtambgnjkakdoeaaGreatDoor
open Go.Abs
theorem tarWrites_holds : Rows.TarWritesCardSaid := card3 s3
end Go.Proofs.YtambgnjkakdoeaaGreatDoor
