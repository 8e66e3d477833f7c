/- WholeArchives: at every list of entries whatsoever the law WholeArchives of the given program answers true: an archive is built from a copy, each piece made normal, missing parents put in, all put in order; it is written, read back and written again, and nothing is lost; what cannot be built is refused with the reference's number. Conditions: none beyond the card's own. -/
import Derived.Test.YtambgnjkakdoeaaGreatDoorArchives14
import Derived.Carry
import Derived.ChangeSame
import Derived.LaidMore
import Derived.Lay
import Derived.Lib.LaidTab
import Derived.Lib.LaidU8T
import Derived.OpenShut
import Derived.ProofKit
import Derived.SevenTiedAt
import Derived.Stop.Joined
import Derived.Test.YtambgnjkakdoeaaGreatDoorCards
import Derived.Test.YtambgnjkakdoeaaGreatDoorTie
import Derived.WideShapes
set_option linter.unusedVariables false
set_option linter.unusedSimpArgs false
set_option linter.unusedSectionVars false
namespace Go.Proofs.YtambgnjkakdoeaaGreatDoor
open Go.ChangeShapes Go.WideShapes Go.ChangeAt Go.RowKit Go.Abs
set_option maxRecDepth 100000
theorem ownNone : ownKnob Tryz.prog.godebug = none := by kernel_rfl
theorem laidOut : laidOutB Tryz.prog = true := by kernel_rfl
theorem iface_cells {H : Type} {enc : TypeId × Value → H} {P : Program} {w : World} {base : Nat} {sp : Nat → Bool} {held : Bool} {fuel : Nat} {t : TypeId} {ms : Array (String × TypeId)} {cs : List Value} {x : DataW H × List MemPlace}
  (ht : P.underlying t = some (.interface (ms))) (h : DataW.trod enc P w base sp held fuel t cs = some x) : ∃ v, cs = [v] ∧ (v = .nilIface ∨ ∃ u z, v = .iface u z) := by
 cases fuel with
 | zero => simp [DataW.trod] at h
 | succ fuel =>
  unfold DataW.trod at h
  rw [ht] at h
  split at h <;> first | (rename_i heq; cases heq; done) | skip
  ·exact ⟨_, rfl, .inl rfl⟩
  ·exact ⟨_, rfl, .inr ⟨_, _, rfl⟩⟩
  ·cases h
theorem err_var {W : World} {nm : String} {d : DataW Unit} {k : Nat} (hk : Tryz.prog.globalNamed nm = some k) (ht : (Tryz.prog.globals[k]?).map (·.type) = some 28) (hr : Lib.VarReads Tryz.prog W nm d) :
  ∃ ev, W.cell? ⟨k, 0, none⟩ = some ev ∧ (ev = .nilIface ∨ ∃ te pe, ev = .iface te pe) := by
 obtain ⟨g, t, cs, fuel, p, hg, hty, hvar, hd⟩ := hr
 obtain rfl := Option.some.inj (hk.symm.trans hg)
 obtain rfl := Option.some.inj (ht.symm.trans hty)
 obtain ⟨v, hcs, hv⟩ := iface_cells Tryz.underlying28 hd
 refine ⟨v, ?_, hv⟩
 rw [World.var?_cell hg hvar 0, ← Array.getElem?_toList, hcs]
 rfl
theorem gg_of {W : World} (hL : laidMet Tryz.prog Rows.tarNoneRow.laid W) : GG (fun b => b < W.heap.size) W := by
 have r64 := Lib.laidMet.reads hL (.tail _ (.head _))
 have rpow := Lib.laidMet.reads hL (.tail _ (.tail _ (.head _)))
 have racc := Lib.laidMet.reads hL (.tail _ (.tail _ (.tail _ (.head _))))
 have rran := Lib.laidMet.reads hL (.tail _ (.tail _ (.tail _ (.tail _ (.head _)))))
 have rsyn := Lib.laidMet.reads hL (.tail _ (.tail _ (.tail _ (.tail _ (.tail _ (.head _))))))
 have rfst := Lib.laidMet.reads hL (.tail _ (.tail _ (.tail _ (.tail _ (.tail _ (.tail _ (.head _)))))))
 refine ⟨?_, ?_, err_var (by kernel_rfl) (by kernel_rfl) rsyn, err_var (by kernel_rfl) (by kernel_rfl) rran, fun b hb => ?_⟩
 ·obtain ⟨g, t, cs, fuel, p, hg, hty, hvar, hd⟩ := rpow
  obtain rfl := Option.some.inj ((show Tryz.prog.globalNamed "internal/strconv.uint64pow10" = some 1 by kernel_rfl).symm.trans hg)
  obtain rfl := Option.some.inj ((show (Tryz.prog.globals[1]?).map (·.type) = some 247 by kernel_rfl).symm.trans hty)
  have hcs := Lib.cells_of_tab (zs := Lib.pow10Tab) (k := .u64) Tryz.underlying247 Tryz.underlying80 (by kernel_rfl) (by kernel_rfl) hd
  unfold Lib.TabIs
  rw [hvar, ← hcs]
 ·exact utf8Tabs_of_readsT (U8Types.of196 Tryz.laysValid) ⟨by kernel_rfl, by kernel_rfl, by kernel_rfl, by kernel_rfl, by kernel_rfl, by kernel_rfl, by kernel_rfl⟩ rfst racc
 ·obtain ⟨g, t, cs, fuel, p, hg, hty, hvar, hd⟩ := r64
  obtain rfl := Option.some.inj ((show Tryz.prog.globalNamed "math/bits.deBruijn64tab" = some 7 by kernel_rfl).symm.trans hg)
  have h7 : 7 < W.heap.size := by
   rcases Nat.lt_or_ge 7 W.heap.size with h | h
   ·exact h
   ·unfold World.var? at hvar
    rw [hg] at hvar
    simp [Array.getElem?_eq_none h] at hvar
  show b < W.heap.size
  omega
end Go.Proofs.YtambgnjkakdoeaaGreatDoor
namespace Go.Abs
open Go.Proofs Go.RowKit Go.ChangeShapes Go.WideShapes Go.Deep
set_option maxRecDepth 100000
section
variable {H : Type} {enc : TypeId × Value → H} {w : World}
theorem entsArg_of {v : Value} {d : DataW H} {p : List MemPlace} {r : Reach} {b0 : Nat} (hw : Light d 22) (hv : Value.okWide Tryz.prog w r b0 22 v) (h : DataW.Trod enc Tryz.prog w 0 (fun _ => true) true 22 v d p) : ∃ t : Option (List Ent), RepW w (esAv t) v ∧ (∀ e ∈ esL t, EntW e) ∧ (esL t).length ≤ 140737488351232 := by
 obtain ⟨a, len, cap, rfl⟩ := okWide_slice Tryz.underlying22 hv
 obtain ⟨m, hm⟩ := h
 obtain ⟨t, v', h1, h2, h3, h4⟩ := ents_of hw hm
 have e : v' = .slice a len cap := by
  have : (Value.slice a len cap).cells.toList = [.slice a len cap] := rfl
  rw [this] at h1
  exact (List.cons.inj h1).1.symm
 subst e
 exact ⟨t, h2, h3, h4⟩
end
end Go.Abs
namespace Go.Proofs.YtambgnjkakdoeaaGreatDoor
open Go.ChangeShapes Go.WideShapes Go.ChangeAt Go.RowKit Go.Abs
set_option maxRecDepth 100000
theorem lifted11 (sX : ∀ t : Option (List Ent), (∀ e ∈ esL t, EntW e) → (esL t).length ≤ 140737488351232 → callT AB 11 [esAv t] [] = some (.bool true, [])) (os : Os) (started : os.Started) (H : Type) (enc : TypeId × Value → H) :
  ReturnsInHanded {} Tryz.checked os 11 .any (fun w args => (Rows.wholeArchivesSpec.pre enc Tryz.prog Tryz.f11 Rows.wholeArchivesRow.domain false w args ∧ laidMetH Tryz.prog Rows.wholeArchivesRow.laid w) ∧ sizedMet enc Tryz.prog Tryz.f11 (OpenSpec.ofChange Rows.wholeArchivesSpec) false w args)
   (Rows.wholeArchivesSpec.post enc Tryz.prog Tryz.f11 false true false false) := by
 refine returnsInHanded_of_change_and (C := Tryz.checked) (X := fun w _ => laidMetH Tryz.prog Rows.wholeArchivesRow.laid w) (fun _ _ _ hh h => h.of_heap hh) ownNone started (by kernel_rfl) Tryz.func11
  (ChangeSpec.witness_shaped (enc := enc) (C := Tryz.checked) (os := os) (X := fun w _ => laidMetH Tryz.prog Rows.wholeArchivesRow.laid w) false (World.laidAll Tryz.prog os Rows.wholeArchivesRow.laid) #[.slice none 0 0] 8 (World.laidAll_os _ _ _)
   (World.shaped_of_ZipB (by kernel_rfl) (by kernel_rfl)) (by kernel_rfl) (by kernel_rfl) (by kernel_rfl)
   (by rw [MakeChecks.laidMetH_plain _ _ _ (by kernel_rfl)]; exact laidMet_laidAll _ (by kernel_rfl) (by kernel_rfl))) ?_
 intro W base args ds gs before hval0 hW hc hwt hL _
 have hval : ∀ (j : Nat) t v, Tryz.f11.params[j]? = some t → args[j]? = some v → Value.okWide Tryz.prog W .any base t v := hval0
 have hW' := hW
 obtain ⟨p, q, hA0, hV, rfl, _, _⟩ := hW
 have hA : DataW.TrodAll enc Tryz.prog W 0 (fun _ => true) true Tryz.f11.params.toList args.toList ds p := hA0
 rw [Tryz.params11] at hA hval
 obtain ⟨v0, d0, rfl, rfl, h0⟩ := trodAll_one hA
 obtain ⟨rfl, rfl⟩ := trodVars_none hV
 have k0 := h0
 have lt0 : ∀ x ∈ p, x.block < W.heap.size := by obtain ⟨m, hm⟩ := k0; exact DataW.trod_lt m _ _ _ hm
 have w0 : Light d0 22 := fun k hk => by
  rw [Tryz.params11] at hwt
  have := List.all_eq_true.1 hwt k (by
   show k ∈ DataW.weightsEach Tryz.prog (22 :: _) (d0 :: _)
   simp only [DataW.weightsEach, List.mem_append]
   exact .inl hk)
  simpa using this
 obtain ⟨t, hr, he, hl⟩ := entsArg_of w0 (hval 0 22 v0 rfl rfl) h0
 rw [MakeChecks.laidMetH_plain _ _ _ (by kernel_rfl)] at hL
 refine (law_callsB (fn := Tryz.f11) Tryz.func11 (by kernel_rfl) (by kernel_rfl) (sX t he hl) (gg_of hL) rfl ?_).mono fun e' W' ⟨he', bel⟩ => ?_
 ·intro i c v hc' hv
  match i, hc', hv with
  | 0, hc', hv =>
   cases hc'
   cases hv
   exact hr
  | i + 1, hc', hv => cases hc'
 subst he'
 exact ⟨_, rfl, _, _, _, [], _, [], hW', trodAll_mk1 (shut_bool Tryz.underlying4 _), trodAll_mk1 (Below.trod laidOut (by kernel_rfl) (of_decide_eq_true (by kernel_rfl)) k0 bel lt0), rfl, bel.frame _, fun h => by cases h⟩
theorem inPlace11 : Tryz.prog.inPlace 11 = Rows.wholeArchivesRow.inPlace := by kernel_rfl
theorem unfollowed11 : Tryz.prog.unfollowed 11 = true := by kernel_rfl
theorem recurses11 : Tryz.prog.recurses 11 = true := by kernel_rfl
theorem varsNamed11 : Tryz.prog.varsNamed 11 = Rows.wholeArchivesRow.named := by kernel_rfl
theorem facts11 : joinedFacts Tryz.prog 11 Tryz.f11 Rows.wholeArchivesSpec Rows.wholeArchivesRow = true := by
 unfold joinedFacts
 rw [inPlace11, unfollowed11, recurses11, varsNamed11]
 kernel_rfl
theorem over11 (sX : ∀ t : Option (List Ent), (∀ e ∈ esL t, EntW e) → (esL t).length ≤ 140737488351232 → callT AB 11 [esAv t] [] = some (.bool true, [])) : Rows.WholeArchivesSaid :=
 OpenClaim.holds_of_wide 11 Tryz.f11 rfl rfl rfl rfl rfl rfl rfl ⟨rfl, rfl, rfl, rfl, rfl⟩ rfl rfl rfl rfl rfl (by kernel_rfl) Tryz.func11 facts11
  (of_decide_eq_true (by kernel_rfl)) (by unfold Func.isWrapper; first | (rw [if_pos (by decide +kernel)]; kernel_rfl) | (rw [if_neg (by decide +kernel)]; exact ⟨rfl, rfl⟩))
  (fun os started H enc _ => lifted11 sX os started H enc)
theorem card11 (sX : ∀ t : Option (List Ent), (∀ e ∈ esL t, EntW e) → (esL t).length ≤ 140737488351232 → callT AB 11 [esAv t] [] = some (.bool true, [])) : Rows.WholeArchivesCardSaid :=
 Claim7.holds_tied_plain_at .later [] [.data, .data, .data, .data, .sentinel, .sentinel, .pinned] true (true, "9a27f009568e5a9d23452f5acf9f8ca070d2ce250d64b6051559486034a94d0c") true (over11 sX) (fun _ h => by cases h) (by kernel_rfl) (fun _ h => by cases h) wholeArchives_row_tie rfl ⟨rfl, rfl⟩ (by kernel_rfl) rfl
  (fun f fn hf hfn => by
   obtain rfl : f = 11 := Option.some.inj ((show Tryz.prog.funcNamed "amphora/amphoratop.WholeArchives" = some 11 by kernel_rfl).symm.trans hf) |>.symm
   obtain rfl : fn = Tryz.f11 := (Option.some.inj (Tryz.func11.symm.trans hfn)).symm
   exact ⟨by kernel_rfl, fun j t ht => by
    rw [Tryz.params11] at ht
    have hm : t ∈ [22] := by simpa using Array.mem_of_getElem? ht
    have hall : ([22].all fun u => !Tryz.prog.wantsStandIn u) = true := by kernel_rfl
    exact (show Tryz.prog.wantsStandIn t = false by simpa using List.all_eq_true.1 hall t hm)⟩)
  (by kernel_rfl)
end Go.Proofs.YtambgnjkakdoeaaGreatDoor
namespace Go.Proofs.YtambgnjkakdoeaaGreatDoor
open Go.Abs
theorem wholeArchives_holds : Rows.WholeArchivesCardSaid := card11 s11
end Go.Proofs.YtambgnjkakdoeaaGreatDoor
