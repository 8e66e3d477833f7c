/- WholeChunks: for all settings and any two lists of entries the law WholeChunks of the given program answers true: the chunks of an archive are the archive, and two archives are cut alike as far as they are alike. Conditions: none beyond the card's own. -/
import Derived.Test.YtambgnjkakdoeaaGreatDoorChunks13
import Derived.Carry
import Derived.ChangeSame
import Derived.LaidMore
import Derived.Lay
import Derived.Lib.LaidTab
import Derived.Lib.LaidU8T
import Derived.OpenShut
import Derived.ProofKit
import Derived.SevenTiedAt
import Derived.Stop.Joined
import Derived.Test.YtambgnjkakdoeaaGreatDoorCards
import Derived.Test.YtambgnjkakdoeaaGreatDoorTie
import Derived.WideShapes
set_option linter.unusedVariables false
set_option linter.unusedSimpArgs false
set_option linter.unusedSectionVars false
namespace Go.Proofs.YtambgnjkakdoeaaGreatDoor
open Go.ChangeShapes Go.WideShapes Go.ChangeAt Go.RowKit Go.Abs
set_option maxRecDepth 100000
theorem ownNone : ownKnob Tryz.prog.godebug = none := by kernel_rfl
theorem laidOut : laidOutB Tryz.prog = true := by kernel_rfl
theorem iface_cells {H : Type} {enc : TypeId × Value → H} {P : Program} {w : World} {base : Nat} {sp : Nat → Bool} {held : Bool} {fuel : Nat} {t : TypeId} {ms : Array (String × TypeId)} {cs : List Value} {x : DataW H × List MemPlace}
  (ht : P.underlying t = some (.interface (ms))) (h : DataW.trod enc P w base sp held fuel t cs = some x) : ∃ v, cs = [v] ∧ (v = .nilIface ∨ ∃ u z, v = .iface u z) := by
 cases fuel with
 | zero => simp [DataW.trod] at h
 | succ fuel =>
  unfold DataW.trod at h
  rw [ht] at h
  split at h <;> first | (rename_i heq; cases heq; done) | skip
  ·exact ⟨_, rfl, .inl rfl⟩
  ·exact ⟨_, rfl, .inr ⟨_, _, rfl⟩⟩
  ·cases h
theorem err_var {W : World} {nm : String} {d : DataW Unit} {k : Nat} (hk : Tryz.prog.globalNamed nm = some k) (ht : (Tryz.prog.globals[k]?).map (·.type) = some 28) (hr : Lib.VarReads Tryz.prog W nm d) :
  ∃ ev, W.cell? ⟨k, 0, none⟩ = some ev ∧ (ev = .nilIface ∨ ∃ te pe, ev = .iface te pe) := by
 obtain ⟨g, t, cs, fuel, p, hg, hty, hvar, hd⟩ := hr
 obtain rfl := Option.some.inj (hk.symm.trans hg)
 obtain rfl := Option.some.inj (ht.symm.trans hty)
 obtain ⟨v, hcs, hv⟩ := iface_cells Tryz.underlying28 hd
 refine ⟨v, ?_, hv⟩
 rw [World.var?_cell hg hvar 0, ← Array.getElem?_toList, hcs]
 rfl
theorem gg_of {W : World} (hL : laidMet Tryz.prog Rows.tarNoneRow.laid W) : GG (fun b => b < W.heap.size) W := by
 have r64 := Lib.laidMet.reads hL (.tail _ (.head _))
 have rpow := Lib.laidMet.reads hL (.tail _ (.tail _ (.head _)))
 have racc := Lib.laidMet.reads hL (.tail _ (.tail _ (.tail _ (.head _))))
 have rran := Lib.laidMet.reads hL (.tail _ (.tail _ (.tail _ (.tail _ (.head _)))))
 have rsyn := Lib.laidMet.reads hL (.tail _ (.tail _ (.tail _ (.tail _ (.tail _ (.head _))))))
 have rfst := Lib.laidMet.reads hL (.tail _ (.tail _ (.tail _ (.tail _ (.tail _ (.tail _ (.head _)))))))
 refine ⟨?_, ?_, err_var (by kernel_rfl) (by kernel_rfl) rsyn, err_var (by kernel_rfl) (by kernel_rfl) rran, fun b hb => ?_⟩
 ·obtain ⟨g, t, cs, fuel, p, hg, hty, hvar, hd⟩ := rpow
  obtain rfl := Option.some.inj ((show Tryz.prog.globalNamed "internal/strconv.uint64pow10" = some 1 by kernel_rfl).symm.trans hg)
  obtain rfl := Option.some.inj ((show (Tryz.prog.globals[1]?).map (·.type) = some 247 by kernel_rfl).symm.trans hty)
  have hcs := Lib.cells_of_tab (zs := Lib.pow10Tab) (k := .u64) Tryz.underlying247 Tryz.underlying80 (by kernel_rfl) (by kernel_rfl) hd
  unfold Lib.TabIs
  rw [hvar, ← hcs]
 ·exact utf8Tabs_of_readsT (U8Types.of196 Tryz.laysValid) ⟨by kernel_rfl, by kernel_rfl, by kernel_rfl, by kernel_rfl, by kernel_rfl, by kernel_rfl, by kernel_rfl⟩ rfst racc
 ·obtain ⟨g, t, cs, fuel, p, hg, hty, hvar, hd⟩ := r64
  obtain rfl := Option.some.inj ((show Tryz.prog.globalNamed "math/bits.deBruijn64tab" = some 7 by kernel_rfl).symm.trans hg)
  have h7 : 7 < W.heap.size := by
   rcases Nat.lt_or_ge 7 W.heap.size with h | h
   ·exact h
   ·unfold World.var? at hvar
    rw [hg] at hvar
    simp [Array.getElem?_eq_none h] at hvar
  show b < W.heap.size
  omega
end Go.Proofs.YtambgnjkakdoeaaGreatDoor
namespace Go.Abs
open Go.Proofs Go.RowKit Go.ChangeShapes Go.WideShapes Go.Deep
set_option maxRecDepth 100000
section
variable {H : Type} {enc : TypeId × Value → H} {w : World}
theorem entsArg_of {v : Value} {d : DataW H} {p : List MemPlace} {r : Reach} {b0 : Nat} (hw : Light d 22) (hv : Value.okWide Tryz.prog w r b0 22 v) (h : DataW.Trod enc Tryz.prog w 0 (fun _ => true) true 22 v d p) : ∃ t : Option (List Ent), RepW w (esAv t) v ∧ (∀ e ∈ esL t, EntW e) ∧ (esL t).length ≤ 140737488351232 := by
 obtain ⟨a, len, cap, rfl⟩ := okWide_slice Tryz.underlying22 hv
 obtain ⟨m, hm⟩ := h
 obtain ⟨t, v', h1, h2, h3, h4⟩ := ents_of hw hm
 have e : v' = .slice a len cap := by
  have : (Value.slice a len cap).cells.toList = [.slice a len cap] := rfl
  rw [this] at h1
  exact (List.cons.inj h1).1.symm
 subst e
 exact ⟨t, h2, h3, h4⟩
end
end Go.Abs
namespace Go.Proofs.YtambgnjkakdoeaaGreatDoor
open Go.ChangeShapes Go.WideShapes Go.ChangeAt Go.RowKit Go.Abs
set_option maxRecDepth 100000
theorem Tryz.underlying80 : Tryz.prog.underlying 80 = some (.int .u64) := by kernel_rfl
theorem word_of {H : Type} {enc : TypeId × Value → H} {w : World} {n : Nat} {cs : List Value} {x : DataW H × List MemPlace} (h : DataW.trod enc Tryz.prog w 0 (fun _ => true) true n 80 cs = some x) : ∃ (z : Int) (v : Value), cs = [v] ∧ RepW w (.int .u64 z) v ∧ 0 ≤ z ∧ z ≤ 18446744073709551615 := by
 obtain ⟨z, h1, _, h2⟩ := DataW.trod_int Tryz.underlying80 h
 simp only [Lit.wf, Bool.and_eq_true, decide_eq_true_eq] at h2
 exact ⟨z, _, h1, .int _ _, h2.1, h2.2⟩
theorem setArg_of {H : Type} {enc : TypeId × Value → H} {w : World} {v : Value} {d : DataW H} {p : List MemPlace} {r : Reach} {b0 : Nat} (hv : Value.okWide Tryz.prog w r b0 82 v) (h : DataW.Trod enc Tryz.prog w 0 (fun _ => true) true 82 v d p) :
  ∃ q0 q1 q2 q3 q4 : Int, 0 ≤ q0 ∧ q0 ≤ 18446744073709551615 ∧ RepW w (.agg [.int .u64 q0, .int .i64 q1, .int .i64 q2, .int .i64 q3, .int .i64 q4]) v := by
 obtain ⟨cs, rfl, hsz⟩ := okWide_struct Tryz.underlying82 hv
 obtain ⟨m, hm⟩ := h
 obtain ⟨xs, _, _, hx, hl, hxl, hf⟩ := DataW.trod_struct Tryz.underlying82 hm
 have h5 : Tryz.prog.cellsOf 82 = 5 := by kernel_rfl
 have h80 : Tryz.prog.cellsOf 80 = 1 := by kernel_rfl
 have h3 : Tryz.prog.cellsOf 3 = 1 := by kernel_rfl
 rw [h5] at hl
 have hl2 : cs.toList.length = 5 := by simpa [Value.cells] using hl
 have e2 : (Value.agg cs).cells.toList = cs.toList := rfl
 rw [e2] at hf
 obtain ⟨cl⟩ := cs
 simp only at hl2 hf
 match cl, hl2, xs, hxl with
 | [c0, c1, c2, c3, c4], _, [y0, y1, y2, y3, y4], _ =>
  have g0 := hf 0 _ rfl
  have g1 := hf 1 _ rfl
  have g2 := hf 2 _ rfl
  have g3 := hf 3 _ rfl
  have g4 := hf 4 _ rfl
  simp only [h80, h3, List.drop_zero, List.drop_succ_cons, List.take_succ_cons, List.take_zero, List.getElem?_cons_zero, List.getElem?_cons_succ] at g0 g1 g2 g3 g4
  obtain ⟨q0, v0, e0, r0, z0, z1⟩ := word_of g0
  obtain ⟨q1, v1, e1, r1, _⟩ := int_of g1
  obtain ⟨q2, v2, e2, r2, _⟩ := int_of g2
  obtain ⟨q3, v3, e3, r3, _⟩ := int_of g3
  obtain ⟨q4, v4, e4, r4, _⟩ := int_of g4
  cases e0; cases e1; cases e2; cases e3; cases e4
  refine ⟨q0, q1, q2, q3, q4, z0, z1, .agg _ _ rfl fun i c v hc hv => ?_⟩
  match i, hc, hv with
  | 0, hc, hv => cases hc; cases hv; exact r0
  | 1, hc, hv => cases hc; cases hv; exact r1
  | 2, hc, hv => cases hc; cases hv; exact r2
  | 3, hc, hv => cases hc; cases hv; exact r3
  | 4, hc, hv => cases hc; cases hv; exact r4
  | i + 5, hc, hv => cases hc
def SX13 : Prop := ∀ (p w mn mx bits : Int), 0 ≤ p → p ≤ 18446744073709551615 → ∀ (t u : Option (List Ent)), (∀ e ∈ esL t, EntW e) → (esL t).length ≤ 140737488351232 → (∀ e ∈ esL u, EntW e) → (esL u).length ≤ 140737488351232 →
 callT AB 13 [.agg [.int .u64 p, .int .i64 w, .int .i64 mn, .int .i64 mx, .int .i64 bits], esAv t, esAv u] [] = some (.bool true, [])
theorem lifted13 (sX : SX13) (os : Os) (started : os.Started) (H : Type) (enc : TypeId × Value → H) :
  ReturnsInHanded {} Tryz.checked os 13 .any (fun w args => (Rows.wholeChunksSpec.pre enc Tryz.prog Tryz.f13 Rows.wholeChunksRow.domain false w args ∧ laidMetH Tryz.prog Rows.wholeChunksRow.laid w) ∧ sizedMet enc Tryz.prog Tryz.f13 (OpenSpec.ofChange Rows.wholeChunksSpec) false w args)
   (Rows.wholeChunksSpec.post enc Tryz.prog Tryz.f13 false true false false) := by
 refine returnsInHanded_of_change_and (C := Tryz.checked) (X := fun w _ => laidMetH Tryz.prog Rows.wholeChunksRow.laid w) (fun _ _ _ hh h => h.of_heap hh) ownNone started (by kernel_rfl) Tryz.func13
  (ChangeSpec.witness_shaped (enc := enc) (C := Tryz.checked) (os := os) (X := fun w _ => laidMetH Tryz.prog Rows.wholeChunksRow.laid w) false (World.laidAll Tryz.prog os Rows.wholeChunksRow.laid) #[.agg #[.int .u64 0, .int .i64 0, .int .i64 0, .int .i64 0, .int .i64 0], .slice none 0 0, .slice none 0 0] 8 (World.laidAll_os _ _ _)
   (World.shaped_of_ZipB (by kernel_rfl) (by kernel_rfl)) (by kernel_rfl) (by kernel_rfl) (by kernel_rfl)
   (by rw [MakeChecks.laidMetH_plain _ _ _ (by kernel_rfl)]; exact laidMet_laidAll _ (by kernel_rfl) (by kernel_rfl))) ?_
 intro W base args ds gs before hval0 hW hc hwt hL _
 have hval : ∀ (j : Nat) t v, Tryz.f13.params[j]? = some t → args[j]? = some v → Value.okWide Tryz.prog W .any base t v := hval0
 have hW' := hW
 obtain ⟨p, q, hA0, hV, rfl, _, _⟩ := hW
 have hA : DataW.TrodAll enc Tryz.prog W 0 (fun _ => true) true Tryz.f13.params.toList args.toList ds p := hA0
 rw [Tryz.params13] at hA hval
 obtain ⟨v0, v1, v2, d0, d1, d2, p0, p1, p2, rfl, rfl, rfl, h0, h1, h2⟩ := trodAll_three hA
 obtain ⟨rfl, rfl⟩ := trodVars_none hV
 have k0 := h0
 have k1 := h1
 have k2 := h2
 have lt0 : ∀ x ∈ p0, x.block < W.heap.size := by obtain ⟨m, hm⟩ := k0; exact DataW.trod_lt m _ _ _ hm
 have lt1 : ∀ x ∈ p1, x.block < W.heap.size := by obtain ⟨m, hm⟩ := k1; exact DataW.trod_lt m _ _ _ hm
 have lt2 : ∀ x ∈ p2, x.block < W.heap.size := by obtain ⟨m, hm⟩ := k2; exact DataW.trod_lt m _ _ _ hm
 rw [Tryz.params13] at hwt
 have w1 : Light d1 22 := fun k hk => by
  have := List.all_eq_true.1 hwt k (by
   show k ∈ DataW.weightsEach Tryz.prog (82 :: 22 :: _) (d0 :: d1 :: _)
   simp only [DataW.weightsEach, List.mem_append]
   exact .inr (.inl hk))
  simpa using this
 have w2 : Light d2 22 := fun k hk => by
  have := List.all_eq_true.1 hwt k (by
   show k ∈ DataW.weightsEach Tryz.prog (82 :: 22 :: 22 :: _) (d0 :: d1 :: d2 :: _)
   simp only [DataW.weightsEach, List.mem_append]
   exact .inr (.inr (.inl hk)))
  simpa using this
 obtain ⟨q0, q1, q2, q3, q4, z0, z1, hr0⟩ := setArg_of (hval 0 82 v0 rfl rfl) h0
 obtain ⟨t, hr1, he, hl⟩ := entsArg_of w1 (hval 1 22 v1 rfl rfl) h1
 obtain ⟨u, hr2, he2, hl2⟩ := entsArg_of w2 (hval 2 22 v2 rfl rfl) h2
 rw [MakeChecks.laidMetH_plain _ _ _ (by kernel_rfl)] at hL
 refine (law_callsB (fn := Tryz.f13) Tryz.func13 (by kernel_rfl) (by kernel_rfl) (sX q0 q1 q2 q3 q4 z0 z1 t u he hl he2 hl2) (gg_of hL) rfl ?_).mono fun e' W' ⟨he', bel⟩ => ?_
 ·intro i c v hc' hv
  match i, hc', hv with
  | 0, hc', hv =>
   cases hc'
   cases hv
   exact hr0
  | 1, hc', hv =>
   cases hc'
   cases hv
   exact hr1
  | 2, hc', hv =>
   cases hc'
   cases hv
   exact hr2
  | i + 3, hc', hv => cases hc'
 subst he'
 exact ⟨_, rfl, _, _, _, [], _, [], hW', trodAll_mk1 (shut_bool Tryz.underlying4 _), trodAll_mk3 (Below.trod laidOut (by kernel_rfl) (of_decide_eq_true (by kernel_rfl)) k0 bel lt0) (Below.trod laidOut (by kernel_rfl) (of_decide_eq_true (by kernel_rfl)) k1 bel lt1) (Below.trod laidOut (by kernel_rfl) (of_decide_eq_true (by kernel_rfl)) k2 bel lt2), rfl, bel.frame _, fun h => by cases h⟩
theorem inPlace13 : Tryz.prog.inPlace 13 = Rows.wholeChunksRow.inPlace := by kernel_rfl
theorem unfollowed13 : Tryz.prog.unfollowed 13 = true := by kernel_rfl
theorem recurses13 : Tryz.prog.recurses 13 = true := by kernel_rfl
theorem varsNamed13 : Tryz.prog.varsNamed 13 = Rows.wholeChunksRow.named := by kernel_rfl
theorem facts13 : joinedFacts Tryz.prog 13 Tryz.f13 Rows.wholeChunksSpec Rows.wholeChunksRow = true := by
 unfold joinedFacts
 rw [inPlace13, unfollowed13, recurses13, varsNamed13]
 kernel_rfl
theorem over13 (sX : SX13) : Rows.WholeChunksSaid :=
 OpenClaim.holds_of_wide 13 Tryz.f13 rfl rfl rfl rfl rfl rfl rfl ⟨rfl, rfl, rfl, rfl, rfl⟩ rfl rfl rfl rfl rfl (by kernel_rfl) Tryz.func13 facts13
  (of_decide_eq_true (by kernel_rfl)) (by unfold Func.isWrapper; first | (rw [if_pos (by decide +kernel)]; kernel_rfl) | (rw [if_neg (by decide +kernel)]; exact ⟨rfl, rfl⟩))
  (fun os started H enc _ => lifted13 sX os started H enc)
theorem card13 (sX : SX13) : Rows.WholeChunksCardSaid :=
 Claim7.holds_tied_plain_at .later [] [.data, .data, .data, .data, .sentinel, .sentinel, .pinned] true (true, "9a27f009568e5a9d23452f5acf9f8ca070d2ce250d64b6051559486034a94d0c") true (over13 sX) (fun _ h => by cases h) (by kernel_rfl) (fun _ h => by cases h) wholeChunks_row_tie rfl ⟨rfl, rfl⟩ (by kernel_rfl) rfl
  (fun f fn hf hfn => by
   obtain rfl : f = 13 := Option.some.inj ((show Tryz.prog.funcNamed "amphora/amphoratop.WholeChunks" = some 13 by kernel_rfl).symm.trans hf) |>.symm
   obtain rfl : fn = Tryz.f13 := (Option.some.inj (Tryz.func13.symm.trans hfn)).symm
   exact ⟨by kernel_rfl, fun j t ht => by
    rw [Tryz.params13] at ht
    have hm : t ∈ [82, 22, 22] := by simpa using Array.mem_of_getElem? ht
    have hall : ([82, 22, 22].all fun u => !Tryz.prog.wantsStandIn u) = true := by kernel_rfl
    exact (show Tryz.prog.wantsStandIn t = false by simpa using List.all_eq_true.1 hall t hm)⟩)
  (by kernel_rfl)
end Go.Proofs.YtambgnjkakdoeaaGreatDoor
namespace Go.Proofs.YtambgnjkakdoeaaGreatDoor
open Go.Abs
theorem wholeChunks_holds : Rows.WholeChunksCardSaid := card13 fun p w mn mx bits p0 p1 t u ht hl hu hm => s13 p w mn mx bits p0 p1 t u ht hl hu hm
end Go.Proofs.YtambgnjkakdoeaaGreatDoor
