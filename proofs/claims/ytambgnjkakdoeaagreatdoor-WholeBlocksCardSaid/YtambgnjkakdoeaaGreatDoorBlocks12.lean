import Derived.Test.YtambgnjkakdoeaaGreatDoorBlocks11
import Derived.Lib.ValidLaws
/- PART OF A PROOF (texts joined by a program): F89 F90 B8 N7 N8 B9 F86 B5 F60 F61 F62 F63 F64 F65 F66 F70 F71 B6 F72 F73 F67 F74. -/
set_option linter.unusedVariables false
set_option linter.unusedSimpArgs false
set_option linter.unusedSectionVars false
namespace Go.Abs
open Am
set_option maxRecDepth 100000
set_option linter.unusedSimpArgs false
abbrev EnvO (ct tt : Bool) (t : List Ent) (k r : Nat) (n i : Int) : List AVal := [.junk, .junk, .bool false, .own 0 1 k r false, .junk, .junk, .junk, .junk, .junk, .junk, .junk, .junk, .junk, .junk, .junk, .junk, .junk, .junk, .junk, .junk, .junk, .junk, .junk, .junk, .junk, .junk, .junk, .junk, .junk, .junk, .junk, .junk, .junk, .junk, .junk, .junk, .junk, .junk, .junk, .junk, .junk, .junk, .junk, .junk, .junk, .junk, .junk, .junk, .junk, .junk, .junk, .junk, .junk, .junk, .junk, .junk, .junk, .junk, .junk, .junk, .view 8 (t.map Ent.av) ct tt, .int .i64 n, .int .i64 i, .junk, .junk, .junk, .junk, .junk, .junk, .junk, .junk, .junk, .junk, .junk, .junk, .junk, .junk, .junk, .junk, .junk, .junk, .junk, .junk, .junk, .junk, .junk, .junk, .junk, .junk, .junk, .junk, .junk, .junk, .junk, .junk, .junk, .junk, .junk, .junk, .junk, .junk, .junk, .junk, .junk, .junk, .junk, .junk, .junk, .junk, .junk, .junk, .junk, .junk, .junk, .junk, .junk, .junk, .junk, .junk, .junk, .junk, .junk, .junk, .junk, .junk, .junk, .junk, .junk, .junk, .junk, .junk, .junk, .junk, .junk, .junk, .junk, .junk, .junk, .junk, .junk, .junk, .junk, .junk, .junk, .junk, .junk, .junk, .junk, .junk, .junk, .junk, .junk, .junk, .junk, .junk, .junk, .junk, .junk, .junk, .junk, .junk, .junk, .junk, .junk, .junk, .junk, .junk, .junk, .junk, .junk, .junk, .junk, .junk, .junk, .junk, .junk, .junk, .junk, .junk, .junk, .junk, .junk, .junk, .junk, .junk, .junk, .junk, .junk, .junk, .junk, .junk, .junk, .junk, .junk, .junk, .junk, .junk, .junk, .junk, .junk, .junk, .junk, .junk, .junk, .junk, .junk, .junk, .junk, .junk]
abbrev EnvI (ct tt : Bool) (t : List Ent) (k r m : Nat) (n i : Int) : List AVal := [.junk, .junk, .bool false, .own 0 1 k r false, .junk, .junk, .junk, .junk, .ptr 1 0, .own 2 2 0 m false, .junk, .junk, .junk, .junk, .junk, .junk, .junk, .junk, .junk, .junk, .junk, .junk, .junk, .junk, .junk, .junk, .junk, .junk, .junk, .junk, .junk, .junk, .junk, .junk, .junk, .junk, .junk, .junk, .junk, .junk, .junk, .junk, .junk, .junk, .junk, .junk, .junk, .junk, .junk, .junk, .junk, .junk, .junk, .junk, .junk, .junk, .junk, .junk, .junk, .junk, .view 8 (t.map Ent.av) ct tt, .int .i64 n, .int .i64 i, .junk, .junk, .junk, .junk, .junk, .junk, .junk, .junk, .junk, .junk, .junk, .junk, .junk, .junk, .junk, .junk, .junk, .junk, .junk, .junk, .junk, .junk, .junk, .junk, .junk, .junk, .junk, .junk, .junk, .junk, .junk, .junk, .junk, .junk, .junk, .junk, .junk, .junk, .junk, .junk, .junk, .junk, .junk, .junk, .junk, .junk, .junk, .junk, .junk, .junk, .junk, .junk, .junk, .junk, .junk, .junk, .junk, .junk, .junk, .junk, .junk, .junk, .junk, .junk, .junk, .junk, .junk, .junk, .junk, .junk, .junk, .junk, .junk, .junk, .junk, .junk, .junk, .junk, .junk, .junk, .junk, .junk, .junk, .junk, .junk, .junk, .junk, .junk, .junk, .junk, .junk, .junk, .junk, .junk, .junk, .junk, .junk, .junk, .junk, .junk, .junk, .junk, .junk, .junk, .junk, .junk, .junk, .junk, .junk, .junk, .junk, .junk, .junk, .junk, .junk, .junk, .junk, .junk, .junk, .junk, .junk, .junk, .junk, .junk, .junk, .junk, .junk, .junk, .junk, .junk, .junk, .junk, .junk, .junk, .junk, .junk, .junk, .junk, .junk, .junk, .junk, .junk, .junk, .junk, .junk, .junk]
abbrev HeapI (W : List UInt8) (e : Ent) (L : List Rcd) : Heap := [(0, .row (W.map .byte) 1), (1, .var [.str e.path, .int .i64 e.kind, .int .i64 e.mode, .int .i64 e.uid, .int .i64 e.gid, .int .i64 e.time, .str e.link, e.data.av]), (2, .row (L.map Rcd.av) 2)]
abbrev S10 : List Frame := [.blk 2, .code r10_0, .blk 1, .code r10_1, .loop [2, 3, 60, 61, 62] l10_1, .blk 0, .code r10_2]
set_option maxHeartbeats 40000000 in
theorem f10x (ct tt : Bool) (t : List Ent) (W : List UInt8) (q k r k' r' p : Nat) (n i wh : Int) (e : Ent) (H : Hd) (body : List UInt8) (hb : BlkAt W k H body p) (hq : W.length = q) (hr : k + r + 1024 = q) (hw : (H.size + 511) / 512 * 512 = wh) (hk' : k' = k + 512 + body.length + p) (hr' : k' + r' + 1024 = q) (hq1 : q ≤ 1000000000) (hbl : body.length ≤ 1000000) (hty : (H.type.toNat : Int) = 120) (M : List Rcd) (hM : paxD body = some M) (hMn : M ≠ []) (F : FinP)
    (ih : HD AB 0 [2, 3, 8, 9, 60, 61, 62] l10_0 ⟨EnvI ct tt t k' r' M.length n i, HeapI W e M, 3⟩ S10 F) :
    HD AB 0 [2, 3, 8, 9, 60, 61, 62] l10_0 ⟨EnvI ct tt t k r 0 n i, HeapI W e [], 3⟩ S10 F := by
  have hk := hb.lt
  have hl := encB_length H
  have hsz := hb.size
  obtain ⟨dv, hdv⟩ : ∃ dv : Int, dv = (H.size + 511) / 512 := ⟨_, rfl⟩
  have e1 : (0 : Int) < 1 → (H.size + 511).tdiv 512 = dv := fun _ => by
    rw [Int.tdiv_eq_ediv_of_nonneg (by omega)]
    exact hdv.symm
  rw [← hdv] at hw
  have hwh : (body.length : Int) + p = wh := by
    have := pad_whole body
    rw [padL_length] at this
    rw [hb.pad, ← hw, hdv, hb.size]
    unfold wholeN at this
    omega
  have hk2 : k + 512 + body.length + p + 1024 ≤ q := by omega
  have hdv3 : 0 ≤ dv ∧ dv ≤ 4000000 := by omega
  have hwl : wh ≤ 2000000000 ∧ 0 ≤ wh := by omega
  have e3 : (0 : Int) < 1 → dv * 512 = wh := fun _ => hw
  clear hdv hk hw
  have g1 := sl_to (k := k) (n := r) (b := 512) rfl (by omega)
  have g2 := sl_in (k := k) (n := r) (i := 512 + body.length) (m := p) (a := 512 + H.size) (b := 512 + wh) (by omega) (by omega) (by omega)
  have g3 := sl_in (k := k) (n := r) (i := 512) (m := body.length) (a := 512) (b := 512 + H.size) (by omega) (by omega) (by omega)
  have g4 := sl_from (k := k) (n := r) (i := 512 + body.length + p) (a := 512 + wh) (by omega) (by omega)
  rw [← Nat.add_assoc] at g2
  rw [show k + (512 + body.length + p) = k' by omega, show r - (512 + body.length + p) = r' by omega] at g4
  have p1 := part_map hb.hd
  have p2 := part_map hb.zeros
  have p3 := part_map hb.bdy
  have hdk := decOk_encB hb.ok
  have hdh := decH_encB hb.ok
  have c34 := fun c t => callT_ext (s34 (.mk c t (encB H)) (by rw [mk_l]; exact hl))
  simp only [mk_l, hdk, hdh, if_true, mk_av, Hd.av] at c34
  have c42 := fun c t => callT_ext (s42 (.mk c t (List.replicate p 0)) (by simp only [mk_l, List.length_replicate]; omega))
  have hz : zerosB (List.replicate p 0) = true := by simp [zerosB]
  simp only [mk_l, hz, mk_av] at c42
  have wl : (W.map AVal.byte).length = q := by rw [List.length_map]; exact hq
  clear hdk hdh
  have c35 := fun c t => callT_ext (s35 (.mk c t body) (by rw [mk_l]; exact hbl))
  simp only [mk_l, hM, mk_av] at c35
  have hv : pdV (some M) = .tuple [.own 0 2 0 M.length false, .lit .nilIface] ∧ pdH (some M) = [(0, .row (M.map Rcd.av) 2)] := by
    cases M with
    | nil => exact (hMn rfl).elim
    | cons x y => exact ⟨rfl, rfl⟩
  simp only [hv.1, hv.2] at c35
  have hM0 : 0 < M.length := by
    cases M with
    | nil => exact (hMn rfl).elim
    | cons x y => simp
  dsimp only [EnvI, HeapI, S10] at ih ⊢
  clear hb
  generalize hS : H.size = S at *
  generalize encB H = B at *
  generalize (H.type.toNat : Int) = T at *
  refine hd_of (by unfold l10_0; rfl) ?_
  have gg := trivial; repeat' first | simp (maxSteps := 2000000) (disch := omega) only [gg, g1, g2, g3, g4, p1, p2, p3, c34, c42, e1, e3, c35, wl, hl, hty, lp_head, go_sem] | (refine br ?_ ?_ <;> intro gg <;> try (exfalso; omega)) | (refine And.intro ?_ ?_; focus omega) | omega
end Go.Abs
namespace Go.Abs
open Am
set_option maxRecDepth 100000
set_option linter.unusedSimpArgs false
set_option maxHeartbeats 80000000 in
theorem f10s (ct tt : Bool) (t : List Ent) (W : List UInt8) (q k r k' r' p : Nat) (n i wh : Int) (e : Ent) (H : Hd) (body : List UInt8) (hb : BlkAt W k H body p) (hq : W.length = q) (hr : k + r + 1024 = q) (hw : (H.size + 511) / 512 * 512 = wh) (hk' : k' = k + 512 + body.length + p) (hr' : k' + r' + 1024 = q) (hq1 : q ≤ 1000000000) (hbl : body.length ≤ 1000000) (hE : EntB e) (hty : ¬ (H.type.toNat : Int) = 120) (L : List Rcd) (hL : L.length ≤ 5) (hf : L = recsE e) (hmo : H.mode = e.mode) (hd : body = e.data.l) (hi : 0 ≤ i) (hi2 : i ≤ 1000000) (F : FinP)
    (ih : HD AB 0 [2, 3, 60, 61, 62] l10_1 ⟨EnvO ct tt t k' r' n (i + 1), [(0, .row (W.map .byte) 1)], 1⟩ [.blk 0, .code r10_2] F) :
    HD AB 0 [2, 3, 8, 9, 60, 61, 62] l10_0 ⟨EnvI ct tt t k r L.length n i, HeapI W e L, 3⟩ S10 F := by
  have hk := hb.lt
  have hl := encB_length H
  have hsz := hb.size
  obtain ⟨dv, hdv⟩ : ∃ dv : Int, dv = (H.size + 511) / 512 := ⟨_, rfl⟩
  have e1 : (0 : Int) < 1 → (H.size + 511).tdiv 512 = dv := fun _ => by
    rw [Int.tdiv_eq_ediv_of_nonneg (by omega)]
    exact hdv.symm
  rw [← hdv] at hw
  have hwh : (body.length : Int) + p = wh := by
    have := pad_whole body
    rw [padL_length] at this
    rw [hb.pad, ← hw, hdv, hb.size]
    unfold wholeN at this
    omega
  have hk2 : k + 512 + body.length + p + 1024 ≤ q := by omega
  have hdv3 : 0 ≤ dv ∧ dv ≤ 4000000 := by omega
  have hwl : wh ≤ 2000000000 ∧ 0 ≤ wh := by omega
  have e3 : (0 : Int) < 1 → dv * 512 = wh := fun _ => hw
  clear hdv hk hw
  have g1 := sl_to (k := k) (n := r) (b := 512) rfl (by omega)
  have g2 := sl_in (k := k) (n := r) (i := 512 + body.length) (m := p) (a := 512 + H.size) (b := 512 + wh) (by omega) (by omega) (by omega)
  have g3 := sl_in (k := k) (n := r) (i := 512) (m := body.length) (a := 512) (b := 512 + H.size) (by omega) (by omega) (by omega)
  have g4 := sl_from (k := k) (n := r) (i := 512 + body.length + p) (a := 512 + wh) (by omega) (by omega)
  rw [← Nat.add_assoc] at g2
  rw [show k + (512 + body.length + p) = k' by omega, show r - (512 + body.length + p) = r' by omega] at g4
  have p1 := part_map hb.hd
  have p2 := part_map hb.zeros
  have p3 := part_map hb.bdy
  have hdk := decOk_encB hb.ok
  have hdh := decH_encB hb.ok
  have c34 := fun c t => callT_ext (s34 (.mk c t (encB H)) (by rw [mk_l]; exact hl))
  simp only [mk_l, hdk, hdh, if_true, mk_av, Hd.av] at c34
  have c42 := fun c t => callT_ext (s42 (.mk c t (List.replicate p 0)) (by simp only [mk_l, List.length_replicate]; omega))
  have hz : zerosB (List.replicate p 0) = true := by simp [zerosB]
  simp only [mk_l, hz, mk_av] at c42
  have wl : (W.map AVal.byte).length = q := by rw [List.length_map]; exact hq
  clear hdk hdh
  obtain ⟨b1, b2, b3, b4, b5, b6, b7, b8⟩ := hE
  have c1 := callT_ext (s44 e.path b8)
  have c2 := callT_ext (i45 e.link b7)
  have c3 := callT_ext (i46 e.uid)
  have c4 := callT_ext (i46 e.gid)
  have c5 := callT_ext (i48 e.time)
  have d3 := callT_ext (s47 e.uid b3 b4)
  have d4 := callT_ext (s47 e.gid b1 b2)
  have d5 := callT_ext (s47 e.time b5 b6)
  obtain ⟨f1, f2, f3, f4, f5⟩ := find_recs e
  rw [← hf] at f1 f2 f3 f4 f5
  have k1 := fun c t => callT_ext (s43 (.mk c t L) (by simp only [RS.l]; omega) _ _ _ f1)
  have k2 := fun c t => callT_ext (s43 (.mk c t L) (by simp only [RS.l]; omega) _ _ _ f2)
  have k3 := fun c t => callT_ext (s43 (.mk c t L) (by simp only [RS.l]; omega) _ _ _ f3)
  have k4 := fun c t => callT_ext (s43 (.mk c t L) (by simp only [RS.l]; omega) _ _ _ f4)
  have k5 := fun c t => callT_ext (s43 (.mk c t L) (by simp only [RS.l]; omega) _ _ _ f5)
  simp only [RS.av] at k1 k2 k3 k4 k5
  dsimp only [EnvO] at ih
  dsimp only [EnvI, HeapI, S10]
  have hcb : k + 512 + body.length ≤ q := by omega
  have hdd := decide_eq_true (show body = e.data.l from hd)
  clear hb f1 f2 f3 f4 f5 hf
  generalize hS : H.size = S at *
  generalize encB H = B at *
  generalize (H.type.toNat : Int) = T at *
  refine hd_of (by unfold l10_0; rfl) ?_
  by_cases hl0 : e.link = []
  · have el : linkE e.link = true := by rw [hl0]; rfl
    have dl := decide_eq_true hl0
    rw [el] at k2
    have gg := trivial; repeat' first | simp (maxSteps := 2000000) (disch := omega) only [gg, g1, g2, g3, g4, p1, p2, p3, c34, c42, e1, e3, wl, hl, hmo, hdd, hcb, lp_head, go_sem] | (refine br ?_ ?_ <;> intro gg <;> try (exfalso; omega)) | (refine And.intro ?_ ?_; focus omega) | omega
    unfold r10_0
    have gg := trivial; repeat' first | simp (maxSteps := 2000000) (disch := omega) only [gg, c1, c3, c4, c5, d3, d4, d5, k1, k2, k3, k4, k5, dl, r10_1, lp_head, go_sem] | (refine br ?_ ?_ <;> intro gg <;> try (exfalso; omega)) | (refine And.intro ?_ ?_; focus omega) | omega
  · have el := linkE_ne hl0
    have dl := decide_eq_false hl0
    rw [el] at k2
    have gg := trivial; repeat' first | simp (maxSteps := 2000000) (disch := omega) only [gg, g1, g2, g3, g4, p1, p2, p3, c34, c42, e1, e3, wl, hl, hmo, hdd, hcb, lp_head, go_sem] | (refine br ?_ ?_ <;> intro gg <;> try (exfalso; omega)) | (refine And.intro ?_ ?_; focus omega) | omega
    unfold r10_0
    have gg := trivial; repeat' first | simp (maxSteps := 2000000) (disch := omega) only [gg, c1, c2, c3, c4, c5, d3, d4, d5, k1, k2, k3, k4, k5, dl, r10_1, lp_head, go_sem] | (refine br ?_ ?_ <;> intro gg <;> try (exfalso; omega)) | (refine And.intro ?_ ?_; focus omega) | omega
end Go.Abs
namespace Go.Abs
end Go.Abs
namespace Go.Abs
open Am
set_option maxRecDepth 20000
set_option linter.unusedSimpArgs false
end Go.Abs
namespace Go.Abs
open Go.Proofs Go.RowKit Am
set_option maxRecDepth 100000
set_option linter.unusedSimpArgs false
end Go.Abs
namespace Go.Abs
def b12 : AFn := ⟨3, 58, [(6, none)], (.seq (rg [oo 6 (.mov (.c (.bool false)))]) (.seq (.seq (rg [cl 11 39 [], oo 12 (.un .not (.t 11))]) (.cond (.t 12) (.seq (rg [oo 6 (.mov (.c (.bool false)))]) .ret) .skip)) (.seq (.seq (rg [mv 13 0, cl 14 40 [(.t 13)], oo 15 (.un .not (.t 14)), mv 16 15, og 17 (.mov (.t 2)) 16 false, og 18 (.bin .eql .other true (.t 17) (.c (.int .u8 0))) 16 false, oo 19 (.pick (.t 16) (.c (.bool true)) (.t 18))]) (.cond (.t 19) (.seq (rg [oo 6 (.mov (.c (.bool true)))]) .ret) .skip)) (.seq (rg [mv 21 0, cl 22 18 [(.t 21)], mv 20 22, oo 23 (.ext (.t 20) 0), oo 24 (.ext (.t 20) 1), mv 7 23, mv 8 24]) (.seq (.seq (rg [mv 25 8, oo 26 (.bin .neq .other true (.t 25) (ci 0))]) (.cond (.t 26) (.seq (rg [oo 6 (.mov (.c (.bool true)))]) .ret) .skip)) (.seq (rg [mv 27 7, mv 28 1, oo 29 (.cvi .u64 (.t 28)), mv 30 7, oo 31 (.len 1 (.t 30)), oo 32 (.cvi .u64 (.t 31)), oo 33 (.bin .rem .other false (.t 29) (.t 32)), oo 34 (.cvi .i64 (.t 33)), oo 35 (.ixa 1 (.t 27) (.t 34)), oo 36 (.ld 1 false (.t 35)), mv 37 2, oo 38 (.bin .xor .other false (.t 36) (.t 37)), oo 39 (.ixa 1 (.t 27) (.t 34)), ⟨none, (.st 1 (.t 39) (.t 38)), none⟩]) (.seq (rg [mv 41 7, cl 42 24 [(.t 41)], mv 40 42, oo 43 (.ext (.t 40) 0), oo 44 (.ext (.t 40) 1), mv 9 43, mv 10 44]) (.seq (rg [mv 45 10, oo 46 (.mkif 58 (ci 16)), oo 47 (.bin .eql (.iface [58]) false (.t 45) (.t 46)), mv 48 47, og 49 (.mov (.t 10)) 48 false, og 50 (.bin .eql (.iface [58]) true (.t 49) (.c (.lit .nilIface))) 48 false, og 51 (.mov (.t 50)) 48 false, og 52 (.mov (.t 9)) 51 true, og 53 (.mov (.t 0)) 51 true, og 54 (.call (.c (.func (.func 37) [])) [(.t 52), (.t 53)]) 51 true, og 55 (.un .not (.t 54)) 51 true, og 56 (.pick (.t 51) (.t 55) (.c (.bool false))) 48 false, oo 57 (.pick (.t 48) (.c (.bool true)) (.t 56)), mv 6 57]) .ret))))))))⟩
def l40_0 : ACode := (.seq (rg [oo 9 (.bin .lss .other false (.t 8) (.t 7))]) (.seq (.cond (.t 9) .skip (.exit 0)) (.seq (.block 1 (.seq (rg [oo 10 (.ixa 8 (.t 6) (.t 8)), oo 11 (.ld 8 true (.t 10)), oo 5 (.alloc [(.str []), (.int .i64 0), (.int .i64 0), (.int .i64 0), (.int .i64 0), (.int .i64 0), (.str []), (.lit (.slice none 0 0))]), ⟨none, (.st 8 (.t 5) (.t 11)), none⟩]) (.seq (rg [mv 12 3, oo 13 (.fa 7 (.t 5)), oo 14 (.ld 1 false (.t 13)), oo 15 (.len 1 (.t 14)), oo 16 (.bin .add .other true (ci 512) (.t 15)), oo 17 (.fa 0 (.t 5)), oo 18 (.ld 1 false (.t 17)), oo 19 (.len 0 (.t 18)), oo 20 (.bin .add .other false (.t 16) (.t 19)), oo 21 (.fa 6 (.t 5)), oo 22 (.ld 1 false (.t 21)), oo 23 (.len 0 (.t 22)), oo 24 (.bin .add .other false (.t 20) (.t 23)), oo 25 (.bin .add .other false (.t 12) (.t 24)), mv 3 25]) (.seq (rg [mv 26 3, oo 27 (.bin .gtr .other true (.t 26) (ci 65536))]) (.cond (.t 27) (.seq (rg [oo 2 (.mov (.c (.bool false)))]) .ret) .skip))))) (rg [oo 28 (.bin .add .other true (.t 8) (ci 1)), mv 8 28]))))
def r40_0 : ACode := (.seq (rg [oo 2 (.mov (.c (.bool true)))]) .ret)
def b40 : AFn := ⟨1, 29, [(2, none)], (.seq (rg [oo 2 (.mov (.c (.bool false)))]) (.seq (rg [oo 3 (.mov (ci 0))]) (.seq (.seq (rg [mv 6 0, oo 7 (.len 1 (.t 6)), oo 8 (.mov (ci 0))]) (.block 0 (.loop [2, 3, 6, 7, 8] l40_0))) r40_0)))⟩
theorem fn40 : AA.fn 40 = some b40 := by kernel_rfl
theorem np40 : AA.prim 40 = none := rfl
end Go.Abs
namespace Go.Abs
open Am
set_option maxRecDepth 20000
set_option linter.unusedSimpArgs false
theorem h40 (c tmp : Bool) (t : List Ent) (ht : t.length ≤ 140737488351232) (hq : ∀ e ∈ t, EntL e) (r0 : Bool) : ∀ (rest done : List Ent) (acc n i : Int), t = done ++ rest → i = done.length → n = t.length → 0 ≤ acc → acc ≤ 65536 → r0 = !largeB acc rest →
    HD AA 0 [2, 3, 6, 7, 8] l40_0 ⟨[.junk, .junk, .bool false, .int .i64 acc, .junk, .junk, .view 8 (t.map Ent.av) c tmp, .int .i64 n, .int .i64 i, .junk, .junk, .junk, .junk, .junk, .junk, .junk, .junk, .junk, .junk, .junk, .junk, .junk, .junk, .junk, .junk, .junk, .junk, .junk, .junk], [], 0⟩ [.blk 0, .code r40_0] (Fin [(2, none)] 0 (.bool r0) [])
  | [], done, acc, n, i, h1, h2, h3, h4, h5, h6 => by
    subst h1
    simp at h3
    refine hd_of (by unfold l40_0; rfl) ?_
    simp only [largeB, Bool.not_false] at h6
    rw [h6]
    have gg := trivial; repeat' first | simp (maxSteps := 2000000) (disch := omega) only [gg, r40_0, go_sem] | (refine br ?_ ?_ <;> intro gg <;> try (exfalso; omega)) | (refine And.intro ?_ ?_; focus omega) | omega
  | e :: rest, done, acc, n, i, h1, h2, h3, h4, h5, h6 => by
    have hg0 : t[i.toNat]? = some e := by
      rw [h1]
      simp [h2]
    have hl : i.toNat < t.length := by rw [h1]; simp; omega
    obtain ⟨l1, l2, l3⟩ := hq e (by simp [h1])
    unfold largeB at h6
    refine hd_of (by unfold l40_0; rfl) ?_
    by_cases hc : 65536 < acc + (512 + (e.data.l.length : Int) + e.path.length + e.link.length)
    · rw [if_pos hc, Bool.not_true] at h6
      rw [h6]
      have gg := trivial; repeat' first | simp (maxSteps := 2000000) (disch := omega) only [gg, hg0, lp_head, go_sem] | (refine br ?_ ?_ <;> intro gg <;> try (exfalso; omega)) | (refine And.intro ?_ ?_; focus omega) | omega
    · rw [if_neg hc] at h6
      have ih := h40 c tmp t ht hq r0 rest (done ++ [e]) (acc + (512 + (e.data.l.length : Int) + e.path.length + e.link.length)) n (i + 1) (by simp [h1]) (by first | omega | (simp; omega) | (simp; done)) h3 (by omega) (by omega) h6
      have gg := trivial; repeat' first | simp (maxSteps := 2000000) (disch := omega) only [gg, hg0, lp_head, go_sem] | (refine br ?_ ?_ <;> intro gg <;> try (exfalso; omega)) | (refine And.intro ?_ ?_; focus omega) | omega
theorem s40 (c tmp : Bool) (t : List Ent) (ht : t.length ≤ 140737488351232) (hq : ∀ e ∈ t, EntL e) : callT AA 40 [.view 8 (t.map Ent.av) c tmp] [] = some (.bool (!largeB 0 t), []) := by
  have hh := h40 c tmp t ht hq (!largeB 0 t) t [] 0 t.length 0 rfl rfl rfl (by omega) (by omega) rfl
  refine enter fn40 np40 rfl ?_
  have gg := trivial; repeat' first | simp (maxSteps := 2000000) (disch := omega) only [gg, b40, lp_head, go_sem] | (refine br ?_ ?_ <;> intro gg <;> try (exfalso; omega)) | (refine And.intro ?_ ?_; focus omega) | omega
theorem s40n : callT AA 40 [.lit (.slice none 0 0)] [] = some (.bool true, []) := by
  refine enter fn40 np40 rfl ?_
  have gg := trivial; repeat' first | simp (maxSteps := 2000000) (disch := omega) only [gg, b40, lp_head, go_sem] | (refine br ?_ ?_ <;> intro gg <;> try (exfalso; omega)) | (refine And.intro ?_ ?_; focus omega) | omega
  refine hd_of (by unfold l40_0; rfl) ?_
  have gg := trivial; repeat' first | simp (maxSteps := 2000000) (disch := omega) only [gg, r40_0, go_sem] | (refine br ?_ ?_ <;> intro gg <;> try (exfalso; omega)) | (refine And.intro ?_ ?_; focus omega) | omega
instance decSame {x y : Ent} : Decidable (SameE x y) := by
  unfold SameE
  infer_instance
end Go.Abs
namespace Go.Abs
def l125_0 : ACode := (.seq (.seq (rg [mv 6 5, mv 7 0, oo 8 (.len 0 (.t 7)), oo 9 (.bin .leq .other false (.t 6) (.t 8))]) (.cond (.t 9) .skip (.exit 0))) (.seq (.block 1 (.seq (rg [mv 12 5, mv 13 0, oo 14 (.len 0 (.t 13)), oo 15 (.bin .eql .other false (.t 12) (.t 14)), mv 16 15, og 17 (.mov (.t 0)) 16 false, og 18 (.mov (.t 5)) 16 false, og 19 (.ixs (.t 17) (.t 18)) 16 false, og 20 (.bin .eql .other true (.t 19) (.c (.int .u8 47))) 16 false, oo 21 (.pick (.t 16) (.c (.bool true)) (.t 20))]) (.cond (.t 21) (.seq (rg [mv 22 3, mv 23 0, mv 24 4, mv 25 5, oo 26 (.slct (.t 23) (some (.t 24)) (some (.t 25))), oo 27 (.bslice 1 1 [(.str [])] [(.t 26)]), oo 28 (.app 16 1 (.t 22) (.t 27)), mv 3 28]) (rg [mv 29 5, oo 30 (.bin .add .other true (.t 29) (ci 1)), mv 4 30])) .skip))) (rg [mv 10 5, oo 11 (.bin .add .other true (.t 10) (ci 1)), mv 5 11])))
def r125_0 : ACode := (.seq (rg [mv 31 3, mv 2 31]) .ret)
def b125 : AFn := ⟨1, 32, [(2, none)], (.seq (rg [oo 2 (.mov (.c (.lit (.slice none 0 0))))]) (.seq (rg [oo 3 (.mov (.c (.lit (.slice none 0 0))))]) (.seq (rg [oo 4 (.mov (ci 0))]) (.seq (.seq (rg [oo 5 (.mov (ci 0))]) (.block 0 (.loop [0, 2, 3, 4, 5] l125_0))) r125_0))))⟩
theorem fn125 : AA.fn 125 = some b125 := by kernel_rfl
theorem np125 : AA.prim 125 = none := rfl
def l160_0 : ACode := (.seq (.seq (rg [mv 58 8, mv 59 5, oo 60 (.bin .lss .other false (.t 58) (.t 59))]) (.cond (.t 60) .skip (.exit 3))) (.seq (.block 4 (.seq (.seq (rg [mv 63 0, mv 64 3, mv 65 8, oo 66 (.bin .add .other false (.t 64) (.t 65)), oo 67 (.ixs (.t 63) (.t 66)), mv 68 6, oo 69 (.bin .lss .other false (.t 67) (.t 68)), mv 70 69, og 71 (.mov (.t 0)) 70 false, og 72 (.mov (.t 3)) 70 false, og 73 (.mov (.t 8)) 70 false, og 74 (.bin .add .other false (.t 72) (.t 73)) 70 false, og 75 (.ixs (.t 71) (.t 74)) 70 false, og 76 (.mov (.t 7)) 70 false, og 77 (.bin .gtr .other false (.t 75) (.t 76)) 70 false, oo 78 (.pick (.t 70) (.c (.bool true)) (.t 77))]) (.cond (.t 78) (.seq (rg [oo 2 (.mov (.c (.bool false)))]) .ret) .skip)) (.seq (rg [oo 6 (.mov (.c (.int .u8 128)))]) (rg [oo 7 (.mov (.c (.int .u8 191)))])))) (rg [mv 61 8, oo 62 (.bin .add .other true (.t 61) (ci 1)), mv 8 62])))
def r160_0 : ACode := (rg [mv 79 3, mv 80 5, oo 81 (.bin .add .other false (.t 79) (.t 80)), mv 3 81])
def l160_1 : ACode := (.seq (.seq (rg [mv 9 3, mv 10 0, oo 11 (.len 0 (.t 10)), oo 12 (.bin .lss .other false (.t 9) (.t 11))]) (.cond (.t 12) .skip (.exit 0))) (.block 1 (.seq (rg [mv 13 0, mv 14 3, oo 15 (.ixs (.t 13) (.t 14)), mv 4 15]) (.seq (rg [oo 5 (.mov (ci 0))]) (.seq (rg [oo 6 (.mov (.c (.int .u8 128)))]) (.seq (rg [oo 7 (.mov (.c (.int .u8 191)))]) (.seq (.block 2 (.seq (rg [mv 17 4, oo 18 (.bin .lss .other true (.t 17) (.c (.int .u8 128))), mv 16 18]) (.cond (.t 16) (rg [oo 5 (.mov (ci 1))]) (.seq (rg [mv 20 4, oo 21 (.bin .geq .other true (.t 20) (.c (.int .u8 194))), mv 22 21, og 23 (.mov (.t 4)) 22 true, og 24 (.bin .leq .other true (.t 23) (.c (.int .u8 223))) 22 true, oo 25 (.pick (.t 22) (.t 24) (.c (.bool false))), mv 19 25]) (.cond (.t 19) (rg [oo 5 (.mov (ci 2))]) (.seq (rg [mv 27 4, oo 28 (.bin .geq .other true (.t 27) (.c (.int .u8 224))), mv 29 28, og 30 (.mov (.t 4)) 29 true, og 31 (.bin .leq .other true (.t 30) (.c (.int .u8 239))) 29 true, oo 32 (.pick (.t 29) (.t 31) (.c (.bool false))), mv 26 32]) (.cond (.t 26) (.seq (rg [oo 5 (.mov (ci 3))]) (.seq (.seq (rg [mv 33 4, oo 34 (.bin .eql .other true (.t 33) (.c (.int .u8 224)))]) (.cond (.t 34) (rg [oo 6 (.mov (.c (.int .u8 160)))]) .skip)) (.seq (rg [mv 35 4, oo 36 (.bin .eql .other true (.t 35) (.c (.int .u8 237)))]) (.cond (.t 36) (rg [oo 7 (.mov (.c (.int .u8 159)))]) .skip)))) (.seq (rg [mv 38 4, oo 39 (.bin .geq .other true (.t 38) (.c (.int .u8 240))), mv 40 39, og 41 (.mov (.t 4)) 40 true, og 42 (.bin .leq .other true (.t 41) (.c (.int .u8 244))) 40 true, oo 43 (.pick (.t 40) (.t 42) (.c (.bool false))), mv 37 43]) (.cond (.t 37) (.seq (rg [oo 5 (.mov (ci 4))]) (.seq (.seq (rg [mv 44 4, oo 45 (.bin .eql .other true (.t 44) (.c (.int .u8 240)))]) (.cond (.t 45) (rg [oo 6 (.mov (.c (.int .u8 144)))]) .skip)) (.seq (rg [mv 46 4, oo 47 (.bin .eql .other true (.t 46) (.c (.int .u8 244)))]) (.cond (.t 47) (rg [oo 7 (.mov (.c (.int .u8 143)))]) .skip)))) .skip))))))))) (.seq (.seq (rg [mv 48 5, oo 49 (.bin .eql .other true (.t 48) (ci 0)), mv 50 49, og 51 (.mov (.t 3)) 50 false, og 52 (.mov (.t 5)) 50 false, og 53 (.bin .add .other false (.t 51) (.t 52)) 50 false, og 54 (.mov (.t 0)) 50 false, og 55 (.len 0 (.t 54)) 50 false, og 56 (.bin .gtr .other false (.t 53) (.t 55)) 50 false, oo 57 (.pick (.t 50) (.c (.bool true)) (.t 56))]) (.cond (.t 57) (.seq (rg [oo 2 (.mov (.c (.bool false)))]) .ret) .skip)) (.seq (.seq (rg [oo 8 (.mov (ci 1))]) (.block 3 (.loop [0, 2, 3, 5, 6, 7, 8] l160_0))) r160_0)))))))))
def r160_1 : ACode := (.seq (rg [oo 2 (.mov (.c (.bool true)))]) .ret)
def b160 : AFn := ⟨1, 82, [(2, none)], (.seq (rg [oo 2 (.mov (.c (.bool false)))]) (.seq (.seq (rg [oo 3 (.mov (ci 0))]) (.block 0 (.loop [0, 2, 3] l160_1))) r160_1))⟩
theorem fn160 : AA.fn 160 = some b160 := by kernel_rfl
theorem np160 : AA.prim 160 = none := rfl
def l124_0 : ACode := (.seq (.seq (rg [mv 15 5, mv 16 0, oo 17 (.len 0 (.t 16)), oo 18 (.bin .lss .other false (.t 15) (.t 17))]) (.cond (.t 18) .skip (.exit 0))) (.seq (.block 1 (.seq (rg [mv 21 0, mv 22 5, oo 23 (.ixs (.t 21) (.t 22)), oo 24 (.bin .eql .other true (.t 23) (.c (.int .u8 0)))]) (.cond (.t 24) (.seq (rg [oo 4 (.mov (.c (.bool false)))]) .ret) .skip))) (rg [mv 19 5, oo 20 (.bin .add .other true (.t 19) (ci 1)), mv 5 20])))
def r124_0 : ACode := (.seq (rg [mv 25 0, cl 26 160 [(.t 25)], mv 4 26]) .ret)
def b124 : AFn := ⟨2, 27, [(4, none)], (.seq (rg [oo 4 (.mov (.c (.bool false)))]) (.seq (.seq (rg [mv 6 0, oo 7 (.len 0 (.t 6)), oo 8 (.bin .lss .other true (.t 7) (ci 1)), mv 9 8, og 10 (.mov (.t 0)) 9 false, og 11 (.len 0 (.t 10)) 9 false, og 12 (.mov (.t 1)) 9 false, og 13 (.bin .gtr .other false (.t 11) (.t 12)) 9 false, oo 14 (.pick (.t 9) (.c (.bool true)) (.t 13))]) (.cond (.t 14) (.seq (rg [oo 4 (.mov (.c (.bool false)))]) .ret) .skip)) (.seq (.seq (rg [oo 5 (.mov (ci 0))]) (.block 0 (.loop [0, 4, 5] l124_0))) r124_0)))⟩
theorem fn124 : AA.fn 124 = some b124 := by kernel_rfl
theorem np124 : AA.prim 124 = none := rfl
def b159 : AFn := ⟨1, 19, [(2, none)], (.seq (rg [oo 2 (.mov (.c (.bool false)))]) (.seq (rg [mv 3 0, cl 4 124 [(.t 3), (ci 120)], mv 5 4, og 6 (.mov (.t 0)) 5 true, og 7 (.bin .neq .other true (.t 6) (.c (.str [46]))) 5 true, oo 8 (.pick (.t 5) (.t 7) (.c (.bool false))), mv 9 8, og 10 (.mov (.t 0)) 9 true, og 11 (.bin .neq .other true (.t 10) (.c (.str [46, 46]))) 9 true, oo 12 (.pick (.t 9) (.t 11) (.c (.bool false))), mv 13 12, og 14 (.mov (.t 0)) 13 true, og 15 (.call (.c (.func (.func 125) [])) [(.t 14)]) 13 true, og 16 (.len 1 (.t 15)) 13 true, og 17 (.bin .eql .other true (.t 16) (ci 1)) 13 true, oo 18 (.pick (.t 13) (.t 17) (.c (.bool false))), mv 2 18]) .ret))⟩
theorem fn159 : AA.fn 159 = some b159 := by kernel_rfl
theorem np159 : AA.prim 159 = none := rfl
def l122_0 : ACode := (.seq (.seq (rg [mv 10 4, mv 11 3, oo 12 (.len 1 (.t 11)), oo 13 (.bin .lss .other false (.t 10) (.t 12))]) (.cond (.t 13) .skip (.exit 0))) (.seq (.block 1 (.seq (rg [mv 16 3, mv 17 4, oo 18 (.ixa 1 (.t 16) (.t 17)), oo 19 (.ld 1 false (.t 18)), cl 20 159 [(.t 19)], oo 21 (.un .not (.t 20))]) (.cond (.t 21) (.seq (rg [oo 2 (.mov (.c (.lit (.slice none 0 0))))]) .ret) .skip))) (rg [mv 14 4, oo 15 (.bin .add .other true (.t 14) (ci 1)), mv 4 15])))
def r122_0 : ACode := (.seq (rg [mv 22 3, mv 2 22]) .ret)
def b122 : AFn := ⟨1, 23, [(2, none)], (.seq (rg [oo 2 (.mov (.c (.lit (.slice none 0 0))))]) (.seq (.seq (rg [mv 5 0, oo 6 (.len 0 (.t 5)), oo 7 (.bin .gtr .other true (.t 6) (ci 400))]) (.cond (.t 7) (.seq (rg [oo 2 (.mov (.c (.lit (.slice none 0 0))))]) .ret) .skip)) (.seq (rg [mv 8 0, cl 9 125 [(.t 8)], mv 3 9]) (.seq (.seq (rg [oo 4 (.mov (ci 0))]) (.block 0 (.loop [2, 3, 4] l122_0))) r122_0))))⟩
theorem fn122 : AA.fn 122 = some b122 := by kernel_rfl
theorem np122 : AA.prim 122 = none := rfl
def b75 : AFn := ⟨1, 7, [(2, none)], (.seq (rg [oo 2 (.mov (.c (.bool false)))]) (.seq (rg [mv 3 0, cl 4 122 [(.t 3)], oo 5 (.len 1 (.t 4)), oo 6 (.bin .gtr .other true (.t 5) (ci 0)), mv 2 6]) .ret))⟩
theorem fn75 : AA.fn 75 = some b75 := by kernel_rfl
theorem np75 : AA.prim 75 = none := rfl
def l123_0 : ACode := (.seq (.seq (rg [mv 7 5, mv 8 0, oo 9 (.len 1 (.t 8)), oo 10 (.bin .lss .other false (.t 7) (.t 9))]) (.cond (.t 10) .skip (.exit 0))) (.seq (.block 1 (.seq (.seq (rg [mv 13 0, mv 14 5, oo 15 (.ixa 1 (.t 13) (.t 14)), oo 16 (.ld 1 false (.t 15)), cl 17 159 [(.t 16)], oo 18 (.un .not (.t 17))]) (.cond (.t 18) (.seq (rg [oo 2 (.mov (.c (.str []))), oo 3 (.mov (ci 12))]) .ret) .skip)) (.seq (.seq (rg [mv 19 5, oo 20 (.bin .gtr .other true (.t 19) (ci 0))]) (.cond (.t 20) (rg [mv 21 4, oo 22 (.bslice 1 1 [(.int .u8 0)] [(.c (.int .u8 47))]), oo 23 (.app 1 1 (.t 21) (.t 22)), mv 4 23]) .skip)) (.seq (rg [mv 24 4, mv 25 0, mv 26 5, oo 27 (.ixa 1 (.t 25) (.t 26)), oo 28 (.ld 1 false (.t 27)), oo 29 (.app 1 1 (.t 24) (.t 28)), mv 4 29]) (.seq (rg [mv 30 4, oo 31 (.len 1 (.t 30)), oo 32 (.bin .gtr .other true (.t 31) (ci 400))]) (.cond (.t 32) (.seq (rg [oo 2 (.mov (.c (.str []))), oo 3 (.mov (ci 12))]) .ret) .skip)))))) (rg [mv 11 5, oo 12 (.bin .add .other true (.t 11) (ci 1)), mv 5 12])))
def r123_0 : ACode := (.seq (.seq (rg [mv 33 0, oo 34 (.len 1 (.t 33)), oo 35 (.bin .eql .other true (.t 34) (ci 0))]) (.cond (.t 35) (.seq (rg [oo 2 (.mov (.c (.str []))), oo 3 (.mov (ci 12))]) .ret) .skip)) (.seq (rg [mv 36 4, oo 37 (.cvbs (.t 36)), mv 2 37, oo 3 (.mov (ci 0))]) .ret))
def b123 : AFn := ⟨1, 38, [(2, none), (3, none)], (.seq (rg [oo 2 (.mov (.c (.str []))), oo 3 (.mov (ci 0))]) (.seq (rg [oo 6 (.bslice 1 0 [(.int .u8 0)] []), mv 4 6]) (.seq (.seq (rg [oo 5 (.mov (ci 0))]) (.block 0 (.loop [0, 2, 3, 4, 5] l123_0))) r123_0)))⟩
theorem fn123 : AA.fn 123 = some b123 := by kernel_rfl
theorem np123 : AA.prim 123 = none := rfl
def b76 : AFn := ⟨1, 22, [(2, none), (3, none)], (.seq (rg [oo 2 (.mov (.c (.str []))), oo 3 (.mov (.c (.bool false)))]) (.seq (rg [mv 7 0, cl 8 122 [(.t 7)], mv 4 8]) (.seq (.seq (rg [mv 9 4, oo 10 (.len 1 (.t 9)), oo 11 (.bin .lss .other true (.t 10) (ci 2))]) (.cond (.t 11) (.seq (rg [oo 2 (.mov (.c (.str []))), oo 3 (.mov (.c (.bool false)))]) .ret) .skip)) (.seq (rg [mv 13 4, mv 14 4, oo 15 (.len 1 (.t 14)), oo 16 (.bin .sub .other true (.t 15) (ci 1)), oo 17 (.slc 1 (.t 13) none (some (.t 16)) none), cl 18 123 [(.t 17)], mv 12 18, oo 19 (.ext (.t 12) 0), oo 20 (.ext (.t 12) 1), mv 5 19, mv 6 20]) (.seq (rg [mv 21 5, mv 2 21, oo 3 (.mov (.c (.bool true)))]) .ret)))))⟩
theorem fn76 : AA.fn 76 = some b76 := by kernel_rfl
theorem np76 : AA.prim 76 = none := rfl
def b77 : AFn := ⟨1, 94, [(2, none)], (.seq (rg [oo 1 (.box (.t 0)), oo 2 (.mov (.c (.bool false)))]) (.seq (.seq (rg [oo 3 (.fa 2 (.t 1)), oo 4 (.ld 1 false (.t 3)), oo 5 (.bin .lss .other true (.t 4) (ci 0)), mv 6 5, og 7 (.fa 2 (.t 1)) 6 false, og 8 (.ld 1 false (.t 7)) 6 false, og 9 (.bin .gtr .other true (.t 8) (ci 4095)) 6 false, oo 10 (.pick (.t 6) (.c (.bool true)) (.t 9)), mv 11 10, og 12 (.fa 3 (.t 1)) 11 false, og 13 (.ld 1 false (.t 12)) 11 false, og 14 (.bin .lss .other true (.t 13) (ci 0)) 11 false, oo 15 (.pick (.t 11) (.c (.bool true)) (.t 14)), mv 16 15, og 17 (.fa 3 (.t 1)) 16 false, og 18 (.ld 1 false (.t 17)) 16 false, og 19 (.bin .gtr .other true (.t 18) (ci 1099511627776)) 16 false, oo 20 (.pick (.t 16) (.c (.bool true)) (.t 19)), mv 21 20, og 22 (.fa 4 (.t 1)) 21 false, og 23 (.ld 1 false (.t 22)) 21 false, og 24 (.bin .lss .other true (.t 23) (ci 0)) 21 false, oo 25 (.pick (.t 21) (.c (.bool true)) (.t 24)), mv 26 25, og 27 (.fa 4 (.t 1)) 26 false, og 28 (.ld 1 false (.t 27)) 26 false, og 29 (.bin .gtr .other true (.t 28) (ci 1099511627776)) 26 false, oo 30 (.pick (.t 26) (.c (.bool true)) (.t 29)), mv 31 30, og 32 (.fa 5 (.t 1)) 31 false, og 33 (.ld 1 false (.t 32)) 31 false, og 34 (.bin .lss .other true (.t 33) (.c (.int .i64 (-1099511627776)))) 31 false, oo 35 (.pick (.t 31) (.c (.bool true)) (.t 34)), mv 36 35, og 37 (.fa 5 (.t 1)) 36 false, og 38 (.ld 1 false (.t 37)) 36 false, og 39 (.bin .gtr .other true (.t 38) (ci 1099511627776)) 36 false, oo 40 (.pick (.t 36) (.c (.bool true)) (.t 39))]) (.cond (.t 40) (.seq (rg [oo 2 (.mov (.c (.bool false)))]) .ret) .skip)) (.seq (.seq (rg [oo 41 (.fa 1 (.t 1)), oo 42 (.ld 1 false (.t 41)), oo 43 (.bin .eql .other true (.t 42) (ci 2))]) (.cond (.t 43) (.seq (rg [oo 44 (.fa 6 (.t 1)), oo 45 (.ld 1 false (.t 44)), oo 46 (.bin .eql .other true (.t 45) (.c (.str []))), mv 47 46, og 48 (.fa 7 (.t 1)) 47 true, og 49 (.ld 1 false (.t 48)) 47 true, og 50 (.len 1 (.t 49)) 47 true, og 51 (.bin .leq .other true (.t 50) (ci 65536)) 47 true, oo 52 (.pick (.t 47) (.t 51) (.c (.bool false))), mv 2 52]) .ret) .skip)) (.seq (.seq (rg [oo 53 (.fa 7 (.t 1)), oo 54 (.ld 1 false (.t 53)), oo 55 (.len 1 (.t 54)), oo 56 (.bin .gtr .other true (.t 55) (ci 0))]) (.cond (.t 56) (.seq (rg [oo 2 (.mov (.c (.bool false)))]) .ret) .skip)) (.seq (.seq (rg [oo 57 (.fa 1 (.t 1)), oo 58 (.ld 1 false (.t 57))]) (.block 0 (.seq (rg [oo 60 (.bin .eql .other true (.t 58) (ci 1)), mv 59 60]) (.cond (.t 59) (.seq (rg [oo 61 (.fa 6 (.t 1)), oo 62 (.ld 1 false (.t 61)), oo 63 (.bin .eql .other true (.t 62) (.c (.str []))), mv 2 63]) .ret) (.seq (rg [oo 65 (.bin .eql .other true (.t 58) (ci 3)), mv 64 65]) (.cond (.t 64) (.seq (rg [oo 66 (.fa 6 (.t 1)), oo 67 (.ld 1 false (.t 66)), cl 68 124 [(.t 67), (ci 400)], mv 2 68]) .ret) (.seq (rg [oo 70 (.bin .eql .other true (.t 58) (ci 4)), mv 69 70]) (.cond (.t 69) (.seq (rg [oo 71 (.fa 6 (.t 1)), oo 72 (.ld 1 false (.t 71)), cl 73 75 [(.t 72)], mv 74 73, og 75 (.fa 2 (.t 1)) 74 true, og 76 (.ld 1 false (.t 75)) 74 true, og 77 (.bin .eql .other true (.t 76) (ci 0)) 74 true, oo 78 (.pick (.t 74) (.t 77) (.c (.bool false))), mv 79 78, og 80 (.fa 3 (.t 1)) 79 true, og 81 (.ld 1 false (.t 80)) 79 true, og 82 (.bin .eql .other true (.t 81) (ci 0)) 79 true, oo 83 (.pick (.t 79) (.t 82) (.c (.bool false))), mv 84 83, og 85 (.fa 4 (.t 1)) 84 true, og 86 (.ld 1 false (.t 85)) 84 true, og 87 (.bin .eql .other true (.t 86) (ci 0)) 84 true, oo 88 (.pick (.t 84) (.t 87) (.c (.bool false))), mv 89 88, og 90 (.fa 5 (.t 1)) 89 true, og 91 (.ld 1 false (.t 90)) 89 true, og 92 (.bin .eql .other true (.t 91) (ci 0)) 89 true, oo 93 (.pick (.t 89) (.t 92) (.c (.bool false))), mv 2 93]) .ret) .skip)))))))) (.seq (rg [oo 2 (.mov (.c (.bool false)))]) .ret))))))⟩
theorem fn77 : AA.fn 77 = some b77 := by kernel_rfl
theorem np77 : AA.prim 77 = none := rfl
def l78_0 : ACode := (.seq (.seq (rg [mv 12 7, mv 13 5, oo 14 (.len 1 (.t 13)), oo 15 (.bin .lss .other false (.t 12) (.t 14)), mv 16 15, og 17 (.mov (.t 7)) 16 true, og 18 (.mov (.t 6)) 16 true, og 19 (.len 1 (.t 18)) 16 true, og 20 (.bin .lss .other false (.t 17) (.t 19)) 16 true, oo 21 (.pick (.t 16) (.t 20) (.c (.bool false)))]) (.cond (.t 21) .skip (.exit 0))) (.seq (.block 1 (.seq (.seq (.reg true [(3, 4), (3, 5), (3, 6), (0, 7), (1, 7), (2, 7), (3, 7)] [mv 24 5, mv 25 7, oo 26 (.ixa 1 (.t 24) (.t 25)), oo 27 (.ld 1 false (.t 26)), mv 28 6, mv 29 7, oo 30 (.ixa 1 (.t 28) (.t 29)), oo 31 (.ld 1 false (.t 30)), oo 32 (.bin .lss .other false (.t 27) (.t 31))]) (.cond (.t 32) (.seq (rg [oo 4 (.mov (.c (.int .i64 (-1))))]) .ret) .skip)) (.seq (.reg true [(3, 4), (3, 5), (3, 6), (0, 7), (1, 7), (2, 7), (3, 7)] [mv 33 5, mv 34 7, oo 35 (.ixa 1 (.t 33) (.t 34)), oo 36 (.ld 1 false (.t 35)), mv 37 6, mv 38 7, oo 39 (.ixa 1 (.t 37) (.t 38)), oo 40 (.ld 1 false (.t 39)), oo 41 (.bin .gtr .other false (.t 36) (.t 40))]) (.cond (.t 41) (.seq (rg [oo 4 (.mov (ci 1))]) .ret) .skip)))) (rg [mv 22 7, oo 23 (.bin .add .other true (.t 22) (ci 1)), mv 7 23])))
def r78_0 : ACode := (.seq (.seq (rg [mv 42 5, oo 43 (.len 1 (.t 42)), mv 44 6, oo 45 (.len 1 (.t 44)), oo 46 (.bin .lss .other false (.t 43) (.t 45))]) (.cond (.t 46) (.seq (rg [oo 4 (.mov (.c (.int .i64 (-1))))]) .ret) .skip)) (.seq (.seq (rg [mv 47 5, oo 48 (.len 1 (.t 47)), mv 49 6, oo 50 (.len 1 (.t 49)), oo 51 (.bin .gtr .other false (.t 48) (.t 50))]) (.cond (.t 51) (.seq (rg [oo 4 (.mov (ci 1))]) .ret) .skip)) (.seq (rg [oo 4 (.mov (ci 0))]) .ret)))
def b78 : AFn := ⟨2, 52, [(4, none)], (.seq (rg [oo 4 (.mov (ci 0))]) (.seq (rg [mv 8 0, cl 9 125 [(.t 8)], mv 5 9]) (.seq (rg [mv 10 1, cl 11 125 [(.t 10)], mv 6 11]) (.seq (.seq (rg [oo 7 (.mov (ci 0))]) (.block 0 (.loop [4, 5, 6, 7] l78_0))) r78_0))))⟩
theorem fn78 : AA.fn 78 = some b78 := by kernel_rfl
theorem np78 : AA.prim 78 = none := rfl
def l79_0 : ACode := (.seq (.seq (rg [mv 8 7, mv 9 1, oo 10 (.bin .lss .other false (.t 8) (.t 9))]) (.cond (.t 10) .skip (.exit 0))) (.seq (.block 1 (.seq (rg [mv 13 0, mv 14 7, oo 15 (.ixa 8 (.t 13) (.t 14)), oo 16 (.fa 0 (.t 15)), oo 17 (.ld 1 false (.t 16)), mv 18 2, oo 19 (.bin .eql .other false (.t 17) (.t 18))]) (.cond (.t 19) (.seq (rg [mv 20 0, mv 21 7, oo 22 (.ixa 8 (.t 20) (.t 21)), oo 23 (.fa 1 (.t 22)), oo 24 (.ld 1 false (.t 23)), mv 6 24]) .ret) .skip))) (rg [mv 11 7, oo 12 (.bin .add .other true (.t 11) (ci 1)), mv 7 12])))
def r79_0 : ACode := (.seq (rg [oo 6 (.mov (ci 0))]) .ret)
def b79 : AFn := ⟨3, 25, [(6, none)], (.seq (rg [oo 6 (.mov (ci 0))]) (.seq (.seq (rg [oo 7 (.mov (ci 0))]) (.block 0 (.loop [0, 1, 2, 6, 7] l79_0))) r79_0))⟩
theorem fn79 : AA.fn 79 = some b79 := by kernel_rfl
theorem np79 : AA.prim 79 = none := rfl
def l41_0 : ACode := (.seq (.seq (rg [mv 15 5, mv 16 0, oo 17 (.len 1 (.t 16)), oo 18 (.bin .lss .other false (.t 15) (.t 17))]) (.cond (.t 18) .skip (.exit 0))) (.seq (.block 1 (.seq (rg [mv 21 0, mv 22 5, oo 23 (.ixa 8 (.t 21) (.t 22)), oo 24 (.ld 8 true (.t 23)), oo 6 (.alloc [(.str []), (.int .i64 0), (.int .i64 0), (.int .i64 0), (.int .i64 0), (.int .i64 0), (.str []), (.lit (.slice none 0 0))]), ⟨none, (.st 8 (.t 6) (.t 24)), none⟩]) (.seq (.seq (rg [oo 25 (.fa 0 (.t 6)), oo 26 (.ld 1 false (.t 25)), cl 27 75 [(.t 26)], oo 28 (.un .not (.t 27))]) (.cond (.t 28) (.seq (rg [mv 29 5, mv 2 29, oo 3 (.mov (ci 12))]) .ret) .skip)) (.seq (rg [oo 31 (.fa 0 (.t 6)), oo 32 (.ld 1 false (.t 31)), cl 33 76 [(.t 32)], mv 30 33, oo 34 (.ext (.t 30) 0), oo 35 (.ext (.t 30) 1), mv 7 34, mv 8 35]) (.seq (rg [oo 36 (.ld 8 true (.t 6)), cl 37 77 [(.t 36)], oo 38 (.un .not (.t 37)), mv 9 38]) (.seq (.reg true [(10, 11), (5, 12), (6, 12), (7, 12), (8, 12), (9, 12), (10, 12)] [mv 39 9, mv 40 39, og 41 (.mov (.t 5)) 40 false, og 42 (.bin .gtr .other true (.t 41) (ci 0)) 40 false, og 43 (.mov (.t 42)) 40 false, og 44 (.mov (.t 0)) 43 true, og 45 (.mov (.t 5)) 43 true, og 46 (.bin .sub .other true (.t 45) (ci 1)) 43 true, og 47 (.ixa 8 (.t 44) (.t 46)) 43 true, og 48 (.fa 0 (.t 47)) 43 true, og 49 (.ld 1 false (.t 48)) 43 true, og 50 (.fa 0 (.t 6)) 43 true, og 51 (.ld 1 false (.t 50)) 43 true, og 52 (.call (.c (.func (.func 78) [])) [(.t 49), (.t 51)]) 43 true, og 53 (.bin .neq .other true (.t 52) (.c (.int .i64 (-1)))) 43 true, og 54 (.pick (.t 43) (.t 53) (.c (.bool false))) 40 false, oo 55 (.pick (.t 40) (.c (.bool true)) (.t 54)), mv 9 55]) (.seq (rg [mv 56 9, mv 57 56, og 58 (.mov (.t 8)) 57 false, og 59 (.mov (.t 58)) 57 false, og 60 (.mov (.t 0)) 59 true, og 61 (.mov (.t 5)) 59 true, og 62 (.mov (.t 7)) 59 true, og 63 (.call (.c (.func (.func 79) [])) [(.t 60), (.t 61), (.t 62)]) 59 true, og 64 (.bin .neq .other true (.t 63) (ci 1)) 59 true, og 65 (.pick (.t 59) (.t 64) (.c (.bool false))) 57 false, oo 66 (.pick (.t 57) (.c (.bool true)) (.t 65)), mv 9 66]) (.seq (rg [mv 67 9, mv 68 67, og 69 (.fa 1 (.t 6)) 68 false, og 70 (.ld 1 false (.t 69)) 68 false, og 71 (.bin .eql .other true (.t 70) (ci 4)) 68 false, og 72 (.mov (.t 71)) 68 false, og 73 (.mov (.t 0)) 72 true, og 74 (.mov (.t 5)) 72 true, og 75 (.fa 6 (.t 6)) 72 true, og 76 (.ld 1 false (.t 75)) 72 true, og 77 (.call (.c (.func (.func 79) [])) [(.t 73), (.t 74), (.t 76)]) 72 true, og 78 (.bin .neq .other true (.t 77) (ci 2)) 72 true, og 79 (.pick (.t 72) (.t 78) (.c (.bool false))) 68 false, oo 80 (.pick (.t 68) (.c (.bool true)) (.t 79)), mv 9 80]) (.seq (.seq (rg [mv 81 9]) (.cond (.t 81) (.seq (rg [mv 82 5, mv 2 82, oo 3 (.mov (ci 13))]) .ret) .skip)) (.seq (rg [mv 83 4, oo 84 (.fa 7 (.t 6)), oo 85 (.ld 1 false (.t 84)), oo 86 (.len 1 (.t 85)), oo 87 (.bin .add .other false (.t 83) (.t 86)), mv 4 87]) (.seq (rg [mv 88 4, oo 89 (.bin .gtr .other true (.t 88) (ci 1048576))]) (.cond (.t 89) (.seq (rg [mv 90 5, mv 2 90, oo 3 (.mov (ci 18))]) .ret) .skip)))))))))))) (rg [mv 19 5, oo 20 (.bin .add .other true (.t 19) (ci 1)), mv 5 20])))
def r41_0 : ACode := (.seq (rg [oo 2 (.mov (.c (.int .i64 (-1)))), oo 3 (.mov (ci 0))]) .ret)
def b41 : AFn := ⟨1, 91, [(2, none), (3, none)], (.seq (rg [oo 2 (.mov (ci 0)), oo 3 (.mov (ci 0))]) (.seq (.seq (rg [mv 10 0, oo 11 (.len 1 (.t 10)), oo 12 (.bin .gtr .other true (.t 11) (ci 200))]) (.cond (.t 12) (.seq (rg [mv 13 0, oo 14 (.len 1 (.t 13)), mv 2 14, oo 3 (.mov (ci 19))]) .ret) .skip)) (.seq (rg [oo 4 (.mov (ci 0))]) (.seq (.seq (rg [oo 5 (.mov (ci 0))]) (.block 0 (.loop [0, 2, 3, 4, 5] l41_0))) r41_0))))⟩
theorem fn41 : AA.fn 41 = some b41 := by kernel_rfl
theorem np41 : AA.prim 41 = none := rfl
end Go.Abs
namespace Go.Abs
open Am
set_option maxRecDepth 10000
set_option linter.unusedSimpArgs false
theorem split_mid {c : UInt8} : ∀ (a r : List UInt8), (∀ x ∈ a, x ≠ c) → splitOn c (a ++ c :: r) = a :: splitOn c r
  | [], r, _ => by simp [splitOn]
  | x :: a, r, h => by
    have ih := split_mid a r fun y hy => h y (by simp [hy])
    have hx : x ≠ c := h x (by simp)
    simp [splitOn, hx, ih]
theorem split_end {c : UInt8} : ∀ (a : List UInt8), (∀ x ∈ a, x ≠ c) → splitOn c a = [a]
  | [], _ => rfl
  | x :: a, h => by
    have ih := split_end a fun y hy => h y (by simp [hy])
    have hx : x ≠ c := h x (by simp)
    simp [splitOn, hx, ih]
theorem dt_eq {s pre a rest : List UInt8} (h : s = pre ++ (a ++ rest)) : List.take (pre.length + a.length - pre.length) (List.drop pre.length s) = a := by
  rw [h, List.drop_left' rfl, Nat.add_sub_cancel_left, List.take_left' rfl]
set_option maxHeartbeats 2000000 in
theorem h125o (s : List UInt8) (hs : s.length ≤ 1000000) (r0 : List (List UInt8)) : ∀ (rest a pre : List UInt8) (done : List (List UInt8)) (f i : Int) (q : Nat), s = pre ++ (a ++ rest) → f = pre.length → i = pre.length + a.length → (∀ x ∈ a, x ≠ 47) → q = done.length → done.length ≤ pre.length → r0 = done ++ splitOn 47 (a ++ rest) →
    HD AA 0 [0, 2, 3, 4, 5] l125_0 ⟨[.str s, .junk, .lit (.slice none 0 0), .own 0 1 0 q false, .int .i64 f, .int .i64 i, .junk, .junk, .junk, .junk, .junk, .junk, .junk, .junk, .junk, .junk, .junk, .junk, .junk, .junk, .junk, .junk, .junk, .junk, .junk, .junk, .junk, .junk, .junk, .junk, .junk, .junk], [(0, .row (done.map .str) 1)], 1⟩ [.blk 0, .code r125_0] (Fin [(2, none)] 0 (.own 0 1 0 r0.length false) [(0, .row (r0.map .str) 1)])
  | [], a, pre, done, f, i, q, h1, h2, h3, h4, h5, h6, h7 => by
    have hl : s.length = pre.length + a.length := by rw [h1]; simp
    have hd := dt_eq h1
    have ef : f.toNat = pre.length := by omega
    have ei : i.toNat = pre.length + a.length := by omega
    rw [List.append_nil, split_end a h4] at h7
    have et : (done.map AVal.str).take q = done.map .str := List.take_of_length_le (by rw [List.length_map]; omega)
    have hd1 : decide (i = (s.length : Int)) = true := decide_eq_true (by omega)
    refine hd_of (by unfold l125_0; rfl) ?_
    have gg := trivial; repeat' first | simp (maxSteps := 2000000) (disch := omega) only [gg, hd1, ef, ei, hd, et, lp_head, go_sem] | (refine br ?_ ?_ <;> intro gg <;> try (exfalso; omega)) | (refine And.intro ?_ ?_; focus omega) | omega
    refine hd_of (by unfold l125_0; rfl) ?_
    rw [h7]
    have gg := trivial; repeat' first | simp (maxSteps := 2000000) (disch := omega) only [gg, r125_0, go_sem] | (refine br ?_ ?_ <;> intro gg <;> try (exfalso; omega)) | (refine And.intro ?_ ?_; focus omega) | omega
    all_goals simp [h5]
  | x :: rest, a, pre, done, f, i, q, h1, h2, h3, h4, h5, h6, h7 => by
    have hl : s.length = pre.length + (a.length + (rest.length + 1)) := by rw [h1]; simp
    have hd := dt_eq h1
    have ef : f.toNat = pre.length := by omega
    have ei : i.toNat = pre.length + a.length := by omega
    have hd1 : decide (i = (s.length : Int)) = false := decide_eq_false (by omega)
    have hg : s[i.toNat]? = some x := by
      rw [ei, h1, ← List.append_assoc, List.getElem?_append_right (by simp)]
      simp
    rw [ei] at hg
    have et : (done.map AVal.str).take q = done.map .str := List.take_of_length_le (by rw [List.length_map]; omega)
    by_cases hx : x = 47
    · subst hx
      rw [split_mid a rest h4] at h7
      have hx2 : ((47 : UInt8).toNat : Int) = 47 := rfl
      have ih := h125o s hs r0 rest [] (pre ++ (a ++ [47])) (done ++ [a]) (i + 1) (i + 1) (q + 1) (by rw [h1]; simp) (by simp; omega) (by simp; omega) (by simp) (by simp [h5]) (by simp; omega) (by rw [h7]; simp)
      simp only [List.map_append, List.map_cons, List.map_nil] at ih
      refine hd_of (by unfold l125_0; rfl) ?_
      have gg := trivial; repeat' first | simp (maxSteps := 2000000) (disch := omega) only [gg, hd1, ef, ei, hd, hg, et, hx2, lp_head, go_sem] | (refine br ?_ ?_ <;> intro gg <;> try (exfalso; omega)) | (refine And.intro ?_ ?_; focus omega) | omega
    · have hx2 : ¬ (x.toNat : Int) = 47 := by
        intro hh
        exact hx ((ty_eq x 47 (by omega)).mp hh)
      have ih := h125o s hs r0 rest (a ++ [x]) pre done f (i + 1) q (by rw [h1]; simp) h2 (by simp; omega) (by
        intro y hy
        rcases List.mem_append.1 hy with hy | hy
        · exact h4 y hy
        · rw [List.mem_singleton.1 hy]; exact hx) h5 h6 (by rw [h7]; simp)
      refine hd_of (by unfold l125_0; rfl) ?_
      have gg := trivial; repeat' first | simp (maxSteps := 2000000) (disch := omega) only [gg, hd1, ei, hg, hx2, lp_head, go_sem] | (refine br ?_ ?_ <;> intro gg <;> try (exfalso; omega)) | (refine And.intro ?_ ?_; focus omega) | omega
set_option maxHeartbeats 2000000 in
theorem h125n (s : List UInt8) (hs : s.length ≤ 1000000) (r0 : List (List UInt8)) : ∀ (rest a : List UInt8) (i : Int), s = a ++ rest → i = a.length → (∀ x ∈ a, x ≠ 47) → r0 = splitOn 47 (a ++ rest) →
    HD AA 0 [0, 2, 3, 4, 5] l125_0 ⟨[.str s, .junk, .lit (.slice none 0 0), .lit (.slice none 0 0), .int .i64 0, .int .i64 i, .junk, .junk, .junk, .junk, .junk, .junk, .junk, .junk, .junk, .junk, .junk, .junk, .junk, .junk, .junk, .junk, .junk, .junk, .junk, .junk, .junk, .junk, .junk, .junk, .junk, .junk], [], 0⟩ [.blk 0, .code r125_0] (Fin [(2, none)] 0 (.own 0 1 0 r0.length false) [(0, .row (r0.map .str) 1)])
  | [], a, i, h1, h3, h4, h7 => by
    have hl : s.length = a.length := by rw [h1]; simp
    have hsa : s = a := by rw [h1]; simp
    have hd : List.take s.length s = s := List.take_length
    have ei : i.toNat = s.length := by omega
    rw [List.append_nil, split_end a h4, ← hsa] at h7
    have hd1 : decide (i = (s.length : Int)) = true := decide_eq_true (by omega)
    refine hd_of (by unfold l125_0; rfl) ?_
    have gg := trivial; repeat' first | simp (maxSteps := 2000000) (disch := omega) only [gg, hd1, ei, hd, Nat.sub_zero, List.drop_zero, lp_head, go_sem] | (refine br ?_ ?_ <;> intro gg <;> try (exfalso; omega)) | (refine And.intro ?_ ?_; focus omega) | omega
    refine hd_of (by unfold l125_0; rfl) ?_
    rw [h7]
    have gg := trivial; repeat' first | simp (maxSteps := 2000000) (disch := omega) only [gg, r125_0, go_sem] | (refine br ?_ ?_ <;> intro gg <;> try (exfalso; omega)) | (refine And.intro ?_ ?_; focus omega) | omega
  | x :: rest, a, i, h1, h3, h4, h7 => by
    have hl : s.length = a.length + (rest.length + 1) := by rw [h1]; simp
    have hd : List.take a.length s = a := by rw [h1, List.take_left' rfl]
    have ei : i.toNat = a.length := by omega
    have hd1 : decide (i = (s.length : Int)) = false := decide_eq_false (by omega)
    have hg : s[a.length]? = some x := by
      rw [h1, List.getElem?_append_right (by omega)]
      simp
    by_cases hx : x = 47
    · subst hx
      rw [split_mid a rest h4] at h7
      have hx2 : ((47 : UInt8).toNat : Int) = 47 := rfl
      have ih := h125o s hs r0 rest [] (a ++ [47]) [a] (i + 1) (i + 1) 1 (by rw [h1]; simp) (by simp; omega) (by simp; omega) (by simp) rfl (by simp) (by rw [h7]; simp)
      simp only [List.map_cons, List.map_nil] at ih
      refine hd_of (by unfold l125_0; rfl) ?_
      have gg := trivial; repeat' first | simp (maxSteps := 2000000) (disch := omega) only [gg, hd1, ei, hd, hg, hx2, Nat.sub_zero, List.drop_zero, lp_head, go_sem] | (refine br ?_ ?_ <;> intro gg <;> try (exfalso; omega)) | (refine And.intro ?_ ?_; focus omega) | omega
    · have hx2 : ¬ (x.toNat : Int) = 47 := by
        intro hh
        exact hx ((ty_eq x 47 (by omega)).mp hh)
      have ih := h125n s hs r0 rest (a ++ [x]) (i + 1) (by rw [h1]; simp) (by simp; omega) (by
        intro y hy
        rcases List.mem_append.1 hy with hy | hy
        · exact h4 y hy
        · rw [List.mem_singleton.1 hy]; exact hx) (by rw [h7]; simp)
      refine hd_of (by unfold l125_0; rfl) ?_
      have gg := trivial; repeat' first | simp (maxSteps := 2000000) (disch := omega) only [gg, hd1, ei, hg, hx2, lp_head, go_sem] | (refine br ?_ ?_ <;> intro gg <;> try (exfalso; omega)) | (refine And.intro ?_ ?_; focus omega) | omega
theorem s125 (s : List UInt8) (hs : s.length ≤ 1000000) : callT AA 125 [.str s] [] = some (.own 0 1 0 (splitOn 47 s).length false, [(0, .row ((splitOn 47 s).map .str) 1)]) := by
  have hh := h125n s hs (splitOn 47 s) s [] 0 rfl rfl (by simp) rfl
  refine enter fn125 np125 rfl ?_
  have gg := trivial; repeat' first | simp (maxSteps := 2000000) (disch := omega) only [gg, b125, lp_head, go_sem] | (refine br ?_ ?_ <;> intro gg <;> try (exfalso; omega)) | (refine And.intro ?_ ?_; focus omega) | omega
end Go.Abs
namespace Go.Abs
open Am Lib
set_option maxRecDepth 10000
set_option linter.unusedSimpArgs false
/-- how many bytes begin so; the bounds of the second -/
def utfT (c : Nat) : Nat × Int × Int :=
  if c < 128 then (1, 128, 191) else
  if 194 ≤ c ∧ c ≤ 223 then (2, 128, 191) else
  if c = 224 then (3, 160, 191) else
  if c = 237 then (3, 128, 159) else
  if 224 ≤ c ∧ c ≤ 239 then (3, 128, 191) else
  if c = 240 then (4, 144, 191) else
  if c = 244 then (4, 128, 143) else
  if 240 ≤ c ∧ c ≤ 244 then (4, 128, 191) else (0, 128, 191)
/-- what follows -/
def contB : Int → Int → List UInt8 → Bool
  | _, _, [] => true
  | lo, hi, b :: r => if (b.toNat : Int) < lo ∨ hi < b.toNat then false else contB 128 191 r
def utfF : Nat → List UInt8 → Bool
  | 0, _ => true
  | _ + 1, [] => true
  | k + 1, c :: r => if (utfT c.toNat).1 = 0 ∨ r.length + 1 < (utfT c.toNat).1 then false else
    if contB (utfT c.toNat).2.1 (utfT c.toNat).2.2 (r.take ((utfT c.toNat).1 - 1)) = false then false else utfF k (r.drop ((utfT c.toNat).1 - 1))
theorem utfT_le (c : Nat) : (utfT c).1 ≤ 4 := by
  unfold utfT
  repeat' split
  all_goals simp
theorem utf_first (c : Nat) (h : 128 ≤ c) (h2 : c < 256) : ((utfT c).1 = 0 ∧ firstT c % 8 = 1) ∨ ((utfT c).1 = firstT c % 8 ∧ ((utfT c).1 = 2 ∨ (utfT c).1 = 3 ∨ (utfT c).1 = 4) ∧ (utfT c).2.1 = (accLo (firstT c / 16) : Int) ∧ (utfT c).2.2 = (accHi (firstT c / 16) : Int)) := by
  have h3 : ∀ c : _root_.Fin 256, 128 ≤ c.val → ((utfT c.val).1 = 0 ∧ firstT c.val % 8 = 1) ∨ ((utfT c.val).1 = firstT c.val % 8 ∧ ((utfT c.val).1 = 2 ∨ (utfT c.val).1 = 3 ∨ (utfT c.val).1 = 4) ∧ (utfT c.val).2.1 = (accLo (firstT c.val / 16) : Int) ∧ (utfT c.val).2.2 = (accHi (firstT c.val / 16) : Int)) := by decide
  exact h3 ⟨c, h2⟩ h
theorem ut1 {c : Nat} (h : (c : Int) < 128) : utfT c = (1, 128, 191) := by unfold utfT; rw [if_pos (by omega)]
theorem ut2 {c : Nat} (h : 194 ≤ (c : Int)) (h2 : (c : Int) ≤ 223) : utfT c = (2, 128, 191) := by unfold utfT; rw [if_neg (by omega), if_pos (by omega)]
theorem ut3 {c : Nat} (h : (c : Int) = 224) : utfT c = (3, 160, 191) := by unfold utfT; rw [if_neg (by omega), if_neg (by omega), if_pos (by omega)]
theorem ut4 {c : Nat} (h : (c : Int) = 237) : utfT c = (3, 128, 159) := by unfold utfT; rw [if_neg (by omega), if_neg (by omega), if_neg (by omega), if_pos (by omega)]
theorem ut5 {c : Nat} (h : 224 ≤ (c : Int)) (h2 : (c : Int) ≤ 239) (h3 : ¬ (c : Int) = 224) (h4 : ¬ (c : Int) = 237) : utfT c = (3, 128, 191) := by unfold utfT; rw [if_neg (by omega), if_neg (by omega), if_neg (by omega), if_neg (by omega), if_pos (by omega)]
theorem ut6 {c : Nat} (h : (c : Int) = 240) : utfT c = (4, 144, 191) := by unfold utfT; rw [if_neg (by omega), if_neg (by omega), if_neg (by omega), if_neg (by omega), if_neg (by omega), if_pos (by omega)]
theorem ut7 {c : Nat} (h : (c : Int) = 244) : utfT c = (4, 128, 143) := by unfold utfT; rw [if_neg (by omega), if_neg (by omega), if_neg (by omega), if_neg (by omega), if_neg (by omega), if_neg (by omega), if_pos (by omega)]
theorem ut8 {c : Nat} (h : 240 ≤ (c : Int)) (h2 : (c : Int) ≤ 244) (h3 : ¬ (c : Int) = 240) (h4 : ¬ (c : Int) = 244) : utfT c = (4, 128, 191) := by unfold utfT; rw [if_neg (by omega), if_neg (by omega), if_neg (by omega), if_neg (by omega), if_neg (by omega), if_neg (by omega), if_neg (by omega), if_pos (by omega)]
theorem ut9 {c : Nat} (h : 128 ≤ (c : Int)) (h2 : ¬ (194 ≤ (c : Int) ∧ (c : Int) ≤ 223)) (h3 : ¬ (224 ≤ (c : Int) ∧ (c : Int) ≤ 239)) (h4 : ¬ (240 ≤ (c : Int) ∧ (c : Int) ≤ 244)) : utfT c = (0, 128, 191) := by unfold utfT; rw [if_neg (by omega), if_neg (by omega), if_neg (by omega), if_neg (by omega), if_neg (by omega), if_neg (by omega), if_neg (by omega), if_neg (by omega)]
/-- The table's form is utf8's. -/
theorem utf_valid : ∀ (k : Nat) (s : List UInt8), s.length ≤ k → utfF k s = Lib.validD s
  | 0, s, h => by
    have : s = [] := List.length_eq_zero_iff.1 (by omega)
    subst this; rfl
  | k + 1, [], _ => rfl
  | k + 1, c :: r, h => by
    rw [List.length_cons] at h
    by_cases hc : c.toNat < 128
    · have h1 : utfT c.toNat = (1, 128, 191) := by unfold utfT; rw [if_pos hc]
      rw [validD_cons c r hc, ← utf_valid k r (by omega), utfF, h1]
      simp [contB]
    · rw [validD_lead (c :: r) (by simp) (by simpa using hc)]
      have hd : ((c :: r).getD 0 0).toNat = c.toNat := rfl
      rw [hd, utfF]
      rcases utf_first c.toNat (by omega) c.toNat_lt with ⟨h1, h2⟩ | ⟨h1, h2, h3, h4⟩
      · rw [h1, h2, if_pos (Or.inl rfl)]
        rfl
      · rw [← h1, h3, h4]
        generalize accLo (firstT c.toNat / 16) = lo
        generalize accHi (firstT c.toNat / 16) = hi
        generalize (utfT c.toNat).1 = n at h2
        rcases h2 with rfl | rfl | rfl
        · match r, h with
          | [], _ => simp [checkN]
          | a :: r, h =>
            have ih := utf_valid k r (by simp at h; omega)
            have e1 : (((a.toNat : Int) < lo ∨ (hi : Int) < a.toNat)) ↔ (a.toNat < lo ∨ hi < a.toNat) := by omega
            have hz : ¬ (2 = 0 ∨ (a :: r).length + 1 < 2) := by simp
            rw [if_neg hz]
            simp only [contB, checkN, List.length_cons, List.getD_cons_succ, List.getD_cons_zero, Nat.add_sub_cancel, List.take_succ_cons, List.take_zero, List.drop_succ_cons, List.drop_zero, e1, Nat.reduceSub]
            by_cases h5 : a.toNat < lo ∨ hi < a.toNat
            · have h6 : r.length + 1 + 1 < 2 ∨ a.toNat < lo ∨ hi < a.toNat := by omega
              simp only [if_pos h5, if_pos h6, if_true]
            · have h6 : ¬ (r.length + 1 + 1 < 2 ∨ a.toNat < lo ∨ hi < a.toNat) := by omega
              simp only [if_neg h5, if_neg h6, if_true, ih, Bool.true_eq_false, if_false, List.drop_succ_cons, List.drop_zero]
        · match r, h with
          | [], _ => simp [checkN]
          | [a], _ => simp [checkN]
          | a :: b :: r, h =>
            have ih := utf_valid k r (by simp at h; omega)
            have e1 : (((a.toNat : Int) < lo ∨ (hi : Int) < a.toNat)) ↔ (a.toNat < lo ∨ hi < a.toNat) := by omega
            have e2 : (((b.toNat : Int) < 128 ∨ (191 : Int) < b.toNat)) ↔ (b.toNat < 128 ∨ 191 < b.toNat) := by omega
            have hz : ¬ (3 = 0 ∨ (a :: b :: r).length + 1 < 3) := by simp
            rw [if_neg hz]
            simp only [contB, checkN, List.length_cons, List.getD_cons_succ, List.getD_cons_zero, Nat.add_sub_cancel, List.take_succ_cons, List.take_zero, List.drop_succ_cons, List.drop_zero, e1, e2, Nat.reduceSub, Nat.reduceEqDiff, if_false]
            by_cases h5 : a.toNat < lo ∨ hi < a.toNat
            · have h6 : r.length + 1 + 1 + 1 < 3 ∨ a.toNat < lo ∨ hi < a.toNat ∨ b.toNat < 128 ∨ 191 < b.toNat := by omega
              simp only [if_pos h5, if_pos h6, if_true]
            · by_cases h7 : b.toNat < 128 ∨ 191 < b.toNat
              · have h6 : r.length + 1 + 1 + 1 < 3 ∨ a.toNat < lo ∨ hi < a.toNat ∨ b.toNat < 128 ∨ 191 < b.toNat := by omega
                simp only [if_neg h5, if_pos h7, if_pos h6, if_true]
              · have h6 : ¬ (r.length + 1 + 1 + 1 < 3 ∨ a.toNat < lo ∨ hi < a.toNat ∨ b.toNat < 128 ∨ 191 < b.toNat) := by omega
                simp only [if_neg h5, if_neg h7, if_neg h6, if_true, ih, Bool.true_eq_false, if_false, List.drop_succ_cons, List.drop_zero]
        · match r, h with
          | [], _ => simp [checkN]
          | [a], _ => simp [checkN]
          | [a, b], _ => simp [checkN]
          | a :: b :: d :: r, h =>
            have ih := utf_valid k r (by simp at h; omega)
            have e1 : (((a.toNat : Int) < lo ∨ (hi : Int) < a.toNat)) ↔ (a.toNat < lo ∨ hi < a.toNat) := by omega
            have e2 : (((b.toNat : Int) < 128 ∨ (191 : Int) < b.toNat)) ↔ (b.toNat < 128 ∨ 191 < b.toNat) := by omega
            have e3 : (((d.toNat : Int) < 128 ∨ (191 : Int) < d.toNat)) ↔ (d.toNat < 128 ∨ 191 < d.toNat) := by omega
            have hz : ¬ (4 = 0 ∨ (a :: b :: d :: r).length + 1 < 4) := by simp
            rw [if_neg hz]
            simp only [contB, checkN, List.length_cons, List.getD_cons_succ, List.getD_cons_zero, Nat.add_sub_cancel, List.take_succ_cons, List.take_zero, List.drop_succ_cons, List.drop_zero, e1, e2, e3, Nat.reduceSub, Nat.reduceEqDiff, if_false]
            by_cases h5 : a.toNat < lo ∨ hi < a.toNat
            · have h6 : r.length + 1 + 1 + 1 + 1 < 4 ∨ a.toNat < lo ∨ hi < a.toNat ∨ b.toNat < 128 ∨ 191 < b.toNat ∨ d.toNat < 128 ∨ 191 < d.toNat := by omega
              simp only [if_pos h5, if_pos h6, if_true]
            · by_cases h7 : b.toNat < 128 ∨ 191 < b.toNat
              · have h6 : r.length + 1 + 1 + 1 + 1 < 4 ∨ a.toNat < lo ∨ hi < a.toNat ∨ b.toNat < 128 ∨ 191 < b.toNat ∨ d.toNat < 128 ∨ 191 < d.toNat := by omega
                simp only [if_neg h5, if_pos h7, if_pos h6, if_true]
              · by_cases h8 : d.toNat < 128 ∨ 191 < d.toNat
                · have h6 : r.length + 1 + 1 + 1 + 1 < 4 ∨ a.toNat < lo ∨ hi < a.toNat ∨ b.toNat < 128 ∨ 191 < b.toNat ∨ d.toNat < 128 ∨ 191 < d.toNat := by omega
                  simp only [if_neg h5, if_neg h7, if_pos h8, if_pos h6, if_true]
                · have h6 : ¬ (r.length + 1 + 1 + 1 + 1 < 4 ∨ a.toNat < lo ∨ hi < a.toNat ∨ b.toNat < 128 ∨ 191 < b.toNat ∨ d.toNat < 128 ∨ 191 < d.toNat) := by omega
                  simp only [if_neg h5, if_neg h7, if_neg h8, if_neg h6, if_true, ih, Bool.true_eq_false, if_false, List.drop_succ_cons, List.drop_zero]
set_option maxHeartbeats 4000000 in
theorem h160i (s : List UInt8) (hs : s.length ≤ 1000000) (i : Int) (n : Nat) (v : Bool) (h0 : 0 ≤ i) (h9 : n ≤ 4) : ∀ (cs tail pre : List UInt8) (lo hi k : Int), s = pre ++ (cs ++ tail) → i + k = pre.length → 0 ≤ k → k + cs.length = n → (contB lo hi cs = false → v = false) → (contB lo hi cs = true → HD AA 0 [0, 2, 3] l160_1 ⟨[.str s, .junk, .bool false, .int .i64 (i + n), .junk, .junk, .junk, .junk, .junk, .junk, .junk, .junk, .junk, .junk, .junk, .junk, .junk, .junk, .junk, .junk, .junk, .junk, .junk, .junk, .junk, .junk, .junk, .junk, .junk, .junk, .junk, .junk, .junk, .junk, .junk, .junk, .junk, .junk, .junk, .junk, .junk, .junk, .junk, .junk, .junk, .junk, .junk, .junk, .junk, .junk, .junk, .junk, .junk, .junk, .junk, .junk, .junk, .junk, .junk, .junk, .junk, .junk, .junk, .junk, .junk, .junk, .junk, .junk, .junk, .junk, .junk, .junk, .junk, .junk, .junk, .junk, .junk, .junk, .junk, .junk, .junk, .junk], [], 0⟩ [.blk 0, .code r160_1] (Fin [(2, none)] 0 (.bool v) [])) →
    HD AA 0 [0, 2, 3, 5, 6, 7, 8] l160_0 ⟨[.str s, .junk, .bool false, .int .i64 i, .junk, .int .i64 n, .int .u8 lo, .int .u8 hi, .int .i64 k, .junk, .junk, .junk, .junk, .junk, .junk, .junk, .junk, .junk, .junk, .junk, .junk, .junk, .junk, .junk, .junk, .junk, .junk, .junk, .junk, .junk, .junk, .junk, .junk, .junk, .junk, .junk, .junk, .junk, .junk, .junk, .junk, .junk, .junk, .junk, .junk, .junk, .junk, .junk, .junk, .junk, .junk, .junk, .junk, .junk, .junk, .junk, .junk, .junk, .junk, .junk, .junk, .junk, .junk, .junk, .junk, .junk, .junk, .junk, .junk, .junk, .junk, .junk, .junk, .junk, .junk, .junk, .junk, .junk, .junk, .junk, .junk, .junk], [], 0⟩ [.blk 3, .code r160_0, .blk 1, .loop [0, 2, 3] l160_1, .blk 0, .code r160_1] (Fin [(2, none)] 0 (.bool v) [])
  | [], tail, pre, lo, hi, k, h1, h2, h3, h4, h5, h6 => by
    have h7 := h6 rfl
    have h8 : k = n := by simpa using h4
    have hl : s.length = pre.length + tail.length := by rw [h1]; simp
    refine hd_of (by unfold l160_0; rfl) ?_
    have gg := trivial; repeat' first | simp (maxSteps := 2000000) (disch := omega) only [gg, r160_0, lp_head, go_sem] | (refine br ?_ ?_ <;> intro gg <;> try (exfalso; omega)) | (refine And.intro ?_ ?_; focus omega) | omega
  | b :: cs, tail, pre, lo, hi, k, h1, h2, h3, h4, h5, h6 => by
    have hl : s.length = pre.length + (cs.length + 1 + tail.length) := by rw [h1]; simp; omega
    rw [List.length_cons] at h4
    have hb := b.toNat_lt
    have ei : (i + k).toNat = pre.length := by omega
    have hxi : s[(i + k).toNat]? = some b := by
      rw [ei, h1, List.getElem?_append_right (by omega)]
      simp
    have hk : ¬ ((b.toNat : Int) < lo ∨ hi < b.toNat) → HD AA 0 [0, 2, 3, 5, 6, 7, 8] l160_0 ⟨[.str s, .junk, .bool false, .int .i64 i, .junk, .int .i64 n, .int .u8 128, .int .u8 191, .int .i64 (k + 1), .junk, .junk, .junk, .junk, .junk, .junk, .junk, .junk, .junk, .junk, .junk, .junk, .junk, .junk, .junk, .junk, .junk, .junk, .junk, .junk, .junk, .junk, .junk, .junk, .junk, .junk, .junk, .junk, .junk, .junk, .junk, .junk, .junk, .junk, .junk, .junk, .junk, .junk, .junk, .junk, .junk, .junk, .junk, .junk, .junk, .junk, .junk, .junk, .junk, .junk, .junk, .junk, .junk, .junk, .junk, .junk, .junk, .junk, .junk, .junk, .junk, .junk, .junk, .junk, .junk, .junk, .junk, .junk, .junk, .junk, .junk, .junk, .junk], [], 0⟩ [.blk 3, .code r160_0, .blk 1, .loop [0, 2, 3] l160_1, .blk 0, .code r160_1] (Fin [(2, none)] 0 (.bool v) []) := by
      intro hn
      have e : contB lo hi (b :: cs) = contB 128 191 cs := by rw [contB, if_neg hn]
      rw [e] at h5 h6
      exact h160i s hs i n v h0 h9 cs tail (pre ++ [b]) 128 191 (k + 1) (by rw [h1]; simp) (by simp; omega) (by omega) (by omega) h5 h6
    have hv : ((b.toNat : Int) < lo ∨ hi < b.toNat) → v = false := fun hn => h5 (by rw [contB, if_pos hn])
    refine hd_of (by unfold l160_0; rfl) ?_
    have gg := trivial; repeat' first | simp (maxSteps := 2000000) (disch := omega) only [gg, hxi, lp_head, go_sem] | (refine br ?_ ?_ <;> intro gg <;> try (exfalso; omega)) | (refine And.intro ?_ ?_; focus omega) | omega
    all_goals first
      | exact hk (by omega)
      | (rw [hv (by omega)])
set_option maxHeartbeats 4000000 in
theorem t160 (s : List UInt8) (hs : s.length ≤ 1000000) (i : Int) (c : UInt8) (v : Bool) (h0 : 0 ≤ i) (hxi : s[i.toNat]? = some c) (hl : i < s.length) (K1 : ∀ n lo hi, utfT c.toNat = (n, lo, hi) → n = 0 ∨ (s.length : Int) < i + n → v = false) (K : ∀ (n : Nat) (lo hi : Int), utfT c.toNat = (n, lo, hi) → 1 ≤ n → i + n ≤ s.length → HD AA 0 [0, 2, 3, 5, 6, 7, 8] l160_0 ⟨[.str s, .junk, .bool false, .int .i64 i, .junk, .int .i64 n, .int .u8 lo, .int .u8 hi, .int .i64 1, .junk, .junk, .junk, .junk, .junk, .junk, .junk, .junk, .junk, .junk, .junk, .junk, .junk, .junk, .junk, .junk, .junk, .junk, .junk, .junk, .junk, .junk, .junk, .junk, .junk, .junk, .junk, .junk, .junk, .junk, .junk, .junk, .junk, .junk, .junk, .junk, .junk, .junk, .junk, .junk, .junk, .junk, .junk, .junk, .junk, .junk, .junk, .junk, .junk, .junk, .junk, .junk, .junk, .junk, .junk, .junk, .junk, .junk, .junk, .junk, .junk, .junk, .junk, .junk, .junk, .junk, .junk, .junk, .junk, .junk, .junk, .junk, .junk], [], 0⟩ [.blk 3, .code r160_0, .blk 1, .loop [0, 2, 3] l160_1, .blk 0, .code r160_1] (Fin [(2, none)] 0 (.bool v) [])) :
    HD AA 0 [0, 2, 3] l160_1 ⟨[.str s, .junk, .bool false, .int .i64 i, .junk, .junk, .junk, .junk, .junk, .junk, .junk, .junk, .junk, .junk, .junk, .junk, .junk, .junk, .junk, .junk, .junk, .junk, .junk, .junk, .junk, .junk, .junk, .junk, .junk, .junk, .junk, .junk, .junk, .junk, .junk, .junk, .junk, .junk, .junk, .junk, .junk, .junk, .junk, .junk, .junk, .junk, .junk, .junk, .junk, .junk, .junk, .junk, .junk, .junk, .junk, .junk, .junk, .junk, .junk, .junk, .junk, .junk, .junk, .junk, .junk, .junk, .junk, .junk, .junk, .junk, .junk, .junk, .junk, .junk, .junk, .junk, .junk, .junk, .junk, .junk, .junk, .junk], [], 0⟩ [.blk 0, .code r160_1] (Fin [(2, none)] 0 (.bool v) []) := by
  have hc := c.toNat_lt
  dsimp only at K
  refine hd_of (by unfold l160_1; rfl) ?_
  have gg := trivial; repeat' first | simp (maxSteps := 2000000) (disch := omega) only [gg, hxi, lp_head, go_sem] | (refine br ?_ ?_ <;> intro gg <;> try (exfalso; omega)) | (refine And.intro ?_ ?_; focus omega) | omega
  all_goals first
      | (have hK := K _ _ _ (ut1 (by omega)) (by omega) (by omega); exact hK)
      | (have hK := K _ _ _ (ut2 (by omega) (by omega)) (by omega) (by omega); exact hK)
      | (have hK := K _ _ _ (ut3 (by omega)) (by omega) (by omega); exact hK)
      | (have hK := K _ _ _ (ut4 (by omega)) (by omega) (by omega); exact hK)
      | (have hK := K _ _ _ (ut5 (by omega) (by omega) (by omega) (by omega)) (by omega) (by omega); exact hK)
      | (have hK := K _ _ _ (ut6 (by omega)) (by omega) (by omega); exact hK)
      | (have hK := K _ _ _ (ut7 (by omega)) (by omega) (by omega); exact hK)
      | (have hK := K _ _ _ (ut8 (by omega) (by omega) (by omega) (by omega)) (by omega) (by omega); exact hK)
      | rw [K1 _ _ _ (ut1 (by omega)) (by omega)]
      | rw [K1 _ _ _ (ut2 (by omega) (by omega)) (by omega)]
      | rw [K1 _ _ _ (ut3 (by omega)) (by omega)]
      | rw [K1 _ _ _ (ut4 (by omega)) (by omega)]
      | rw [K1 _ _ _ (ut5 (by omega) (by omega) (by omega) (by omega)) (by omega)]
      | rw [K1 _ _ _ (ut6 (by omega)) (by omega)]
      | rw [K1 _ _ _ (ut7 (by omega)) (by omega)]
      | rw [K1 _ _ _ (ut8 (by omega) (by omega) (by omega) (by omega)) (by omega)]
      | rw [K1 _ _ _ (ut9 (by omega) (by omega) (by omega) (by omega)) (by omega)]
set_option maxHeartbeats 4000000 in
theorem h160 (s : List UInt8) (hs : s.length ≤ 1000000) (v : Bool) : ∀ (k : Nat) (rest pre : List UInt8) (i : Int), s = pre ++ rest → i = pre.length → rest.length ≤ k → v = utfF k rest →
    HD AA 0 [0, 2, 3] l160_1 ⟨[.str s, .junk, .bool false, .int .i64 i, .junk, .junk, .junk, .junk, .junk, .junk, .junk, .junk, .junk, .junk, .junk, .junk, .junk, .junk, .junk, .junk, .junk, .junk, .junk, .junk, .junk, .junk, .junk, .junk, .junk, .junk, .junk, .junk, .junk, .junk, .junk, .junk, .junk, .junk, .junk, .junk, .junk, .junk, .junk, .junk, .junk, .junk, .junk, .junk, .junk, .junk, .junk, .junk, .junk, .junk, .junk, .junk, .junk, .junk, .junk, .junk, .junk, .junk, .junk, .junk, .junk, .junk, .junk, .junk, .junk, .junk, .junk, .junk, .junk, .junk, .junk, .junk, .junk, .junk, .junk, .junk, .junk, .junk], [], 0⟩ [.blk 0, .code r160_1] (Fin [(2, none)] 0 (.bool v) [])
  | k, [], pre, i, h1, h2, h3, h4 => by
    have hv : v = true := by rw [h4]; cases k <;> rfl
    have hl : s.length = pre.length := by rw [h1]; simp
    subst hv
    refine hd_of (by unfold l160_1; rfl) ?_
    have gg := trivial; repeat' first | simp (maxSteps := 2000000) (disch := omega) only [gg, r160_1, go_sem] | (refine br ?_ ?_ <;> intro gg <;> try (exfalso; omega)) | (refine And.intro ?_ ?_; focus omega) | omega
  | k + 1, c :: r, pre, i, h1, h2, h3, h4 => by
    rw [List.length_cons] at h3
    have hl : s.length = pre.length + (r.length + 1) := by rw [h1]; simp
    have ei : i.toNat = pre.length := by omega
    have hg : s[i.toNat]? = some c := by
      rw [ei, h1, List.getElem?_append_right (by omega)]
      simp
    have hle := utfT_le c.toNat
    refine t160 s hs i c v (by omega) hg (by omega) ?_ ?_
    · intro n lo hi hu hn
      rw [h4, utfF, hu, if_pos (by dsimp only; omega)]
    · intro n lo hi hu h5 h6
      rw [utfF, hu, if_neg (by dsimp only; omega)] at h4
      dsimp only at h4
      rw [hu] at hle
      dsimp only at hle
      have e1 : r.take (n - 1) ++ r.drop (n - 1) = r := List.take_append_drop _ _
      have e2 : (r.take (n - 1)).length = n - 1 := by rw [List.length_take]; omega
      have e3 : (r.drop (n - 1)).length ≤ k := by rw [List.length_drop]; omega
      refine h160i s hs i n v (by omega) hle (r.take (n - 1)) (r.drop (n - 1)) (pre ++ [c]) lo hi 1 ?_ ?_ (by omega) (by omega) ?_ ?_
      · rw [e1, h1]; simp
      · rw [List.length_append]; simp; omega
      · intro h7
        rw [h4, if_pos h7]
      · intro h7
        rw [h7] at h4
        refine h160 s hs v k (r.drop (n - 1)) (pre ++ c :: r.take (n - 1)) (i + n) ?_ ?_ e3 (by simpa using h4)
        · rw [List.append_assoc, List.cons_append, e1, h1]
        · rw [List.length_append, List.length_cons, e2]; omega
theorem s160 (s : List UInt8) (hs : s.length ≤ 1000000) : callT AA 160 [.str s] [] = some (.bool (Lib.validD s), []) := by
  have hh := h160 s hs (Lib.validD s) s.length s [] 0 rfl rfl (Nat.le_refl _) (utf_valid _ s (Nat.le_refl _)).symm
  refine enter fn160 np160 rfl ?_
  have gg := trivial; repeat' first | simp (maxSteps := 2000000) (disch := omega) only [gg, b160, lp_head, go_sem] | (refine br ?_ ?_ <;> intro gg <;> try (exfalso; omega)) | (refine And.intro ?_ ?_; focus omega) | omega
end Go.Abs
namespace Go.Abs
open Am Lib
set_option maxRecDepth 10000
set_option linter.unusedSimpArgs false
def noz : List UInt8 → Bool
  | [] => true
  | x :: r => decide (x ≠ 0) && noz r
theorem noz_index : ∀ s : List UInt8, noz s = decide (indexByte s 0 < 0)
  | [] => by simp [noz, indexByte]
  | x :: r => by
    have ih := noz_index r
    have hge := indexByte_ge r 0
    have e : indexByte (x :: r) 0 = if x = 0 then 0 else if indexByte r 0 = -1 then -1 else indexByte r 0 + 1 := by
      rw [indexByte]
      simp
    rw [noz, ih, e]
    by_cases hx : x = 0
    · simp [hx]
    · rw [if_neg hx]
      by_cases h : indexByte r 0 < 0
      · have h1 : indexByte r 0 = -1 := by omega
        simp [h1, hx]
      · have h1 : ¬ indexByte r 0 = -1 := by omega
        have h2 : ¬ indexByte r 0 + 1 < 0 := by omega
        simp [h1, h, h2]
set_option maxHeartbeats 2000000 in
theorem h124 (s : List UInt8) (hs : s.length ≤ 1000000) (v : Bool) : ∀ (rest pre : List UInt8) (i : Int), s = pre ++ rest → i = pre.length → v = (noz rest && validD s) →
    HD AA 0 [0, 4, 5] l124_0 ⟨[.str s, .junk, .junk, .junk, .bool false, .int .i64 i, .junk, .junk, .junk, .junk, .junk, .junk, .junk, .junk, .junk, .junk, .junk, .junk, .junk, .junk, .junk, .junk, .junk, .junk, .junk, .junk, .junk], [], 0⟩ [.blk 0, .code r124_0] (Fin [(4, none)] 0 (.bool v) [])
  | [], pre, i, h1, h2, h4 => by
    have hl : s.length = pre.length := by rw [h1]; simp
    have hv : v = validD s := by rw [h4]; rfl
    subst hv
    refine hd_of (by unfold l124_0; rfl) ?_
    have gg := trivial; repeat' first | simp (maxSteps := 2000000) (disch := omega) only [gg, r124_0, s160, hs, go_sem] | (refine br ?_ ?_ <;> intro gg <;> try (exfalso; omega)) | (refine And.intro ?_ ?_; focus omega) | omega
  | c :: r, pre, i, h1, h2, h4 => by
    have hl : s.length = pre.length + (r.length + 1) := by rw [h1]; simp
    have ei : i.toNat = pre.length := by omega
    have hxi : s[i.toNat]? = some c := by
      rw [ei, h1, List.getElem?_append_right (by omega)]
      simp
    by_cases hc : c = 0
    · subst hc
      have hv : v = false := by rw [h4]; rfl
      subst hv
      have hc2 : ((0 : UInt8).toNat : Int) = 0 := rfl
      refine hd_of (by unfold l124_0; rfl) ?_
      have gg := trivial; repeat' first | simp (maxSteps := 2000000) (disch := omega) only [gg, hxi, hc2, go_sem] | (refine br ?_ ?_ <;> intro gg <;> try (exfalso; omega)) | (refine And.intro ?_ ?_; focus omega) | omega
    · have hc2 : ¬ (c.toNat : Int) = 0 := by
        intro hh
        exact hc ((ty_eq c 0 (by omega)).mp hh)
      have ih := h124 s hs v r (pre ++ [c]) (i + 1) (by rw [h1]; simp) (by simp; omega) (by rw [h4, noz]; simp [hc])
      refine hd_of (by unfold l124_0; rfl) ?_
      have gg := trivial; repeat' first | simp (maxSteps := 2000000) (disch := omega) only [gg, hxi, hc2, lp_head, go_sem] | (refine br ?_ ?_ <;> intro gg <;> try (exfalso; omega)) | (refine And.intro ?_ ?_; focus omega) | omega
theorem s124 (s : List UInt8) (most : Int) (hs : s.length ≤ 1000000) : callT AA 124 [.str s, .int .i64 most] [] = some (.bool (textB s most), []) := by
  have hh := h124 s hs (noz s && validD s) s [] 0 rfl rfl rfl
  have he : textB s most = (decide (s ≠ []) && decide ((s.length : Int) ≤ most) && (noz s && validD s)) := by
    unfold textB
    rw [noz_index, Bool.and_assoc, Bool.and_comm (validD s)]
  rw [he]
  refine enter fn124 np124 rfl ?_
  rcases Nat.eq_zero_or_pos s.length with h0 | h0
  · have : s = [] := List.length_eq_zero_iff.1 h0
    subst this
    have gg := trivial; repeat' first | simp (maxSteps := 2000000) (disch := omega) only [gg, b124, lp_head, go_sem] | (refine br ?_ ?_ <;> intro gg <;> try (exfalso; omega)) | (refine And.intro ?_ ?_; focus omega) | omega
    all_goals simp
  · have h3 : s ≠ [] := by intro hh; subst hh; simp at h0
    have h4 : decide (s ≠ []) = true := decide_eq_true h3
    rw [h4]
    by_cases h5 : (s.length : Int) ≤ most
    · rw [decide_eq_true h5]
      have gg := trivial; repeat' first | simp (maxSteps := 2000000) (disch := omega) only [gg, b124, lp_head, go_sem] | (refine br ?_ ?_ <;> intro gg <;> try (exfalso; omega)) | (refine And.intro ?_ ?_; focus omega) | omega
    · rw [decide_eq_false h5]
      have gg := trivial; repeat' first | simp (maxSteps := 2000000) (disch := omega) only [gg, b124, lp_head, go_sem] | (refine br ?_ ?_ <;> intro gg <;> try (exfalso; omega)) | (refine And.intro ?_ ?_; focus omega) | omega
theorem split_len : ∀ (c : UInt8) (s : List UInt8), 1 ≤ (splitOn c s).length := by
  intro c s
  by_cases h : indexByte s c < 0
  · rw [(split_none h).1]; simp
  · rw [(split_some (by omega)).1]; simp
theorem split_one (s : List UInt8) : decide (((splitOn 47 s).length : Int) = 1) = decide (indexByte s 47 < 0) := by
  apply decide_eq_decide.2
  by_cases h : indexByte s 47 < 0
  · rw [(split_none h).1]; simp [h]
  · rw [(split_some (by omega)).1]
    have := split_len 47 (s.drop ((indexByte s 47).toNat + 1))
    simp [h]
    omega
theorem s159 (s : List UInt8) (hs : s.length ≤ 1000000) : callT AA 159 [.str s] [] = some (.bool (partB s), []) := by
  refine enter fn159 np159 rfl ?_
  have gg := trivial; repeat' first | simp (maxSteps := 2000000) (disch := omega) only [gg, b159, s124, s125, hs, go_sem] | (refine br ?_ ?_ <;> intro gg <;> try (exfalso; omega)) | (refine And.intro ?_ ?_; focus omega) | omega
  all_goals unfold partB
  · simp [*, split_one]
  all_goals simp [*]
end Go.Abs
namespace Go.Abs
open Am Lib
set_option maxRecDepth 10000
set_option linter.unusedSimpArgs false
set_option maxHeartbeats 2000000 in
theorem h122 (ps : List (List UInt8)) (hn : ps.length ≤ 2000000) (hq : ∀ p ∈ ps, p.length ≤ 1000000) (res : AVal) (hp : List (Nat × Node)) : ∀ (rest done : List (List UInt8)) (i : Int) (k : Nat), ps = done ++ rest → i = done.length → k = ps.length → (rest.all partB = true → res = .own 0 1 0 ps.length false ∧ hp = [(0, .row (ps.map .str) 1)]) → (rest.all partB = false → res = .lit (.slice none 0 0) ∧ hp = []) →
    HD AA 0 [2, 3, 4] l122_0 ⟨[.junk, .junk, .lit (.slice none 0 0), .own 0 1 0 k false, .int .i64 i, .junk, .junk, .junk, .junk, .junk, .junk, .junk, .junk, .junk, .junk, .junk, .junk, .junk, .junk, .junk, .junk, .junk, .junk], [(0, .row (ps.map .str) 1)], 1⟩ [.blk 0, .code r122_0] (Fin [(2, none)] 0 res hp)
  | [], done, i, k, h1, h2, hk, h3, h4 => by
    have hl : ps.length = done.length := by rw [h1]; simp
    obtain ⟨e1, e2⟩ := h3 rfl
    subst hk
    rw [e1, e2]
    refine hd_of (by unfold l122_0; rfl) ?_
    have gg := trivial; repeat' first | simp (maxSteps := 2000000) (disch := omega) only [gg, r122_0, go_sem] | (refine br ?_ ?_ <;> intro gg <;> try (exfalso; omega)) | (refine And.intro ?_ ?_; focus omega) | omega
  | p :: rest, done, i, k, h1, h2, hk, h3, h4 => by
    have hl : ps.length = done.length + (rest.length + 1) := by rw [h1]; simp
    have ei : i.toNat = done.length := by omega
    have hm : p ∈ ps := by rw [h1]; simp
    have h159 := s159 p (hq p hm)
    have hxi : ps[i.toNat]? = some p := by
      rw [ei, h1, List.getElem?_append_right (by omega)]
      simp
    cases hb : partB p with
    | true =>
      have e : (p :: rest).all partB = rest.all partB := by simp [hb]
      rw [e] at h3 h4
      rw [hb] at h159
      have ih := h122 ps hn hq res hp rest (done ++ [p]) (i + 1) k (by rw [h1]; simp) (by simp; omega) hk h3 h4
      refine hd_of (by unfold l122_0; rfl) ?_
      have gg := trivial; repeat' first | simp (maxSteps := 2000000) (disch := omega) only [gg, hxi, h159, lp_head, go_sem] | (refine br ?_ ?_ <;> intro gg <;> try (exfalso; omega)) | (refine And.intro ?_ ?_; focus omega) | omega
    | false =>
      obtain ⟨e1, e2⟩ := h4 (by simp [hb])
      rw [hb] at h159
      rw [e1, e2]
      refine hd_of (by unfold l122_0; rfl) ?_
      have gg := trivial; repeat' first | simp (maxSteps := 2000000) (disch := omega) only [gg, hxi, h159, lp_head, go_sem] | (refine br ?_ ?_ <;> intro gg <;> try (exfalso; omega)) | (refine And.intro ?_ ?_; focus omega) | omega
theorem split_n (s : List UInt8) (hs : s.length ≤ 1000000) : (splitOn 47 s).length ≤ 2000000 := by
  rw [split_length]
  have := count_le s 47
  omega
theorem s122 (s : List UInt8) (hs : s.length ≤ 1000000) : callT AA 122 [.str s] [] = some (if goodB s = true then (.own 0 1 0 (splitOn 47 s).length false, [(0, .row ((splitOn 47 s).map .str) 1)]) else (.lit (.slice none 0 0), [])) := by
  have h125 := s125 s hs
  have hn := split_n s hs
  have hh := fun res hp h3 h4 => h122 (splitOn 47 s) hn (fun p hp => Nat.le_trans (split_short 47 s p hp) hs) res hp (splitOn 47 s) [] 0 _ rfl rfl rfl h3 h4
  by_cases h4 : s.length ≤ 400
  · have hg : goodB s = (splitOn 47 s).all partB := by simp [goodB, splitP, h4]
    rw [hg]
    cases hb : (splitOn 47 s).all partB with
    | true =>
      rw [hb] at hh
      rw [if_pos rfl]
      have hh := hh _ _ (fun _ => ⟨rfl, rfl⟩) (by simp)
      refine enter fn122 np122 rfl ?_
      have gg := trivial; repeat' first | simp (maxSteps := 2000000) (disch := omega) only [gg, b122, h125, lp_head, go_sem] | (refine br ?_ ?_ <;> intro gg <;> try (exfalso; omega)) | (refine And.intro ?_ ?_; focus omega) | omega
    | false =>
      rw [hb] at hh
      rw [if_neg (by simp)]
      have hh := hh _ _ (by simp) (fun _ => ⟨rfl, rfl⟩)
      refine enter fn122 np122 rfl ?_
      have gg := trivial; repeat' first | simp (maxSteps := 2000000) (disch := omega) only [gg, b122, h125, lp_head, go_sem] | (refine br ?_ ?_ <;> intro gg <;> try (exfalso; omega)) | (refine And.intro ?_ ?_; focus omega) | omega
  · have hg : goodB s = false := by simp [goodB, h4]
    rw [hg, if_neg (by simp)]
    refine enter fn122 np122 rfl ?_
    have gg := trivial; repeat' first | simp (maxSteps := 2000000) (disch := omega) only [gg, b122, go_sem] | (refine br ?_ ?_ <;> intro gg <;> try (exfalso; omega)) | (refine And.intro ?_ ?_; focus omega) | omega
theorem s75 (s : List UInt8) (hs : s.length ≤ 1000000) : callT AA 75 [.str s] [] = some (.bool (goodB s), []) := by
  have h := s122 s hs
  have hn := split_n s hs
  have h1 := split_len 47 s
  refine enter fn75 np75 rfl ?_
  cases hb : goodB s with
  | true =>
    rw [hb, if_pos rfl] at h
    have gg := trivial; repeat' first | simp (maxSteps := 2000000) (disch := omega) only [gg, b75, h, go_sem] | (refine br ?_ ?_ <;> intro gg <;> try (exfalso; omega)) | (refine And.intro ?_ ?_; focus omega) | omega
  | false =>
    rw [hb] at h
    have gg := trivial; repeat' first | simp (maxSteps := 2000000) (disch := omega) only [gg, b75, h, go_sem] | (refine br ?_ ?_ <;> intro gg <;> try (exfalso; omega)) | (refine And.intro ?_ ?_; focus omega) | omega
/-- parts behind each other, each behind a stroke -/
def jn : List (List UInt8) → List UInt8
  | [] => []
  | p :: r => 47 :: p ++ jn r
def joinB : List (List UInt8) → List UInt8
  | [] => []
  | p :: r => p ++ jn r
theorem jn_le (p : List UInt8) (r : List (List UInt8)) : (jn (p :: r)).length = p.length + 1 + (jn r).length := by simp [jn]; omega
set_option maxHeartbeats 2000000 in
theorem h123 (c t : Bool) (ps : List (List UInt8)) (hn : ps.length ≤ 2000000) (hq : ∀ p ∈ ps, partB p = true ∧ p.length ≤ 1000000) (r0 : List UInt8) (h4 : r0.length ≤ 400) (h0 : 0 < ps.length) : ∀ (rest done : List (List UInt8)) (i : Int) (acc : List UInt8) (q : Nat), ps = done ++ rest → i = done.length → 0 < i → q = acc.length → r0 = acc ++ jn rest →
    HD AA 0 [0, 2, 3, 4, 5] l123_0 ⟨[.view 1 (ps.map .str) c t, .junk, .str [], .int .i64 0, .own 0 1 0 q false, .int .i64 i, .junk, .junk, .junk, .junk, .junk, .junk, .junk, .junk, .junk, .junk, .junk, .junk, .junk, .junk, .junk, .junk, .junk, .junk, .junk, .junk, .junk, .junk, .junk, .junk, .junk, .junk, .junk, .junk, .junk, .junk, .junk, .junk], [(0, .row (acc.map .byte) 1)], 1⟩ [.blk 0, .code r123_0] (Fin [(2, none), (3, none)] 0 (.tuple [.str r0, .int .i64 0]) [])
  | [], done, i, acc, q, h1, h2, h3, hq', h5 => by
    have hl : ps.length = done.length := by rw [h1]; simp
    have e : (acc.map AVal.byte).take q = acc.map .byte := List.take_of_length_le (by simp; omega)
    have hr : r0 = acc := by rw [h5]; simp [jn]
    rw [hr]
    subst hq'
    refine hd_of (by unfold l123_0; rfl) ?_
    have gg := trivial; repeat' first | simp (maxSteps := 2000000) (disch := omega) only [gg, r123_0, e, go_sem] | (refine br ?_ ?_ <;> intro gg <;> try (exfalso; omega)) | (refine And.intro ?_ ?_; focus omega) | omega
  | p :: rest, done, i, acc, q, h1, h2, h3, hq', h5 => by
    have hl : ps.length = done.length + (rest.length + 1) := by rw [h1]; simp
    have ei : i.toNat = done.length := by omega
    have hm : p ∈ ps := by rw [h1]; simp
    have h159 := s159 p (hq p hm).2
    rw [(hq p hm).1] at h159
    have hlen : r0.length = acc.length + (p.length + 1 + (jn rest).length) := by rw [h5, List.length_append, jn_le]
    have hxi : ps[i.toNat]? = some p := by
      rw [ei, h1, List.getElem?_append_right (by omega)]
      simp
    have e : (acc.map AVal.byte).take q = acc.map .byte := List.take_of_length_le (by simp; omega)
    have ih := h123 c t ps hn hq r0 h4 h0 rest (done ++ [p]) (i + 1) (acc ++ [47] ++ p) (q + 1 + p.length) (by rw [h1]; simp) (by simp; omega) (by omega) (by simp; omega) (by rw [h5]; simp [jn])
    have e2 : (acc.map AVal.byte ++ [AVal.int .u8 47]).take (q + 1) = (acc ++ [47]).map AVal.byte := by
      rw [List.take_of_length_le (by simp; omega)]
      simp [AVal.byte]
      try rfl
    refine hd_of (by unfold l123_0; rfl) ?_
    have gg := trivial; repeat' first | simp (maxSteps := 2000000) (disch := omega) only [gg, hxi, h159, e, e2, lp_head, ← List.map_append, go_sem] | (refine br ?_ ?_ <;> intro gg <;> try (exfalso; omega)) | (refine And.intro ?_ ?_; focus omega) | omega
theorem s123 (c t : Bool) (ps : List (List UInt8)) (hn : ps.length ≤ 2000000) (hq : ∀ p ∈ ps, partB p = true ∧ p.length ≤ 1000000) (h4 : (joinB ps).length ≤ 400) (h0 : 0 < ps.length) : callT AA 123 [.view 1 (ps.map .str) c t] [] = some (.tuple [.str (joinB ps), .int .i64 0], []) := by
  refine enter fn123 np123 rfl ?_
  have gg := trivial; repeat' first | simp (maxSteps := 2000000) (disch := omega) only [gg, b123, lp_head, go_sem] | (refine br ?_ ?_ <;> intro gg <;> try (exfalso; omega)) | (refine And.intro ?_ ?_; focus omega) | omega
  obtain ⟨p, r, hp⟩ : ∃ p r, ps = p :: r := by
    cases ps with
    | nil => simp at h0
    | cons p r => exact ⟨p, r, rfl⟩
  have hxi : ps[0]? = some p := by rw [hp]; rfl
  have hm : p ∈ ps := by rw [hp]; simp
  have h159 := s159 p (hq p hm).2
  rw [(hq p hm).1] at h159
  have hlen : (joinB ps).length = p.length + (jn r).length := by rw [hp]; simp [joinB]
  have hl : ps.length = r.length + 1 := by rw [hp]; simp
  have ih := h123 c t ps hn hq (joinB ps) h4 h0 r [p] 1 p p.length (by rw [hp]; rfl) rfl (by omega) rfl (by rw [hp]; rfl)
  refine hd_of (by unfold l123_0; rfl) ?_
  have gg := trivial; repeat' first | simp (maxSteps := 2000000) (disch := omega) only [gg, hxi, h159, lp_head, go_sem] | (refine br ?_ ?_ <;> intro gg <;> try (exfalso; omega)) | (refine And.intro ?_ ?_; focus omega) | omega
end Go.Abs
namespace Go.Abs
open Am Lib
set_option maxRecDepth 10000
set_option linter.unusedSimpArgs false
theorem join_split : ∀ s : List UInt8, joinB (splitOn 47 s) = s
  | [] => rfl
  | x :: r => by
    have ih := join_split r
    rw [splitOn_cons]
    cases hq : splitOn 47 r with
    | nil => exact (splitOn_ne 47 r hq).elim
    | cons q qs =>
      rw [hq] at ih
      by_cases hx : x = 47
      · rw [if_pos hx, hx]
        simp only [joinB, jn, List.nil_append]
        simp only [joinB] at ih
        rw [List.cons_append, ih]
      · rw [if_neg hx]
        simp only [joinB, List.cons_append]
        simp only [joinB] at ih
        rw [ih]
theorem split_app : ∀ (a b : List UInt8), splitOn 47 (a ++ 47 :: b) = splitOn 47 a ++ splitOn 47 b
  | [], b => by simp [splitOn]
  | x :: a, b => by
    have ih := split_app a b
    rw [List.cons_append, splitOn_cons, ih, splitOn_cons]
    cases hq : splitOn 47 a with
    | nil => exact (splitOn_ne 47 a hq).elim
    | cons q qs =>
      by_cases hx : x = 47
      · simp [hx]
      · simp [hx]
theorem lastAt_no (c : UInt8) (s : List UInt8) : ∀ k : Nat, ∀ j : Nat, lastAt c k s < j → j < k → s[j]? ≠ some c
  | 0, j, _, h => by omega
  | k + 1, j, h1, h2 => by
    unfold lastAt at h1
    split at h1
    · omega
    · rename_i h3
      by_cases hj : j = k
      · subst hj; exact h3
      · exact lastAt_no c s k j h1 (by omega)
theorem lastAt_yes (c : UInt8) (s : List UInt8) : ∀ k : Nat, 0 ≤ lastAt c k s → s[(lastAt c k s).toNat]? = some c
  | 0, h => by simp [lastAt] at h
  | k + 1, h => by
    unfold lastAt at h ⊢
    split
    · rename_i h3; simpa using h3
    · rename_i h3
      rw [if_neg h3] at h
      exact lastAt_yes c s k h
theorem last_split (s : List UInt8) : (lastB 47 s < 0 ∧ splitOn 47 s = [s]) ∨ (0 ≤ lastB 47 s ∧ ∃ b, splitOn 47 s = splitOn 47 (s.take (lastB 47 s).toNat) ++ [b]) := by
  have h1 := lastAt_lt 47 s s.length
  have h2 := lastAt_no 47 s s.length
  have h3 := lastAt_yes 47 s s.length
  have h4 : lastB 47 s = lastAt 47 s.length s := rfl
  by_cases h5 : lastB 47 s < 0
  · left
    refine ⟨h5, split_end s ?_⟩
    intro x hx hx2
    obtain ⟨j, hj, he⟩ := List.getElem_of_mem hx
    refine h2 j (by omega) hj ?_
    rw [List.getElem?_eq_getElem hj, he, hx2]
  · right
    refine ⟨by omega, s.drop ((lastB 47 s).toNat + 1), ?_⟩
    have h6 := h3 (by omega)
    rw [← h4] at h6 h2 h1
    generalize hk : (lastB 47 s).toNat = k at *
    have hk2 : k < s.length := by omega
    have e : s = s.take k ++ 47 :: s.drop (k + 1) := by
      rw [List.getElem?_eq_getElem hk2] at h6
      have h7 : s[k] = 47 := by simpa using h6
      rw [← h7, List.getElem_cons_drop, List.take_append_drop]
    have e2 : splitOn 47 (s.drop (k + 1)) = [s.drop (k + 1)] := by
      refine split_end _ ?_
      intro x hx hx2
      obtain ⟨j, hj, he⟩ := List.getElem_of_mem hx
      rw [List.length_drop] at hj
      refine h2 (k + 1 + j) (by omega) (by omega) ?_
      rw [List.getElem_drop] at he
      rw [List.getElem?_eq_getElem (by omega), he, hx2]
    conv => lhs; rw [e]
    rw [split_app, e2]
theorem s76 (s : List UInt8) (hs : s.length ≤ 1000000) : callT AA 76 [.str s] [] = some (.tuple [.str (parentP s).1, .bool (parentP s).2], []) := by
  have h := s122 s hs
  have hn := split_n s hs
  have h1 := split_len 47 s
  refine enter fn76 np76 rfl ?_
  unfold parentP
  cases hb : goodB s with
  | false =>
    rw [hb] at h
    rw [if_neg (by simp)]
    have gg := trivial; repeat' first | simp (maxSteps := 2000000) (disch := omega) only [gg, b76, h, go_sem] | (refine br ?_ ?_ <;> intro gg <;> try (exfalso; omega)) | (refine And.intro ?_ ?_; focus omega) | omega
  | true =>
    rw [hb, if_pos rfl] at h
    rcases last_split s with ⟨h2, h3⟩ | ⟨h2, b, h3⟩
    · rw [if_neg (by omega)]
      have h4 : (splitOn 47 s).length = 1 := by rw [h3]; rfl
      have gg := trivial; repeat' first | simp (maxSteps := 2000000) (disch := omega) only [gg, b76, h, h4, go_sem] | (refine br ?_ ?_ <;> intro gg <;> try (exfalso; omega)) | (refine And.intro ?_ ?_; focus omega) | omega
    · rw [if_pos ⟨h2, rfl⟩]
      have h4 : (splitOn 47 s).length = (splitOn 47 (s.take (lastB 47 s).toNat)).length + 1 := by rw [h3]; simp
      have h5 := split_len 47 (s.take (lastB 47 s).toNat)
      have h6 : ((splitOn 47 s).map AVal.str).take (((splitOn 47 s).length : Int) - 1).toNat = (splitOn 47 (s.take (lastB 47 s).toNat)).map AVal.str := by
        rw [show (((splitOn 47 s).length : Int) - 1).toNat = (splitOn 47 s).length - 1 by omega, ← List.map_take]
        rw [h3]; simp
      have hg : s.length ≤ 400 ∧ (splitOn 47 s).all partB = true := by simpa [goodB, splitP] using hb
      have hall : ∀ p ∈ splitOn 47 (s.take (lastB 47 s).toNat), partB p = true ∧ p.length ≤ 1000000 := by
        intro p hp
        have hp2 : p ∈ splitOn 47 s := by rw [h3]; simp [hp]
        exact ⟨List.all_eq_true.1 hg.2 p hp2, Nat.le_trans (split_short 47 s p hp2) hs⟩
      have h123 := fun c t => s123 c t (splitOn 47 (s.take (lastB 47 s).toNat)) (by omega) hall (by rw [join_split, List.length_take]; omega) (by omega)
      simp only [join_split] at h123
      have gg := trivial; repeat' first | simp (maxSteps := 2000000) (disch := omega) only [gg, b76, h, h6, h123, go_sem] | (refine br ?_ ?_ <;> intro gg <;> try (exfalso; omega)) | (refine And.intro ?_ ?_; focus omega) | omega
end Go.Abs
namespace Go.Abs
open Am Lib
set_option maxRecDepth 10000
set_option linter.unusedSimpArgs false
set_option maxHeartbeats 4000000 in
theorem s77 (e : Ent) (hl : e.link.length ≤ 1000000) : callT AA 77 [e.av] [] = some (.bool (fieldsB e), []) := by
  have h1 := s124 e.link 400 hl
  have h2 := s75 e.link hl
  refine enter fn77 np77 rfl ?_
  have gg := trivial; repeat' first | simp (maxSteps := 2000000) (disch := omega) only [gg, b77, h1, h2, go_sem] | (refine br ?_ ?_ <;> intro gg <;> try (exfalso; omega)) | (refine And.intro ?_ ?_; focus omega) | omega
  all_goals (clear h1 h2 hl)
  all_goals first
    | (by_cases k0 : 0 < (e.data.l.length : Int) ∧ ¬ e.kind = 2
       · have k00 : ¬ e.data.l.length = 0 := by omega
         by_cases k1 : e.kind = 1
         · simp_all [fieldsB, metaB]; done
         · by_cases k3 : e.kind = 3
           · simp_all [fieldsB, metaB]; done
           · by_cases k4 : e.kind = 4
             · simp_all [fieldsB, metaB]; done
             · simp_all [fieldsB, metaB]; done
       · exfalso; omega)
    | skip
  (all_goals (first | (simp_all [fieldsB, metaB]; done) | (simp_all [fieldsB, metaB]; omega) | (simp_all [fieldsB, metaB]; intros; omega) | (simp_all [fieldsB, metaB]; rw [Bool.eq_iff_iff]; simp; done) | (simp_all [fieldsB, metaB]; rw [Bool.eq_iff_iff]; simp; omega)))
end Go.Abs
namespace Go.Abs
open Am Lib
set_option maxRecDepth 10000
set_option linter.unusedSimpArgs false
theorem cmp_cases : ∀ a b : List UInt8, (compareBytes a b = -1 ∧ Op.bytesLess a b = true ∧ Op.bytesLess b a = false) ∨ (compareBytes a b = 0 ∧ a = b ∧ Op.bytesLess a b = false ∧ Op.bytesLess b a = false) ∨ (compareBytes a b = 1 ∧ Op.bytesLess a b = false ∧ Op.bytesLess b a = true)
  | [], [] => by simp [compareBytes, Op.bytesLess]
  | [], _ :: _ => by simp [compareBytes, Op.bytesLess]
  | _ :: _, [] => by simp [compareBytes, Op.bytesLess]
  | x :: a, y :: b => by
    have ih := cmp_cases a b
    have e : compareBytes (x :: a) (y :: b) = if x < y then -1 else if y < x then 1 else compareBytes a b := by rw [compareBytes]
    rw [e]
    by_cases h1 : x < y
    · have h2 : ¬ y < x := by
        intro h; exact absurd (UInt8.lt_trans h1 h) (UInt8.lt_irrefl x)
      simp [Op.bytesLess, h1, h2]
      intro h; subst h; exact absurd h1 (UInt8.lt_irrefl _)
    · by_cases h2 : y < x
      · simp [Op.bytesLess, h1, h2]
        intro h; subst h; exact absurd h2 (UInt8.lt_irrefl _)
      · have h3 : x = y := by
          have e1 := UInt8.le_antisymm (UInt8.not_lt.1 h2) (UInt8.not_lt.1 h1)
          exact e1
        subst h3
        simpa [Op.bytesLess, h1] using ih
def cmpR : List (List UInt8) → List (List UInt8) → Int
  | x :: xs, y :: ys => if compareBytes x y ≠ 0 then compareBytes x y else cmpR xs ys
  | [], [] => 0
  | [], _ :: _ => -1
  | _ :: _, [] => 1
theorem cmpR_parts : ∀ xs ys : List (List UInt8), xs ≠ [] → ys ≠ [] → cmpR xs ys = cmpParts xs ys
  | [], _, h, _ => (h rfl).elim
  | _ :: _, [], _, h => (h rfl).elim
  | [x], [y], _, _ => by rw [cmp_nn]; rfl
  | [x], y :: y2 :: ys, _, _ => by rw [cmp_ny (by simp)]; rfl
  | x :: x2 :: xs, [y], _, _ => by rw [cmp_yn (by simp)]; rfl
  | x :: x2 :: xs, y :: y2 :: ys, _, _ => by
    have ih := cmpR_parts (x2 :: xs) (y2 :: ys) (by simp) (by simp)
    rw [cmp_yy (by simp) (by simp), cmpR, ih]
set_option maxHeartbeats 4000000 in
theorem h78 (ps qs : List (List UInt8)) (hp : ps.length ≤ 2000000) (hq : qs.length ≤ 2000000) (r0 : Int) : ∀ (xs ys done1 done2 : List (List UInt8)) (i : Int), ps = done1 ++ xs → qs = done2 ++ ys → i = done1.length → i = done2.length → r0 = cmpR xs ys →
    HD AA 0 [4, 5, 6, 7] l78_0 ⟨[.junk, .junk, .junk, .junk, .int .i64 0, .own 0 1 0 ps.length false, .own 1 1 0 qs.length false, .int .i64 i, .junk, .junk, .junk, .junk, .junk, .junk, .junk, .junk, .junk, .junk, .junk, .junk, .junk, .junk, .junk, .junk, .junk, .junk, .junk, .junk, .junk, .junk, .junk, .junk, .junk, .junk, .junk, .junk, .junk, .junk, .junk, .junk, .junk, .junk, .junk, .junk, .junk, .junk, .junk, .junk, .junk, .junk, .junk, .junk], [(0, .row (ps.map .str) 1), (1, .row (qs.map .str) 1)], 2⟩ [.blk 0, .code r78_0] (Fin [(4, none)] 0 (.int .i64 r0) [])
  | [], ys, done1, done2, i, h1, h2, h3, h4, h5 => by
    have hl : ps.length = done1.length := by rw [h1]; simp
    have hl2 : qs.length = done2.length + ys.length := by rw [h2]; simp
    cases ys with
    | nil =>
      have hr : r0 = 0 := h5
      rw [List.length_nil] at hl2
      subst hr
      refine hd_of (by unfold l78_0; rfl) ?_
      have gg := trivial; repeat' first | simp (maxSteps := 2000000) (disch := omega) only [gg, r78_0, go_sem] | (refine br ?_ ?_ <;> intro gg <;> try (exfalso; omega)) | (refine And.intro ?_ ?_; focus omega) | omega
    | cons y ys =>
      have hr : r0 = -1 := h5
      rw [List.length_cons] at hl2
      subst hr
      refine hd_of (by unfold l78_0; rfl) ?_
      have gg := trivial; repeat' first | simp (maxSteps := 2000000) (disch := omega) only [gg, r78_0, go_sem] | (refine br ?_ ?_ <;> intro gg <;> try (exfalso; omega)) | (refine And.intro ?_ ?_; focus omega) | omega
  | x :: xs, [], done1, done2, i, h1, h2, h3, h4, h5 => by
    have hl : ps.length = done1.length + (xs.length + 1) := by rw [h1]; simp
    have hl2 : qs.length = done2.length := by rw [h2]; simp
    have hr : r0 = 1 := h5
    subst hr
    refine hd_of (by unfold l78_0; rfl) ?_
    have gg := trivial; repeat' first | simp (maxSteps := 2000000) (disch := omega) only [gg, r78_0, go_sem] | (refine br ?_ ?_ <;> intro gg <;> try (exfalso; omega)) | (refine And.intro ?_ ?_; focus omega) | omega
  | x :: xs, y :: ys, done1, done2, i, h1, h2, h3, h4, h5 => by
    have hl : ps.length = done1.length + (xs.length + 1) := by rw [h1]; simp
    have hl2 : qs.length = done2.length + (ys.length + 1) := by rw [h2]; simp
    have hx1 : ps[i.toNat]? = some x := by
      rw [show i.toNat = done1.length by omega, h1, List.getElem?_append_right (by omega)]
      simp
    have hx2 : qs[i.toNat]? = some y := by
      rw [show i.toNat = done2.length by omega, h2, List.getElem?_append_right (by omega)]
      simp
    rw [cmpR] at h5
    rcases cmp_cases x y with ⟨c1, c2, c3⟩ | ⟨c1, c2, c3, c4⟩ | ⟨c1, c2, c3⟩
    · rw [c1, if_pos (by omega)] at h5
      subst h5
      refine hd_of (by unfold l78_0; rfl) ?_
      have gg := trivial; repeat' first | simp (maxSteps := 2000000) (disch := omega) only [gg, hx1, hx2, c2, c3, go_sem] | (refine br ?_ ?_ <;> intro gg <;> try (exfalso; omega)) | (refine And.intro ?_ ?_; focus omega) | omega
    · rw [c1, if_neg (by omega)] at h5
      have ih := h78 ps qs hp hq r0 xs ys (done1 ++ [x]) (done2 ++ [y]) (i + 1) (by rw [h1]; simp) (by rw [h2]; simp) (by simp; omega) (by simp; omega) h5
      refine hd_of (by unfold l78_0; rfl) ?_
      have gg := trivial; repeat' first | simp (maxSteps := 2000000) (disch := omega) only [gg, hx1, hx2, c3, c4, lp_head, go_sem] | (refine br ?_ ?_ <;> intro gg <;> try (exfalso; omega)) | (refine And.intro ?_ ?_; focus omega) | omega
    · rw [c1, if_pos (by omega)] at h5
      have hne : ¬ x = y := by
        intro h; subst h; rw [c2] at c3; simp at c3
      subst h5
      refine hd_of (by unfold l78_0; rfl) ?_
      have gg := trivial; repeat' first | simp (maxSteps := 2000000) (disch := omega) only [gg, hx1, hx2, c2, c3, hne, go_sem] | (refine br ?_ ?_ <;> intro gg <;> try (exfalso; omega)) | (refine And.intro ?_ ?_; focus omega) | omega
theorem s78 (a b : List UInt8) (ha : a.length ≤ 1000000) (hb : b.length ≤ 1000000) : callT AA 78 [.str a, .str b] [] = some (.int .i64 (cmpPath a b), []) := by
  have h1 := s125 a ha
  have h2 := s125 b hb
  have hh := h78 (splitOn 47 a) (splitOn 47 b) (split_n a ha) (split_n b hb) (cmpPath a b) (splitOn 47 a) (splitOn 47 b) [] [] 0 rfl rfl rfl rfl (cmpR_parts _ _ (splitOn_ne 47 a) (splitOn_ne 47 b)).symm
  refine enter fn78 np78 rfl ?_
  have gg := trivial; repeat' first | simp (maxSteps := 2000000) (disch := omega) only [gg, b78, h1, h2, lp_head, go_sem] | (refine br ?_ ?_ <;> intro gg <;> try (exfalso; omega)) | (refine And.intro ?_ ?_; focus omega) | omega
end Go.Abs
namespace Go.Abs
open Am Lib
set_option maxRecDepth 10000
set_option linter.unusedSimpArgs false
end Go.Abs
namespace Go.Abs
open Am Lib
set_option maxRecDepth 10000
set_option linter.unusedSimpArgs false
end Go.Abs
namespace Go.Abs
def l3_0 : ACode := (.seq (rg [oo 64 (.bin .lss .other false (.t 63) (.t 62))]) (.seq (.cond (.t 64) .skip (.exit 2)) (.seq (.block 3 (.seq (rg [mv 65 63, mv 12 65]) (.seq (.reg true [(3, 4), (3, 5), (3, 6), (0, 7), (1, 7), (2, 7), (3, 7)] [mv 66 10, mv 67 12, oo 68 (.ixa 2 (.t 66) (.t 67)), oo 69 (.ld 2 true (.t 68)), mv 70 11, mv 71 12, oo 72 (.ixa 2 (.t 70) (.t 71)), oo 73 (.ld 2 true (.t 72)), oo 74 (.bin .neq .pair false (.t 69) (.t 73))]) (.cond (.t 74) (.seq (rg [oo 2 (.mov (.c (.bool false)))]) .ret) .skip)))) (rg [oo 75 (.bin .add .other true (.t 63) (ci 1)), mv 63 75]))))
def r3_0 : ACode := (rg [oo 76 (.bin .add .other true (.t 48) (ci 1)), mv 48 76])
def l3_1 : ACode := (.seq (rg [oo 49 (.bin .lss .other false (.t 48) (.t 47))]) (.seq (.cond (.t 49) .skip (.exit 0)) (.seq (.block 1 (.seq (rg [oo 50 (.ixa 8 (.t 46) (.t 48)), oo 51 (.ld 8 true (.t 50)), oo 9 (.alloc [(.str []), (.int .i64 0), (.int .i64 0), (.int .i64 0), (.int .i64 0), (.int .i64 0), (.str []), (.lit (.slice none 0 0))]), ⟨none, (.st 8 (.t 9) (.t 51)), none⟩]) (.seq (rg [oo 52 (.ld 8 true (.t 9)), cl 53 21 [(.t 52)], mv 10 53]) (.seq (rg [oo 54 (.ld 8 true (.t 9)), cl 55 22 [(.t 54)], mv 11 55]) (.seq (.seq (rg [mv 56 10, oo 57 (.len 1 (.t 56)), mv 58 11, oo 59 (.len 1 (.t 58)), oo 60 (.bin .neq .other false (.t 57) (.t 59))]) (.cond (.t 60) (.seq (rg [oo 2 (.mov (.c (.bool false)))]) .ret) .skip)) (.seq (rg [mv 61 10, oo 62 (.len 1 (.t 61)), oo 63 (.mov (ci 0))]) (.block 2 (.loop [2, 10, 11, 46, 47, 48, 62, 63] l3_0)))))))) r3_0)))
def r3_1 : ACode := (.seq (rg [oo 2 (.mov (.c (.bool true)))]) .ret)
def b3 : AFn := ⟨1, 77, [(2, none)], (.seq (rg [oo 2 (.mov (.c (.bool false)))]) (.seq (.seq (rg [cl 13 14 [], oo 14 (.un .not (.t 13))]) (.cond (.t 14) (.seq (rg [oo 2 (.mov (.c (.bool false)))]) .ret) .skip)) (.seq (.seq (rg [mv 15 0, cl 16 15 [(.t 15)]]) (.cond (.t 16) (.seq (rg [oo 2 (.mov (.c (.bool true)))]) .ret) .skip)) (.seq (rg [mv 17 0, cl 18 16 [(.t 17)], mv 3 18]) (.seq (rg [mv 20 0, cl 21 17 [(.t 20)], mv 19 21, oo 22 (.ext (.t 19) 0), oo 23 (.ext (.t 19) 1), mv 4 22, mv 5 23]) (.seq (rg [mv 25 3, cl 26 18 [(.t 25)], mv 24 26, oo 27 (.ext (.t 24) 0), oo 28 (.ext (.t 24) 1), mv 6 27, mv 7 28]) (.seq (.seq (rg [mv 29 4, oo 30 (.cvbs (.t 29)), mv 31 6, oo 32 (.cvbs (.t 31)), oo 33 (.bin .neq .other false (.t 30) (.t 32)), mv 34 33, og 35 (.mov (.t 5)) 34 false, og 36 (.call (.c (.func (.func 19) [])) [(.t 35)]) 34 false, og 37 (.mov (.t 7)) 34 false, og 38 (.bin .neq .other false (.t 36) (.t 37)) 34 false, oo 39 (.pick (.t 34) (.c (.bool true)) (.t 38)), mv 40 39, og 41 (.mov (.t 0)) 40 false, og 42 (.mov (.t 3)) 40 false, og 43 (.call (.c (.func (.func 20) [])) [(.t 41), (.t 42)]) 40 false, og 44 (.un .not (.t 43)) 40 false, oo 45 (.pick (.t 40) (.c (.bool true)) (.t 44))]) (.cond (.t 45) (.seq (rg [oo 2 (.mov (.c (.bool false)))]) .ret) .skip)) (.seq (.seq (rg [mv 46 0, oo 47 (.len 1 (.t 46)), oo 48 (.mov (ci 0))]) (.block 0 (.loop [2, 46, 47, 48] l3_1))) r3_1))))))))⟩
end Go.Abs
namespace Go.Abs
open Am Lib
set_option maxRecDepth 10000
set_option linter.unusedSimpArgs false
end Go.Abs
namespace Go.Abs
open Am Lib
set_option maxRecDepth 10000
set_option linter.unusedSimpArgs false
end Go.Abs
namespace Go.Abs
open Am Lib
set_option maxRecDepth 10000
set_option linter.unusedSimpArgs false
def kindF (p : List UInt8) : List Ent → Int
  | [] => 0
  | e :: r => if e.path = p then e.kind else kindF p r
set_option maxHeartbeats 2000000 in
theorem h79 (c tmp : Bool) (t : List Ent) (ht : t.length ≤ 1000000) (p : List UInt8) (n : Int) (hn : n ≤ t.length) (r0 : Int) : ∀ (rest done : List Ent) (i : Int), t = done ++ rest → i = done.length → i ≤ n → r0 = kindF p (rest.take (n - i).toNat) →
    HD AA 0 [0, 1, 2, 6, 7] l79_0 ⟨[.view 8 (t.map Ent.av) c tmp, .int .i64 n, .str p, .junk, .junk, .junk, .int .i64 0, .int .i64 i, .junk, .junk, .junk, .junk, .junk, .junk, .junk, .junk, .junk, .junk, .junk, .junk, .junk, .junk, .junk, .junk, .junk], [], 0⟩ [.blk 0, .code r79_0] (Fin [(6, none)] 0 (.int .i64 r0) [])
  | [], done, i, h1, h2, h3, h5 => by
    have hl : t.length = done.length := by rw [h1]; simp
    have hr : r0 = 0 := by rw [h5]; simp [kindF]
    subst hr
    refine hd_of (by unfold l79_0; rfl) ?_
    have gg := trivial; repeat' first | simp (maxSteps := 2000000) (disch := omega) only [gg, r79_0, go_sem] | (refine br ?_ ?_ <;> intro gg <;> try (exfalso; omega)) | (refine And.intro ?_ ?_; focus omega) | omega
  | e :: rest, done, i, h1, h2, h3, h5 => by
    have hl : t.length = done.length + (rest.length + 1) := by rw [h1]; simp
    by_cases h6 : i = n
    · have hr : r0 = 0 := by rw [h5, h6]; simp [kindF]
      subst hr
      refine hd_of (by unfold l79_0; rfl) ?_
      have gg := trivial; repeat' first | simp (maxSteps := 2000000) (disch := omega) only [gg, r79_0, go_sem] | (refine br ?_ ?_ <;> intro gg <;> try (exfalso; omega)) | (refine And.intro ?_ ?_; focus omega) | omega
    · have hx : t[i.toNat]? = some e := by
        rw [show i.toNat = done.length by omega, h1, List.getElem?_append_right (by omega)]
        simp
      have e1 : (n - i).toNat = (n - (i + 1)).toNat + 1 := by omega
      rw [e1, List.take_succ_cons, kindF] at h5
      by_cases h7 : e.path = p
      · rw [if_pos h7] at h5
        subst h5
        refine hd_of (by unfold l79_0; rfl) ?_
        have gg := trivial; repeat' first | simp (maxSteps := 2000000) (disch := omega) only [gg, hx, h7, go_sem] | (refine br ?_ ?_ <;> intro gg <;> try (exfalso; omega)) | (refine And.intro ?_ ?_; focus omega) | omega
      · rw [if_neg h7] at h5
        have ih := h79 c tmp t ht p n hn r0 rest (done ++ [e]) (i + 1) (by rw [h1]; simp) (by simp; omega) (by omega) h5
        refine hd_of (by unfold l79_0; rfl) ?_
        have gg := trivial; repeat' first | simp (maxSteps := 2000000) (disch := omega) only [gg, hx, h7, lp_head, go_sem] | (refine br ?_ ?_ <;> intro gg <;> try (exfalso; omega)) | (refine And.intro ?_ ?_; focus omega) | omega
theorem s79 (c tmp : Bool) (t : List Ent) (ht : t.length ≤ 1000000) (p : List UInt8) (n : Int) (h0 : 0 ≤ n) (hn : n ≤ t.length) : callT AA 79 [.view 8 (t.map Ent.av) c tmp, .int .i64 n, .str p] [] = some (.int .i64 (kindF p (t.take n.toNat)), []) := by
  have hh := h79 c tmp t ht p n hn (kindF p (t.take n.toNat)) t [] 0 rfl rfl h0 (by rw [show (n - 0).toNat = n.toNat by omega])
  refine enter fn79 np79 rfl ?_
  have gg := trivial; repeat' first | simp (maxSteps := 2000000) (disch := omega) only [gg, b79, lp_head, go_sem] | (refine br ?_ ?_ <;> intro gg <;> try (exfalso; omega)) | (refine And.intro ?_ ?_; focus omega) | omega
theorem bl_trans : ∀ a b c : List UInt8, Op.bytesLess a b = true → Op.bytesLess b c = true → Op.bytesLess a c = true
  | _, _, [], _, h => by simp [Op.bytesLess] at h
  | _, [], _ :: _, h, _ => by simp [Op.bytesLess] at h
  | [], _ :: _, _ :: _, _, _ => by simp [Op.bytesLess]
  | x :: a, y :: b, z :: c, h1, h2 => by
    have ih := bl_trans a b c
    simp only [Op.bytesLess, Bool.or_eq_true, decide_eq_true_eq, Bool.and_eq_true, beq_iff_eq] at h1 h2 ⊢
    rcases h1 with h1 | ⟨h1, h3⟩
    · rcases h2 with h2 | ⟨h2, h4⟩
      · exact Or.inl (UInt8.lt_trans h1 h2)
      · subst h2; exact Or.inl h1
    · subst h1
      rcases h2 with h2 | ⟨h2, h4⟩
      · exact Or.inl h2
      · exact Or.inr ⟨h2, ih h3 h4⟩
theorem cmp_trans (a b c : List UInt8) (h1 : compareBytes a b = -1) (h2 : compareBytes b c = -1) : compareBytes a c = -1 := by
  have h3 : Op.bytesLess a b = true := by
    rcases cmp_cases a b with ⟨e1, e2, _⟩ | ⟨e1, _⟩ | ⟨e1, _⟩
    · exact e2
    all_goals omega
  have h4 : Op.bytesLess b c = true := by
    rcases cmp_cases b c with ⟨e1, e2, _⟩ | ⟨e1, _⟩ | ⟨e1, _⟩
    · exact e2
    all_goals omega
  have h5 := bl_trans a b c h3 h4
  rcases cmp_cases a c with ⟨e1, _⟩ | ⟨_, _, e2, _⟩ | ⟨_, e2, _⟩
  · exact e1
  · rw [h5] at e2; simp at e2
  · rw [h5] at e2; simp at e2
theorem cmp_self (a : List UInt8) : compareBytes a a = 0 := by
  rcases cmp_cases a a with h | h | h <;> simp_all
theorem cmp_zero {a b : List UInt8} (h : compareBytes a b = 0) : a = b := by
  rcases cmp_cases a b with h1 | h1 | h1 <;> simp_all
theorem cmpR_self : ∀ a : List (List UInt8), cmpR a a = 0
  | [] => rfl
  | x :: a => by rw [cmpR, cmp_self, if_neg (by omega), cmpR_self a]
theorem cmpR_range : ∀ a b : List (List UInt8), cmpR a b = -1 ∨ cmpR a b = 0 ∨ cmpR a b = 1
  | [], [] => by simp [cmpR]
  | [], _ :: _ => by simp [cmpR]
  | _ :: _, [] => by simp [cmpR]
  | x :: a, y :: b => by
    have ih := cmpR_range a b
    rw [cmpR]
    split
    · rcases cmp_cases x y with h | h | h <;> omega
    · exact ih
theorem cmpR_trans : ∀ a b c : List (List UInt8), cmpR a b = -1 → cmpR b c = -1 → cmpR a c = -1
  | _, _ :: _, [], _, h => by simp [cmpR] at h
  | _, [], [], _, h => by simp [cmpR] at h
  | _ :: _, [], _ :: _, h, _ => by simp [cmpR] at h
  | [], _, _ :: _, _, _ => by simp [cmpR]
  | x :: a, y :: b, z :: c, h1, h2 => by
    have ih := cmpR_trans a b c
    rw [cmpR] at h1 h2 ⊢
    by_cases g1 : compareBytes x y = 0
    · have e := cmp_zero g1
      subst e
      rw [g1, if_neg (by omega)] at h1
      by_cases g2 : compareBytes x z = 0
      · rw [g2, if_neg (by omega)] at h2 ⊢
        exact ih h1 h2
      · rw [if_pos g2] at h2 ⊢
        exact h2
    · rw [if_pos g1] at h1
      by_cases g2 : compareBytes y z = 0
      · have e := cmp_zero g2
        subst e
        rw [if_pos (by omega)]
        exact h1
      · rw [if_pos g2] at h2
        have h3 := cmp_trans x y z h1 h2
        rw [if_pos (by omega)]
        exact h3
theorem path_eq (a b : List UInt8) : cmpPath a b = cmpR (splitOn 47 a) (splitOn 47 b) := (cmpR_parts _ _ (splitOn_ne 47 a) (splitOn_ne 47 b)).symm
theorem path_self (a : List UInt8) : cmpPath a a = 0 := by rw [path_eq, cmpR_self]
theorem path_trans {a b c : List UInt8} (h1 : cmpPath a b = -1) (h2 : cmpPath b c = -1) : cmpPath a c = -1 := by
  rw [path_eq] at *
  exact cmpR_trans _ _ _ h1 h2
theorem path_range (a b : List UInt8) : cmpPath a b = -1 ∨ cmpPath a b = 0 ∨ cmpPath a b = 1 := by
  rw [path_eq]
  exact cmpR_range _ _
end Go.Abs
namespace Go.Abs
open Am Lib
set_option maxRecDepth 10000
set_option linter.unusedSimpArgs false
end Go.Abs
