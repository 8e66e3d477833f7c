import Derived.Test.YtambgnjkakdoeaaGreatDoorArchives13
import Derived.ChangeSame
import Derived.Deep.Fields
import Derived.Deep.Slices
import Derived.ProofKit
/- PART OF A PROOF (texts joined by a program): F140 R2 Q6 F85 B8 B9 F86 N7 N8 F87 F141 L2 F110 F111 F112 F113 F114 F115 F116 F117 F118 F119 F120 F121 Q9 F122 F123 F124 T6 F40 F41 F42 Q4 F88 F89 F90 B4 F83 F84 F43 F44 F91 F125 F142. -/
set_option linter.unusedVariables false
set_option linter.unusedSimpArgs false
set_option linter.unusedSectionVars false
namespace Go.Abs
open Am Go.Proofs
set_option maxRecDepth 20000
theorem srt_nodup {O : List Ent} (h : Srt Ent.path O) : (O.map Ent.path).Nodup := by
 unfold Srt at h
 unfold List.Nodup
 rw [List.pairwise_map]
 refine h.imp fun {a b} hab he => ?_
 rw [he, pLt_irrefl] at hab
 cases hab
theorem insK_mem {x y : Ent} {l : List Ent} : y ∈ insK Ent.path x l ↔ y = x ∨ y ∈ l := by
 rw [(insK_perm Ent.path x l).mem_iff, List.mem_cons]
set_option maxHeartbeats 8000000 in
theorem h50D (E : Int) (hE : E ≠ 0) (R : List Ent) (hl : R.length ≤ 1000000) (hq : ∀ x ∈ R, EntOk x) (hc : (checkT R).2 = E) :
  HD AA 0 [2, 3, 4, 11] l50_1 ⟨[.junk, .junk, .lit (.slice none 0 0), .int .i64 0, .own 0 8 0 R.length false, .junk, .junk, .junk, .junk, .junk, .junk, .bool false, .junk, .junk, .junk, .junk, .junk, .junk, .junk, .junk, .junk, .junk, .junk, .junk, .junk, .junk, .junk, .junk, .junk, .junk, .junk, .junk, .junk, .junk, .junk, .junk, .junk, .junk, .junk, .junk, .junk, .junk, .junk, .junk, .junk, .junk, .junk, .junk, .junk, .junk, .junk, .junk, .junk, .junk, .junk, .junk, .junk, .junk, .junk, .junk, .junk, .junk, .junk, .junk, .junk, .junk, .junk, .junk, .junk, .junk, .junk, .junk, .junk, .junk, .junk, .junk, .junk, .junk, .junk, .junk, .junk, .junk, .junk, .junk, .junk, .junk, .junk, .junk, .junk, .junk, .junk, .junk, .junk, .junk, .junk, .junk, .junk, .junk, .junk, .junk, .junk, .junk, .junk, .junk, .junk, .junk, .junk, .junk, .junk, .junk, .junk, .junk, .junk, .junk, .junk, .junk, .junk, .junk, .junk, .junk, .junk], [(0, .row (R.map Ent.av) 8)], 1⟩ [.blk 4, .code r50_0] (Fin [(2, none), (3, none)] 0 (err50 E) []) := by
 have c41 := fun cl tm => s41 cl tm R hq (by omega)
 have tk : (R.map Ent.av).take R.length = R.map Ent.av := List.take_of_length_le (by simp)
 rw [hc] at c41
 unfold err50
 generalize (checkT R).1 = K at *
 refine hd_of (by unfold l50_1; rfl) ?_
 have gg:=trivial;repeat' first|simp (maxSteps:=2000000) (disch:=omega) only [gg,r50_0,c41,tk,hE,go_sem]|(refine br ?_ ?_<;>intro gg<;>try omega)|(apply And.intro;focus omega)|omega
theorem h50C (N : List Ent) (hn : N.length ≤ 200) (hN : ∀ x ∈ N, x.path.length ≤ 400 ∧ EntOk x) (E : Int) (hE : E ≠ 0) (hR : ∀ R, Clo N R → Srt Ent.path R → (checkT R).2 = E) : ∀ (k : Nat) (O : List Ent), free (allA N) O ≤ k →
  Srt Ent.path O → (∀ x ∈ N, x ∈ O) → (∀ x ∈ O, x ∈ N ∨ ∃ p, x = dirE p ∧ p ∉ N.map Ent.path ∧ ∃ y ∈ N, Anc y.path p) → O.length + free (allA N) O ≤ N.length + (allA N).length →
  HD AA 0 [2, 3, 4, 11] l50_1 ⟨[.junk, .junk, .lit (.slice none 0 0), .int .i64 0, .own 0 8 0 O.length false, .junk, .junk, .junk, .junk, .junk, .junk, .bool true, .junk, .junk, .junk, .junk, .junk, .junk, .junk, .junk, .junk, .junk, .junk, .junk, .junk, .junk, .junk, .junk, .junk, .junk, .junk, .junk, .junk, .junk, .junk, .junk, .junk, .junk, .junk, .junk, .junk, .junk, .junk, .junk, .junk, .junk, .junk, .junk, .junk, .junk, .junk, .junk, .junk, .junk, .junk, .junk, .junk, .junk, .junk, .junk, .junk, .junk, .junk, .junk, .junk, .junk, .junk, .junk, .junk, .junk, .junk, .junk, .junk, .junk, .junk, .junk, .junk, .junk, .junk, .junk, .junk, .junk, .junk, .junk, .junk, .junk, .junk, .junk, .junk, .junk, .junk, .junk, .junk, .junk, .junk, .junk, .junk, .junk, .junk, .junk, .junk, .junk, .junk, .junk, .junk, .junk, .junk, .junk, .junk, .junk, .junk, .junk, .junk, .junk, .junk, .junk, .junk, .junk, .junk, .junk, .junk], [(0, .row (O.map Ent.av) 8)], 1⟩ [.blk 4, .code r50_0] (Fin [(2, none), (3, none)] 0 (err50 E) []) := by
 intro k
 induction k using Nat.strongRecOn with
 | _ k IH =>
  intro O hk hs hsub hfrm hlen
  have hal := allA_len N
  have hO : ∀ x ∈ O, x.path.length ≤ 400 ∧ EntOk x := by
   intro x hx
   rcases hfrm x hx with h1 | ⟨p, rfl, _, y, hy, ha⟩
   ·exact hN x h1
   ·have h1 := anc_len ha
    have h2 := (hN y hy).1
    exact ⟨by show p.length ≤ 400; omega, by simp [dirE], by show p.length ≤ _; omega, by simp [dirE, BS.l], rfl⟩
  have hI := h50I (Fin [(2, none), (3, none)] 0 (err50 E) []) O (by omega) (fun x hx => ⟨(hO x hx).2.2.2.2, (hO x hx).2.2.1⟩)
   (fun hm => by
    have hclo : Clo N O := ⟨hsub, hfrm, fun x hx hp => by
     by_cases hin : (parentP x.path).1 ∈ O.map Ent.path
     ·exact hin
     ·have := hm x hx
      rw [missB_iff.2 ⟨hp, hin⟩] at this
      exact absurd this (by simp), srt_nodup hs⟩
    exact h50D E hE O (by omega) (fun x hx => (hO x hx).2) (hR O hclo hs))
   (fun e he hm => by
    obtain ⟨hp, hin⟩ := missB_iff.1 hm
    have hanc : ∃ y ∈ N, Anc y.path (parentP e.path).1 := by
     rcases hfrm e he with h1 | ⟨p, rfl, _, y, hy, ha⟩
     ·exact ⟨e, h1, .par hp⟩
     ·exact ⟨y, hy, .up ha hp⟩
    have hmore : ∀ p ∈ O.map Ent.path, p ∈ (insK Ent.path (dirE (parentP e.path).1) O).map Ent.path := by
     intro p hp
     obtain ⟨z, hz, rfl⟩ := List.mem_map.1 hp
     exact List.mem_map.2 ⟨z, insK_mem.2 (.inr hz), rfl⟩
    have hnew : (parentP e.path).1 ∈ (insK Ent.path (dirE (parentP e.path).1) O).map Ent.path := List.mem_map.2 ⟨dirE (parentP e.path).1, insK_mem.2 (.inl rfl), rfl⟩
    have hA : (parentP e.path).1 ∈ allA N := by
     obtain ⟨y, hy, ha⟩ := hanc
     refine List.mem_flatMap.2 ⟨y, hy, anc_in ?_ ha⟩
     have h1 := cnt_le y.path
     have h2 := (hN y hy).1
     omega
    have hlt := free_lt hmore hA hin hnew
    have hln : (insK Ent.path (dirE (parentP e.path).1) O).length = O.length + 1 := (insK_perm Ent.path _ O).length_eq
    refine IH (free (allA N) (insK Ent.path (dirE (parentP e.path).1) O)) (by omega) _ (Nat.le_refl _) ?_ ?_ ?_ ?_
    ·refine insK_srt Ent.path hs fun y hy h => hin ?_
     exact List.mem_map.2 ⟨y, hy, h.symm⟩
    ·exact fun x hx => insK_mem.2 (.inr (hsub x hx))
    ·intro x hx
     rcases insK_mem.1 hx with rfl | hx
     ·refine .inr ⟨_, rfl, fun h => hin ?_, hanc⟩
      obtain ⟨z, hz, hz2⟩ := List.mem_map.1 h
      rw [← hz2]
      exact List.mem_map.2 ⟨z, hsub z hz, rfl⟩
     ·exact hfrm x hx
    ·omega)
   O [] 0 rfl rfl (by simp)
  clear IH hR hsub hfrm hN
  refine hd_of (by unfold l50_1; rfl) ?_
  have gg:=trivial;repeat' first|simp (maxSteps:=2000000) (disch:=omega) only [gg,lp_head,go_sem]|(refine br ?_ ?_<;>intro gg<;>try omega)|(apply And.intro;focus omega)|omega
  all_goals exact hI
theorem srt_puts {l : List Ent} (h : Srt Ent.path (putsF l)) : (l.map Ent.path).Nodup := by
 have h1 := srt_nodup h
 have h2 := (putsF_perm l []).map Ent.path
 rw [List.append_nil] at h2
 exact h2.nodup_iff.1 h1
set_option maxHeartbeats 8000000 in
theorem s50 (c tmp : Bool) (t : List Ent) (h0 : t ≠ []) (ht : t.length ≤ 200) (hq : ∀ x ∈ t, BEnt x) (E : Int) (hE : E ≠ 0)
  (H1 : t.all nmOk = false → E = 12)
  (H2 : t.all nmOk = true → ¬ (((t.map rdEnt).map nmE).map Ent.path).Nodup → E = 13)
  (H3 : t.all nmOk = true → (((t.map rdEnt).map nmE).map Ent.path).Nodup → ∀ R, Clo ((t.map rdEnt).map nmE) R → Srt Ent.path R → (checkT R).2 = E) :
  callT AA 50 [.view 8 (t.map Ent.av) c tmp] [] = some (err50 E, []) := by
 obtain ⟨e0, r0, he0⟩ := List.exists_cons_of_ne_nil h0
 have c16 : callT AA 16 [.view 8 (t.map Ent.av) c tmp] [] = some (.own 0 8 0 t.length false, [(0, .row ((t.map rdEnt).map Ent.av) 8)]) := by
  rw [← rav_eq]
  have hd : ∀ x ∈ t, x.data.l.length ≤ 140737488351232 := fun x hx => Nat.le_trans (hq x hx).2.2 (by omega)
  subst he0
  exact s16 c tmp e0 r0 (by omega) hd
 have hU0 : t.map rdEnt ≠ [] := by simpa using h0
 have hUl : (t.map rdEnt).length = t.length := List.length_map _
 have hUa : (t.map rdEnt).all nmOk = t.all nmOk := by
  rw [List.all_map]
  rfl
 have hUq : ∀ x ∈ t.map rdEnt, BEnt x := by
  intro x hx
  obtain ⟨y, hy, rfl⟩ := List.mem_map.1 hx
  exact hq y hy
 have hUd : ∀ x ∈ t.map rdEnt, x.data = .mk false false x.data.l := by
  intro x hx
  obtain ⟨y, hy, rfl⟩ := List.mem_map.1 hx
  rfl
 rw [← hUa] at H1 H2 H3
 rw [← hUl] at c16
 have hpos : 0 < t.length := List.length_pos_iff.2 h0
 clear he0
 generalize hU : t.map rdEnt = U at *
 have hNq : ∀ x ∈ U.map nmE, x.path.length ≤ 400 ∧ EntOk x := by
  intro x hx
  obtain ⟨y, hy, rfl⟩ := List.mem_map.1 hx
  exact nm_ok (hUq y hy)
 have hA := h50A U hU0 (by omega) hUq hUd (err50 E) [] (fun h => ⟨by rw [H1 h], rfl⟩) (fun hall => by
  have hpl := putsF_len (U.map nmE)
  rw [List.length_map] at hpl
  have hpne : putsF (U.map nmE) ≠ [] := by
   intro h
   rw [h] at hpl
   simp at hpl
   omega
  obtain ⟨a, l, hal⟩ := List.exists_cons_of_ne_nil hpne
  refine h50B (err50 E) [] (putsF (U.map nmE)) (by omega) (putsF_ord _) (fun hnd => ?_) (fun hs => ?_) l [] a 1 hal rfl (by simp [Srt])
  ·have h2 := (putsF_perm (U.map nmE) []).map Ent.path
   rw [List.append_nil] at h2
   have h3 : ¬ ((U.map nmE).map Ent.path).Nodup := fun h => hnd (h2.nodup_iff.2 h)
   rw [H2 hall h3]
   exact ⟨rfl, rfl⟩
  ·have hnd := srt_puts hs
   refine h50C (U.map nmE) (by rw [List.length_map]; omega) hNq E hE (H3 hall hnd) _ _ (Nat.le_refl _) hs (fun x hx => putsF_mem.2 hx) (fun x hx => .inl (putsF_mem.1 hx)) ?_
   have h2 : free (allA (U.map nmE)) (putsF (U.map nmE)) ≤ (allA (U.map nmE)).length := List.countP_le_length
   rw [hpl, List.length_map]
   omega) U [] 0 rfl rfl rfl
 have o1 : outA (putsF (List.map nmE [])) = .lit (.slice none 0 0) := rfl
 have q1 : cpA (putsF (List.map nmE [])) U.length = .own 0 8 0 U.length false := rfl
 have p1 : hpB (putsF (List.map nmE [])) U = [(0, .row (U.map Ent.av) 8)] := rfl
 rw [o1, q1, p1] at hA
 dsimp only at hA
 clear H1 H2 H3 hNq hUd hUq hU0 hUa
 refine enter fn50 np50 rfl ?_
 have gg:=trivial;repeat' first|simp (maxSteps:=2000000) (disch:=omega) only [gg,b50,c16,lp_head,go_sem]|(refine br ?_ ?_<;>intro gg<;>try omega)|(apply And.intro;focus omega)|omega
 all_goals exact hA
end Go.Abs
namespace Go.Abs
open Go.Proofs Go.RowKit Go.ChangeShapes Go.WideShapes Go.Deep
set_option maxRecDepth 100000
abbrev RepW (w : World) : AVal → Value → Prop := Rep (fun _ => none) (fun b => b < w.heap.size) (fun _ => False) w
section
variable {H : Type} {enc : TypeId × Value → H} {w : World} {n : Nat} {cs : List Value} {x : DataW H × List MemPlace}
theorem lt_of_cell {a : Addr} {v : Value} (h : w.cell? a = some v) : a.block < w.heap.size ∧ a.spot = none := by
 unfold World.cell? at h
 split at h
 ·rename_i c e f hb
  refine ⟨(Array.getElem?_eq_some_iff.1 hb).1, ?_⟩
  cases hs : a.spot with
  | none => rfl
  | some k => rw [hs] at h; simp at h
 ·cases h
theorem cell_add {b o i : Nat} {sp : Option Nat} {v : Value} (h : w.cell? ((⟨b, o, sp⟩ : Addr).add i) = some v) (hs : sp = none) : w.cell? ⟨b, o + i, none⟩ = some v := by
 subst hs
 rw [← h, Addr.add_none]
def Light (d : DataW H) (t : TypeId) : Prop := ∀ k ∈ d.weights Tryz.prog t, k ≤ reachBytes
theorem reach_eq : reachBytes = 140737488351232 := by decide
theorem str_of (hw : Light x.1 9) (h : DataW.trod enc Tryz.prog w 0 (fun _ => true) true n 9 cs = some x) : ∃ (l : List UInt8) (v : Value), cs = [v] ∧ RepW w (.str l) v ∧ l.length ≤ 140737488351232 := by
 obtain ⟨s, h1, hx, h2⟩ := DataW.trod_string Tryz.underlying9 h
 have hwl : s.data.toList.length ≤ 140737488351232 := by
  rw [← reach_eq]
  refine hw _ ?_
  rw [hx]
  simp [DataW.weights]
 refine ⟨s.data.toList, .string s, h1, ?_, hwl⟩
 ·have := Rep.str (ι := fun _ => none) (S := fun b => b < w.heap.size) (T := fun _ => False) (w := w) s.data.toList
  simpa using this
theorem int_of (h : DataW.trod enc Tryz.prog w 0 (fun _ => true) true n 3 cs = some x) : ∃ (z : Int) (v : Value), cs = [v] ∧ RepW w (.int .i64 z) v ∧ -9223372036854775808 ≤ z ∧ z ≤ 9223372036854775807 := by
 obtain ⟨z, h1, _, h2⟩ := DataW.trod_int Tryz.underlying3 h
 simp only [Lit.wf, Bool.and_eq_true, decide_eq_true_eq] at h2
 exact ⟨z, _, h1, .int _ _, h2.1, h2.2⟩
theorem bytes_of (hw : Light x.1 26) (h : DataW.trod enc Tryz.prog w 0 (fun _ => true) true n 26 cs = some x) : ∃ (b : BS) (v : Value), cs = [v] ∧ RepW w b.av v ∧ b.isTmp = false ∧ b.l.length ≤ 140737488351232 := by
 rcases open_ints Tryz.underlying26 Tryz.underlying5 (by kernel_rfl) h with ⟨hcs, _⟩ | ⟨a, l, c, zs, hcs, _, hl, hm, hz, hx, hcell, hwz⟩
 ·exact ⟨.nil, _, hcs, .lit _, rfl, by simp [BS.l]⟩
 ·simp only [if_true] at hz
  have hwt : zs.length ≤ 140737488351232 := by
   have hb : Tryz.prog.bytesOf 5 = 1 := by kernel_rfl
   rw [← reach_eq]
   refine hw _ ?_
   rw [hx]
   simp only [DataW.weights, Tryz.underlying26, hb, lits, List.length_map, List.length_take, List.length_drop]
   refine List.mem_cons.2 (.inl ?_)
   omega
  have hw : ∀ i, i < zs.length → 0 ≤ zs.getD i 0 ∧ zs.getD i 0 ≤ 255 := by
   intro i hi
   have := hwz (zs.getD i 0) (by rw [List.getD, List.getElem?_eq_getElem hi]; exact List.getElem_mem hi)
   simpa [Lit.wf, IntKind.min, IntKind.max, IntKind.signed, IntKind.bits] using this
  obtain ⟨b, o, sp⟩ := a
  have hsp : sp = none ∨ c = 0 := by
   rcases Nat.eq_zero_or_pos c with h0 | h0
   ·exact .inr h0
   ·exact .inl (by simpa [Addr.add] using (lt_of_cell (hcell 0 (by omega))).2)
  let bs := (zs.take l).map fun z => UInt8.ofNat z.toNat
  have hlen : bs.length = l := by simp [bs]; omega
  have hget : ∀ (i : Nat) (e : AVal), (bs.map AVal.byte)[i]? = some e → i < l ∧ e = .int .u8 (zs.getD i 0) := by
   intro i e he
   have hi : i < l := by
    have := (List.getElem?_eq_some_iff.1 he).1
    simpa [hlen] using this
   refine ⟨hi, ?_⟩
   have hiz : i < zs.length := by omega
   have e1 : zs[i]? = some zs[i] := List.getElem?_eq_getElem hiz
   have e2 : zs.getD i 0 = zs[i] := by rw [List.getD, e1]; rfl
   have hb := hw i hiz
   rw [e2] at hb ⊢
   have e3 : (bs.map AVal.byte)[i]? = some (AVal.byte (UInt8.ofNat zs[i].toNat)) := by
    simp only [bs, List.getElem?_map, List.getElem?_take, hi, if_true, e1, Option.map_some]
   rw [e3] at he
   cases he
   unfold AVal.byte
   congr 1
   simp
   omega
  have hcl : ∀ i, i < zs.length → w.cell? ⟨b, o + i, none⟩ = some (.int .u8 (zs.getD i 0)) := by
   intro i hi
   refine cell_add (hcell i hi) ?_
   rcases hsp with h | h
   ·exact h
   ·omega
  have hcl1 : ∀ i, i < zs.length → w.cell? ⟨b, o + i * 1, none⟩ = some (.int .u8 (zs.getD i 0)) := by
   intro i hi
   rw [Nat.mul_one]
   exact hcl i hi
  have := Rep.view (ι := fun _ => none) (S := fun b => b < w.heap.size) (T := fun _ => False) (w := w) 1 (bs.map AVal.byte) false false b o c sp (fun i _ => .int .u8 (zs.getD i 0)) hsp (by simp [hlen]; omega) (by simp)
   (fun i e he => by
    obtain ⟨hi, rfl⟩ := hget i e he
    exact (lt_of_cell (hcl i (by omega))).1)
   (fun i e he => by
    obtain ⟨hi, rfl⟩ := hget i e he
    rfl)
   (fun i e he => by
    obtain ⟨hi, rfl⟩ := hget i e he
    rfl)
   (fun i e j y he hy => by
    obtain ⟨hi, rfl⟩ := hget i e he
    match j, hy with
    | 0, _ => exact hcl1 i (by omega)
    | j + 1, hy => simp [AVal.cells] at hy)
   (fun i e j y he hy => by
    obtain ⟨hi, rfl⟩ := hget i e he
    match j, hy with
    | 0, hy =>
     simp [AVal.cells] at hy
     subst hy
     exact .int _ _
    | j + 1, hy => simp [AVal.cells] at hy)
  refine ⟨.mk false false bs, _, hcs, ?_, rfl, ?_⟩
  ·rw [List.length_map, hlen] at this
   exact this
  ·simp only [BS.l, hlen]
   omega
structure EntW (e : Ent) : Prop where
 kind : -9223372036854775808 ≤ e.kind ∧ e.kind ≤ 9223372036854775807
 mode : -9223372036854775808 ≤ e.mode ∧ e.mode ≤ 9223372036854775807
 uid : -9223372036854775808 ≤ e.uid ∧ e.uid ≤ 9223372036854775807
 gid : -9223372036854775808 ≤ e.gid ∧ e.gid ≤ 9223372036854775807
 time : -9223372036854775808 ≤ e.time ∧ e.time ≤ 9223372036854775807
 path : e.path.length ≤ 140737488351232
 link : e.link.length ≤ 140737488351232
 data : e.data.l.length ≤ 140737488351232
 tmp : e.data.isTmp = false
theorem ent_of (hw : Light x.1 36) (h : DataW.trod enc Tryz.prog w 0 (fun _ => true) true n 36 cs = some x) : ∃ e : Ent, cs.length = 8 ∧ EntW e ∧ ∀ (j : Nat) (c : AVal) (v : Value), e.av.cells[j]? = some c → cs[j]? = some v → RepW w c v := by
 obtain ⟨xs, m, _, hx, hl, hxl, hf⟩ := DataW.trod_struct Tryz.underlying36 h
 have h8 : Tryz.prog.cellsOf 36 = 8 := by kernel_rfl
 have h9 : Tryz.prog.cellsOf 9 = 1 := by kernel_rfl
 have h3 : Tryz.prog.cellsOf 3 = 1 := by kernel_rfl
 have h26 : Tryz.prog.cellsOf 26 = 1 := by kernel_rfl
 rw [h8] at hl
 match cs, hl, xs, hxl with
 | [c0, c1, c2, c3, c4, c5, c6, c7], _, [y0, y1, y2, y3, y4, y5, y6, y7], _ =>
  have hws : (DataW.agg [y0.1, y1.1, y2.1, y3.1, y4.1, y5.1, y6.1, y7.1] : DataW H).weights Tryz.prog 36 = y0.1.weights Tryz.prog 9 ++ (y1.1.weights Tryz.prog 3 ++ (y2.1.weights Tryz.prog 3 ++ (y3.1.weights Tryz.prog 3 ++ (y4.1.weights Tryz.prog 3 ++ (y5.1.weights Tryz.prog 3 ++ (y6.1.weights Tryz.prog 9 ++ (y7.1.weights Tryz.prog 26 ++ []))))))) := by
   simp only [DataW.weights, Tryz.underlying36, List.map_cons, List.map_nil, DataW.weightsEach]
  have hw8 : ∀ k ∈ y0.1.weights Tryz.prog 9 ++ (y1.1.weights Tryz.prog 3 ++ (y2.1.weights Tryz.prog 3 ++ (y3.1.weights Tryz.prog 3 ++ (y4.1.weights Tryz.prog 3 ++ (y5.1.weights Tryz.prog 3 ++ (y6.1.weights Tryz.prog 9 ++ (y7.1.weights Tryz.prog 26 ++ []))))))), k ≤ reachBytes := by
   rw [← hws]
   intro k hk
   refine hw k ?_
   rw [hx]
   exact hk
  have w0 : Light y0.1 9 := fun k hk => hw8 k (by simp [hk])
  have w6 : Light y6.1 9 := fun k hk => hw8 k (by simp [hk])
  have w7 : Light y7.1 26 := fun k hk => hw8 k (by simp [hk])
  have g0 := hf 0 _ rfl
  have g1 := hf 1 _ rfl
  have g2 := hf 2 _ rfl
  have g3 := hf 3 _ rfl
  have g4 := hf 4 _ rfl
  have g5 := hf 5 _ rfl
  have g6 := hf 6 _ rfl
  have g7 := hf 7 _ rfl
  simp only [h9, h3, h26, List.drop_zero, List.drop_succ_cons, List.take_succ_cons, List.take_zero, List.getElem?_cons_zero, List.getElem?_cons_succ] at g0 g1 g2 g3 g4 g5 g6 g7
  obtain ⟨p, v0, e0, r0, b0⟩ := str_of w0 g0
  obtain ⟨k, v1, e1, r1, b1⟩ := int_of g1
  obtain ⟨md, v2, e2, r2, b2⟩ := int_of g2
  obtain ⟨u, v3, e3, r3, b3⟩ := int_of g3
  obtain ⟨gd, v4, e4, r4, b4⟩ := int_of g4
  obtain ⟨t, v5, e5, r5, b5⟩ := int_of g5
  obtain ⟨lk, v6, e6, r6, b6⟩ := str_of w6 g6
  obtain ⟨d, v7, e7, r7, b7, b8⟩ := bytes_of w7 g7
  cases e0; cases e1; cases e2; cases e3; cases e4; cases e5; cases e6; cases e7
  refine ⟨⟨p, k, md, u, gd, t, lk, d⟩, rfl, ⟨b1, b2, b3, b4, b5, b0, b6, b8, b7⟩, fun j c v hc hv => ?_⟩
  match j, hc, hv with
  | 0, hc, hv => cases hc; cases hv; exact r0
  | 1, hc, hv => cases hc; cases hv; exact r1
  | 2, hc, hv => cases hc; cases hv; exact r2
  | 3, hc, hv => cases hc; cases hv; exact r3
  | 4, hc, hv => cases hc; cases hv; exact r4
  | 5, hc, hv => cases hc; cases hv; exact r5
  | 6, hc, hv => cases hc; cases hv; exact r6
  | 7, hc, hv => cases hc; cases hv; exact r7
  | j + 8, hc, hv => cases hv
instance : Inhabited Ent := ⟨⟨[], 0, 0, 0, 0, 0, [], .nil⟩⟩
def esAv : Option (List Ent) → AVal
 | none => .lit (.slice none 0 0)
 | some t => .view 8 (t.map Ent.av) false false
def esL : Option (List Ent) → List Ent
 | none => []
 | some t => t
theorem weightsAll_mem : ∀ (l : List (DataW H)) (t : TypeId) (d : DataW H), d ∈ l → ∀ k ∈ d.weights Tryz.prog t, k ∈ DataW.weightsAll Tryz.prog t l
 | [], _, d, hd => by cases hd
 | a :: r, t, d, hd => by
  intro k hk
  simp only [DataW.weightsAll, List.mem_append]
  rcases List.mem_cons.1 hd with rfl | hd
  ·exact .inl hk
  ·exact .inr (weightsAll_mem r t d hd k hk)
theorem ents_of (hw : Light x.1 22) (h : DataW.trod enc Tryz.prog w 0 (fun _ => true) true n 22 cs = some x) : ∃ (t : Option (List Ent)) (v : Value), cs = [v] ∧ RepW w (esAv t) v ∧ (∀ e ∈ esL t, EntW e) ∧ (esL t).length ≤ 140737488351232 := by
 rcases open_slice Tryz.underlying22 h with ⟨hcs, _⟩ | ⟨a, len, cap, m, n', D, Pl, hcs, _, hl, hm, hmm, hx, hi⟩
 ·exact ⟨none, _, hcs, .lit _, by simp [esL], by simp [esL]⟩
 ·have h8 : Tryz.prog.cellsOf 36 = 8 := by kernel_rfl
  simp only [if_true] at hmm
  subst hmm
  rw [h8] at hi
  have hb : Tryz.prog.bytesOf 36 = 96 := by kernel_rfl
  have hws : x.1.weights Tryz.prog 22 = (((List.range len).map D).length + ((List.range (m - len)).map fun j => D (len + j)).length) * 96 :: (DataW.weightsAll Tryz.prog 36 ((List.range len).map D) ++ DataW.weightsAll Tryz.prog 36 ((List.range (m - len)).map fun j => D (len + j))) := by
   rw [hx]
   simp only [DataW.weights, Tryz.underlying22, hb]
  have hm96 : m * 96 ≤ 140737488351232 := by
   rw [← reach_eq]
   refine hw _ ?_
   rw [hws]
   simp only [List.length_map, List.length_range]
   refine List.mem_cons.2 (.inl ?_)
   congr 1
   omega
  have hwD : ∀ i, i < m → Light (D i) 36 := by
   intro i him k hk
   refine hw k ?_
   rw [hws]
   refine List.mem_cons.2 (.inr (List.mem_append.2 ?_))
   by_cases hil : i < len
   ·exact .inl (weightsAll_mem _ _ _ (List.mem_map.2 ⟨i, List.mem_range.2 hil, rfl⟩) k hk)
   ·refine .inr (weightsAll_mem _ _ (D i) (List.mem_map.2 ⟨i - len, List.mem_range.2 (by omega), ?_⟩) k hk)
    show D (len + (i - len)) = D i
    congr 1
    omega
  obtain ⟨V, hV⟩ := choose_lt (α := Ent × List Value) (n := m) (p := fun i z => w.cells? 0 (a.add (i * 8)) 8 = some z.2 ∧ z.2.length = 8 ∧ EntW z.1 ∧ ∀ (j : Nat) (c : AVal) (v : Value), z.1.av.cells[j]? = some c → z.2[j]? = some v → RepW w c v) (fun i him => by
   obtain ⟨cs', h1, h2⟩ := hi i him
   obtain ⟨e, e1, e2, e3⟩ := ent_of (hwD i him) h2
   exact ⟨(e, cs'), h1, e1, e2, e3⟩)
  obtain ⟨b, o, sp⟩ := a
  have hsp : sp = none ∨ m = 0 := by
   rcases Nat.eq_zero_or_pos m with h0 | h0
   ·exact .inr h0
   ·obtain ⟨h1, h2, _⟩ := hV 0 h0
    obtain ⟨_, _, h3⟩ := World.cells?_some h1
    have h4 := h3 0 (by omega)
    rw [List.getElem?_eq_getElem (by omega)] at h4
    exact .inl (by simpa [Addr.add] using (lt_of_cell h4).2)
  let t := (List.range len).map fun i => (V i).1
  have hlen : t.length = len := by simp [t]
  have hget : ∀ (i : Nat) (e : AVal), (t.map Ent.av)[i]? = some e → i < len ∧ e = (V i).1.av := by
   intro i e he
   have hi : i < len := by
    have := (List.getElem?_eq_some_iff.1 he).1
    simpa [hlen] using this
   refine ⟨hi, ?_⟩
   simp [t, hi] at he
   exact he.symm
  have hcell : ∀ (i j : Nat), i < len → j < 8 → w.cell? ⟨b, o + i * 8 + j, none⟩ = some ((V i).2.getD j undef) := by
   intro i j hi hj
   obtain ⟨h1, h2, _⟩ := hV i (by omega)
   obtain ⟨_, _, h3⟩ := World.cells?_some h1
   have h4 := h3 j hj
   have hs : sp = none := by
    rcases hsp with h | h
    ·exact h
    ·omega
   subst hs
   rw [Addr.add_none, Addr.add_none] at h4
   rw [h4, List.getD, List.getElem?_eq_getElem (by omega)]
   rfl
  have hcn : ∀ e : Ent, e.av.cells.length = 8 := fun _ => rfl
  have := Rep.view (ι := fun _ => none) (S := fun b => b < w.heap.size) (T := fun _ => False) (w := w) 8 (t.map Ent.av) false false b o m sp (fun i j => (V i).2.getD j undef) hsp (by simp [hlen]; omega) (by simp)
   (fun i e he => by
    obtain ⟨hi, rfl⟩ := hget i e he
    exact (lt_of_cell (hcell i 0 hi (by omega))).1)
   (fun i e he => by
    obtain ⟨hi, rfl⟩ := hget i e he
    rfl)
   (fun i e he => by
    obtain ⟨hi, rfl⟩ := hget i e he
    have ht := (hV i (by omega)).2.2.1.tmp
    have hf : (V i).1.data.av.flat = true := by rw [flat_bs, ht]; rfl
    show (V i).1.av.closed = true
    simp only [AVal.closed, cells_ent, List.all_cons, List.all_nil, flat_str, flat_int, hf, Bool.and_true])
   (fun i e j y he hy => by
    obtain ⟨hi, rfl⟩ := hget i e he
    have hj : j < 8 := by
     have := (List.getElem?_eq_some_iff.1 hy).1
     rwa [hcn] at this
    exact hcell i j hi hj)
   (fun i e j y he hy => by
    obtain ⟨hi, rfl⟩ := hget i e he
    have hj : j < 8 := by
     have := (List.getElem?_eq_some_iff.1 hy).1
     rwa [hcn] at this
    obtain ⟨_, h2, _, h4⟩ := hV i (by omega)
    refine h4 j y _ hy ?_
    rw [List.getD, List.getElem?_eq_getElem (by omega)]
    rfl)
  refine ⟨some t, _, hcs, ?_, ?_, ?_⟩
  ·rw [List.length_map, hlen] at this
   exact this
  ·intro e he
   simp only [esL, t, List.mem_map, List.mem_range] at he
   obtain ⟨i, hi, rfl⟩ := he
   exact (hV i (by omega)).2.2.1
  ·simp only [esL, hlen]
   omega
end
end Go.Abs
namespace Go.Abs
open Am
set_option maxRecDepth 10000
theorem large_small : ∀ (t : List Ent) (n : Int), 0 ≤ n → largeB n t = false → n + 512 * t.length ≤ 65536 + (if t = [] then n else 0) ∧ ∀ e ∈ t, e.data.l.length ≤ 65536 ∧ e.path.length ≤ 65536 ∧ e.link.length ≤ 65536
 | [], n, _, _ => by simp; omega
 | e :: t, n, h0, h => by
  unfold largeB at h
  by_cases hc : 65536 < n + (512 + (e.data.l.length : Int) + e.path.length + e.link.length)
  ·rw [if_pos hc] at h; cases h
  rw [if_neg hc] at h
  obtain ⟨h1, h2⟩ := large_small t _ (by omega) h
  refine ⟨?_, fun x hx => ?_⟩
  ·simp only [List.length_cons, reduceCtorEq, if_false]
   split at h1
   ·rename_i ht
    subst ht
    simp
    omega
   ·omega
  ·rcases List.mem_cons.1 hx with rfl | hx
   ·omega
   ·exact h2 x hx
theorem large_len {t : List Ent} (h : largeB 0 t = false) : t.length ≤ 128 := by
 have := (large_small t 0 (by omega) h).1
 split at this <;> omega
theorem entL_of {e : Ent} (h : EntW e) : EntL e := ⟨h.path, h.link, h.data⟩
end Go.Abs
namespace Go.Abs
open Am
set_option maxRecDepth 10000
def rcW (rs : List Rcd) : Nat := (rs.map fun r => r.key.length + r.value.length + 10).sum
theorem rcW_cons (r : Rcd) (rs : List Rcd) : rcW (r :: rs) = r.key.length + r.value.length + 10 + rcW rs := by simp [rcW]
theorem rcW_app (a b : List Rcd) : rcW (a ++ b) = rcW a + rcW b := by simp [rcW]
theorem rcW_recIf (f : Bool) (k v : List UInt8) : rcW (recIf f k v) ≤ k.length + v.length + 10 := by
 unfold recIf
 split
 ·simp [rcW]
 ·simp [rcW]
theorem paxE_len : ∀ (rs : List Rcd) (p : Option Rcd) (out o : List UInt8), paxE p out rs = some o → o.length ≤ out.length + rcW rs
 | [], p, out, o, h => by
  simp only [paxE, Option.some.injEq] at h
  subst h
  omega
 | r :: rs, p, out, o, h => by
  unfold paxE at h
  split at h
  ·rename_i hs
   have ih := paxE_len rs _ _ o h
   simp only [paxStep, lineOk, kwB, Bool.and_eq_true, decide_eq_true_eq] at hs
   have hl := lineB_length (k := r.key) (v := r.value) (by omega) (by omega)
   rw [List.length_append] at ih
   rw [rcW_cons]
   omega
  ·cases h
theorem recsE_w {e : Ent} (hb : EntB e) : rcW (recsE e) ≤ e.path.length + e.link.length + 200 := by
 obtain ⟨b1, b2, b3, b4, b5, b6, b7, b8⟩ := hb
 have i1 := itoa_le b1 b2
 have i2 := itoa_le b3 b4
 have i3 := itoa_le b5 b6
 have r1 := rcW_recIf (idB e.gid) gidB (Lib.itoa e.gid)
 have r2 := rcW_recIf (linkE e.link) linkpathB e.link
 have r3 := rcW_recIf (timeB e.time) mtimeB (Lib.itoa e.time)
 have r4 := rcW_recIf (splitN e.path).2.2 pathB e.path
 have r5 := rcW_recIf (idB e.uid) uidB (Lib.itoa e.uid)
 have g1 : gidB.length = 3 := rfl
 have g2 : linkpathB.length = 8 := rfl
 have g3 : mtimeB.length = 5 := rfl
 have g4 : pathB.length = 4 := rfl
 have g5 : uidB.length = 3 := rfl
 unfold recsE rst3 rst4 rst5 rst6 rst7
 rw [rcW_app, rcW_app, rcW_app, rcW_app]
 omega
theorem bodyE_len {e : Ent} (hb : EntB e) : (bodyE e).length ≤ e.path.length + e.link.length + 200 := by
 unfold bodyE
 cases h : paxE none [] (recsE e) with
 | none => simp
 | some o =>
  have h1 := paxE_len _ _ _ _ h
  have h2 := recsE_w hb
  simp only [List.length_nil, Nat.zero_add] at h1
  show o.length ≤ _
  omega
def entWt (e : Ent) : Nat := 512 + e.data.l.length + e.path.length + e.link.length
theorem piece_short {n : Int} {e : Ent} (hb : EntB e) : (pieceL n e).length ≤ entWt e + 2300 := by
 have h1 := encB_length (hdrE e (recsE e))
 have h2 := encB_length (hdX n (bodyE e))
 have h3 := padL_length e.data.l
 have h4 := padL_length (bodyE e)
 have h5 := padN_lt e.data.l.length
 have h6 := padN_lt (bodyE e).length
 have h7 := bodyE_len hb
 unfold pieceL preE entWt
 split
 ·simp only [List.length_append, List.length_nil]
  omega
 ·simp only [List.length_append]
  omega
theorem large_sum : ∀ (t : List Ent) (n : Nat), n ≤ 65536 → largeB n t = false → n + (t.map entWt).sum ≤ 65536
 | [], n, h, _ => by simpa using h
 | e :: r, n, h, hb => by
  unfold largeB at hb
  split at hb
  ·cases hb
  ·rename_i hc
   have e1 : (n : Int) + (512 + (e.data.l.length : Int) + e.path.length + e.link.length) = ((n + entWt e : Nat) : Int) := by
    unfold entWt
    omega
   rw [e1] at hb hc
   have ih := large_sum r (n + entWt e) (by omega) hb
   simp only [List.map_cons, List.sum_cons]
   omega
theorem out_short : ∀ (t : List Ent) (i : Nat), (∀ e ∈ t, EntB e) → (outL i t).length ≤ (t.map entWt).sum + 2300 * t.length
 | [], _, _ => by simp [outL]
 | e :: r, i, h => by
  have h1 := piece_short (n := i) (h e (by simp))
  have ih := out_short r (i + 1) fun x hx => h x (by simp [hx])
  simp only [outL, List.length_append, List.map_cons, List.sum_cons, List.length_cons]
  omega
end Go.Abs
namespace Go.Abs
end Go.Abs
namespace Go.Abs
def l40_0 : ACode := (.seq (rg [oo 9 (.bin .lss .other false (.t 8) (.t 7))]) (.seq (.cond (.t 9) .skip (.exit 0)) (.seq (.block 1 (.seq (rg [oo 10 (.ixa 8 (.t 6) (.t 8)), oo 11 (.ld 8 true (.t 10)), oo 5 (.alloc [(.str []), (.int .i64 0), (.int .i64 0), (.int .i64 0), (.int .i64 0), (.int .i64 0), (.str []), (.lit (.slice none 0 0))]), ⟨none, (.st 8 (.t 5) (.t 11)), none⟩]) (.seq (rg [mv 12 3, oo 13 (.fa 7 (.t 5)), oo 14 (.ld 1 false (.t 13)), oo 15 (.len 1 (.t 14)), oo 16 (.bin .add .other true (ci 512) (.t 15)), oo 17 (.fa 0 (.t 5)), oo 18 (.ld 1 false (.t 17)), oo 19 (.len 0 (.t 18)), oo 20 (.bin .add .other false (.t 16) (.t 19)), oo 21 (.fa 6 (.t 5)), oo 22 (.ld 1 false (.t 21)), oo 23 (.len 0 (.t 22)), oo 24 (.bin .add .other false (.t 20) (.t 23)), oo 25 (.bin .add .other false (.t 12) (.t 24)), mv 3 25]) (.seq (rg [mv 26 3, oo 27 (.bin .gtr .other true (.t 26) (ci 65536))]) (.cond (.t 27) (.seq (rg [oo 2 (.mov (.c (.bool false)))]) .ret) .skip))))) (rg [oo 28 (.bin .add .other true (.t 8) (ci 1)), mv 8 28]))))
def r40_0 : ACode := (.seq (rg [oo 2 (.mov (.c (.bool true)))]) .ret)
def b40 : AFn := ⟨1, 29, [(2, none)], (.seq (rg [oo 2 (.mov (.c (.bool false)))]) (.seq (rg [oo 3 (.mov (ci 0))]) (.seq (.seq (rg [mv 6 0, oo 7 (.len 1 (.t 6)), oo 8 (.mov (ci 0))]) (.block 0 (.loop [2, 3, 6, 7, 8] l40_0))) r40_0)))⟩
theorem fn40 : AA.fn 40 = some b40 := by kernel_rfl
theorem np40 : AA.prim 40 = none := rfl
def b37 : AFn := ⟨2, 8, [(4, none)], (.seq (rg [oo 4 (.mov (.c (.bool false)))]) (.seq (rg [mv 5 0, mv 6 1, oo 7 (.call (.c (.func (.func 73) [])) [(.t 5), (.t 6), (.c (.func (.func 74) []))]), mv 4 7]) .ret))⟩
theorem fn37 : AA.fn 37 = some b37 := by kernel_rfl
theorem np37 : AA.prim 37 = none := rfl
def l73_0 : ACode := (.seq (rg [oo 18 (.bin .lss .other false (.t 17) (.t 16))]) (.seq (.cond (.t 18) .skip (.exit 0)) (.seq (.block 1 (.seq (rg [mv 19 17, oo 20 (.ixa 8 (.t 15) (.t 17)), oo 21 (.ld 8 true (.t 20)), oo 8 (.alloc [(.str []), (.int .i64 0), (.int .i64 0), (.int .i64 0), (.int .i64 0), (.int .i64 0), (.str []), (.lit (.slice none 0 0))]), mv 7 19, ⟨none, (.st 8 (.t 8) (.t 21)), none⟩]) (.seq (rg [mv 22 1, mv 23 7, oo 24 (.ixa 8 (.t 22) (.t 23)), oo 25 (.ld 8 true (.t 24)), oo 9 (.alloc [(.str []), (.int .i64 0), (.int .i64 0), (.int .i64 0), (.int .i64 0), (.int .i64 0), (.str []), (.lit (.slice none 0 0))]), ⟨none, (.st 8 (.t 9) (.t 25)), none⟩]) (.seq (rg [mv 26 2, oo 27 (.ld 8 true (.t 8)), oo 28 (.ld 8 true (.t 9)), oo 29 (.call (.t 26) [(.t 27), (.t 28)]), oo 30 (.un .not (.t 29))]) (.cond (.t 30) (.seq (rg [oo 6 (.mov (.c (.bool false)))]) .ret) .skip))))) (rg [oo 31 (.bin .add .other true (.t 17) (ci 1)), mv 17 31]))))
def r73_0 : ACode := (.seq (rg [oo 6 (.mov (.c (.bool true)))]) .ret)
def b73 : AFn := ⟨3, 32, [(6, none)], (.seq (rg [oo 6 (.mov (.c (.bool false)))]) (.seq (.seq (rg [mv 10 0, oo 11 (.len 1 (.t 10)), mv 12 1, oo 13 (.len 1 (.t 12)), oo 14 (.bin .neq .other false (.t 11) (.t 13))]) (.cond (.t 14) (.seq (rg [oo 6 (.mov (.c (.bool false)))]) .ret) .skip)) (.seq (.seq (rg [mv 15 0, oo 16 (.len 1 (.t 15)), oo 17 (.mov (ci 0))]) (.block 0 (.loop [1, 2, 6, 15, 16, 17] l73_0))) r73_0)))⟩
theorem fn73 : AA.fn 73 = some b73 := by kernel_rfl
theorem np73 : AA.prim 73 = none := rfl
def b74 : AFn := ⟨2, 59, [(4, none)], (.seq (rg [oo 2 (.box (.t 0)), oo 3 (.box (.t 1)), oo 4 (.mov (.c (.bool false)))]) (.seq (rg [oo 5 (.fa 0 (.t 2)), oo 6 (.ld 1 false (.t 5)), oo 7 (.fa 0 (.t 3)), oo 8 (.ld 1 false (.t 7)), oo 9 (.bin .eql .other false (.t 6) (.t 8)), mv 10 9, og 11 (.fa 1 (.t 2)) 10 true, og 12 (.ld 1 false (.t 11)) 10 true, og 13 (.fa 1 (.t 3)) 10 true, og 14 (.ld 1 false (.t 13)) 10 true, og 15 (.bin .eql .other false (.t 12) (.t 14)) 10 true, oo 16 (.pick (.t 10) (.t 15) (.c (.bool false))), mv 17 16, og 18 (.fa 2 (.t 2)) 17 true, og 19 (.ld 1 false (.t 18)) 17 true, og 20 (.fa 2 (.t 3)) 17 true, og 21 (.ld 1 false (.t 20)) 17 true, og 22 (.bin .eql .other false (.t 19) (.t 21)) 17 true, oo 23 (.pick (.t 17) (.t 22) (.c (.bool false))), mv 24 23, og 25 (.fa 3 (.t 2)) 24 true, og 26 (.ld 1 false (.t 25)) 24 true, og 27 (.fa 3 (.t 3)) 24 true, og 28 (.ld 1 false (.t 27)) 24 true, og 29 (.bin .eql .other false (.t 26) (.t 28)) 24 true, oo 30 (.pick (.t 24) (.t 29) (.c (.bool false))), mv 31 30, og 32 (.fa 4 (.t 2)) 31 true, og 33 (.ld 1 false (.t 32)) 31 true, og 34 (.fa 4 (.t 3)) 31 true, og 35 (.ld 1 false (.t 34)) 31 true, og 36 (.bin .eql .other false (.t 33) (.t 35)) 31 true, oo 37 (.pick (.t 31) (.t 36) (.c (.bool false))), mv 38 37, og 39 (.fa 5 (.t 2)) 38 true, og 40 (.ld 1 false (.t 39)) 38 true, og 41 (.fa 5 (.t 3)) 38 true, og 42 (.ld 1 false (.t 41)) 38 true, og 43 (.bin .eql .other false (.t 40) (.t 42)) 38 true, oo 44 (.pick (.t 38) (.t 43) (.c (.bool false))), mv 45 44, og 46 (.fa 6 (.t 2)) 45 true, og 47 (.ld 1 false (.t 46)) 45 true, og 48 (.fa 6 (.t 3)) 45 true, og 49 (.ld 1 false (.t 48)) 45 true, og 50 (.bin .eql .other false (.t 47) (.t 49)) 45 true, oo 51 (.pick (.t 45) (.t 50) (.c (.bool false))), mv 52 51, og 53 (.fa 7 (.t 2)) 52 true, og 54 (.ld 1 false (.t 53)) 52 true, og 55 (.fa 7 (.t 3)) 52 true, og 56 (.ld 1 false (.t 55)) 52 true, og 57 (.call (.c (.func (.func 62) [])) [(.t 54), (.t 56)]) 52 true, oo 58 (.pick (.t 52) (.t 57) (.c (.bool false))), mv 4 58]) .ret))⟩
theorem fn74 : AA.fn 74 = some b74 := by kernel_rfl
theorem np74 : AA.prim 74 = none := rfl
end Go.Abs
namespace Go.Abs
open Am
set_option maxRecDepth 20000
theorem h40 (c tmp : Bool) (t : List Ent) (ht : t.length ≤ 140737488351232) (hq : ∀ e ∈ t, EntL e) (r0 : Bool) : ∀ (rest done : List Ent) (acc n i : Int), t = done ++ rest → i = done.length → n = t.length → 0 ≤ acc → acc ≤ 65536 → r0 = !largeB acc rest →
  HD AA 0 [2, 3, 6, 7, 8] l40_0 ⟨[.junk, .junk, .bool false, .int .i64 acc, .junk, .junk, .view 8 (t.map Ent.av) c tmp, .int .i64 n, .int .i64 i, .junk, .junk, .junk, .junk, .junk, .junk, .junk, .junk, .junk, .junk, .junk, .junk, .junk, .junk, .junk, .junk, .junk, .junk, .junk, .junk], [], 0⟩ [.blk 0, .code r40_0] (Fin [(2, none)] 0 (.bool r0) [])
 | [], done, acc, n, i, h1, h2, h3, h4, h5, h6 => by
  subst h1
  simp at h3
  refine hd_of (by unfold l40_0; rfl) ?_
  simp only [largeB, Bool.not_false] at h6
  rw [h6]
  have gg:=trivial;repeat' first|simp (maxSteps:=2000000) (disch:=omega) only [gg,r40_0,go_sem]|(refine br ?_ ?_<;>intro gg<;>try omega)|(apply And.intro;focus omega)|omega
 | e :: rest, done, acc, n, i, h1, h2, h3, h4, h5, h6 => by
  have hg0 : t[i.toNat]? = some e := by
   rw [h1]
   simp [h2]
  have hl : i.toNat < t.length := by rw [h1]; simp; omega
  obtain ⟨l1, l2, l3⟩ := hq e (by simp [h1])
  unfold largeB at h6
  refine hd_of (by unfold l40_0; rfl) ?_
  by_cases hc : 65536 < acc + (512 + (e.data.l.length : Int) + e.path.length + e.link.length)
  ·rw [if_pos hc, Bool.not_true] at h6
   rw [h6]
   have gg:=trivial;repeat' first|simp (maxSteps:=2000000) (disch:=omega) only [gg,hg0,lp_head,go_sem]|(refine br ?_ ?_<;>intro gg<;>try omega)|(apply And.intro;focus omega)|omega
  ·rw [if_neg hc] at h6
   have ih := h40 c tmp t ht hq r0 rest (done ++ [e]) (acc + (512 + (e.data.l.length : Int) + e.path.length + e.link.length)) n (i + 1) (by simp [h1]) (by first | omega | (simp; omega) | (simp; done)) h3 (by omega) (by omega) h6
   have gg:=trivial;repeat' first|simp (maxSteps:=2000000) (disch:=omega) only [gg,hg0,lp_head,go_sem]|(refine br ?_ ?_<;>intro gg<;>try omega)|(apply And.intro;focus omega)|omega
theorem s40 (c tmp : Bool) (t : List Ent) (ht : t.length ≤ 140737488351232) (hq : ∀ e ∈ t, EntL e) : callT AA 40 [.view 8 (t.map Ent.av) c tmp] [] = some (.bool (!largeB 0 t), []) := by
 have hh := h40 c tmp t ht hq (!largeB 0 t) t [] 0 t.length 0 rfl rfl rfl (by omega) (by omega) rfl
 refine enter fn40 np40 rfl ?_
 have gg:=trivial;repeat' first|simp (maxSteps:=2000000) (disch:=omega) only [gg,b40,lp_head,go_sem]|(refine br ?_ ?_<;>intro gg<;>try omega)|(apply And.intro;focus omega)|omega
theorem s40n : callT AA 40 [.lit (.slice none 0 0)] [] = some (.bool true, []) := by
 refine enter fn40 np40 rfl ?_
 have gg:=trivial;repeat' first|simp (maxSteps:=2000000) (disch:=omega) only [gg,b40,lp_head,go_sem]|(refine br ?_ ?_<;>intro gg<;>try omega)|(apply And.intro;focus omega)|omega
 refine hd_of (by unfold l40_0; rfl) ?_
 have gg:=trivial;repeat' first|simp (maxSteps:=2000000) (disch:=omega) only [gg,r40_0,go_sem]|(refine br ?_ ?_<;>intro gg<;>try omega)|(apply And.intro;focus omega)|omega
instance decSame {x y : Ent} : Decidable (SameE x y) := by
 unfold SameE
 infer_instance
theorem s74y (x y : Ent) (h : SameE x y) : callT AA 74 [x.av, y.av] [] = some (.bool true, []) := by
 obtain ⟨a, b, c, d, e, f, g, i⟩ := h
 obtain ⟨p, k, m, u, gi, ti, li, da⟩ := x
 obtain ⟨p', k', m', u', gi', ti', li', da'⟩ := y
 simp only at a b c d e f g i
 subst a b c d e f g
 have h62 := s62 da da'
 rw [i, decide_eq_true rfl] at h62
 refine enter fn74 np74 rfl ?_
 have gg:=trivial;repeat' first|simp (maxSteps:=2000000) (disch:=omega) only [gg,b74,h62,go_sem]|(refine br ?_ ?_<;>intro gg<;>try omega)|(apply And.intro;focus omega)|omega
theorem s74n (x y : Ent) (h : ¬ SameE x y) : callT AA 74 [x.av, y.av] [] = some (.bool false, []) := by
 have h62 := s62 x.data y.data
 unfold SameE at h
 refine enter fn74 np74 rfl ?_
 by_cases a : x.path = y.path
 ·have a' := decide_eq_true a
  by_cases b : x.kind = y.kind
  ·by_cases c : x.mode = y.mode
   ·by_cases d : x.uid = y.uid
    ·by_cases e : x.gid = y.gid
     ·by_cases f : x.time = y.time
      ·by_cases g : x.link = y.link
       ·by_cases i : x.data.l = y.data.l
        ·exact (h ⟨a.symm, b.symm, c.symm, d.symm, e.symm, f.symm, g.symm, i.symm⟩).elim
        ·rw [decide_eq_false i] at h62
         have gg:=trivial;repeat' first|simp (maxSteps:=2000000) (disch:=omega) only [gg,b74,h62,a',decide_eq_true g,go_sem]|(refine br ?_ ?_<;>intro gg<;>try omega)|(apply And.intro;focus omega)|omega
       ·have gg:=trivial;repeat' first|simp (maxSteps:=2000000) (disch:=omega) only [gg,b74,a',decide_eq_false g,go_sem]|(refine br ?_ ?_<;>intro gg<;>try omega)|(apply And.intro;focus omega)|omega
      ·have gg:=trivial;repeat' first|simp (maxSteps:=2000000) (disch:=omega) only [gg,b74,a',go_sem]|(refine br ?_ ?_<;>intro gg<;>try omega)|(apply And.intro;focus omega)|omega
     ·have gg:=trivial;repeat' first|simp (maxSteps:=2000000) (disch:=omega) only [gg,b74,a',go_sem]|(refine br ?_ ?_<;>intro gg<;>try omega)|(apply And.intro;focus omega)|omega
    ·have gg:=trivial;repeat' first|simp (maxSteps:=2000000) (disch:=omega) only [gg,b74,a',go_sem]|(refine br ?_ ?_<;>intro gg<;>try omega)|(apply And.intro;focus omega)|omega
   ·have gg:=trivial;repeat' first|simp (maxSteps:=2000000) (disch:=omega) only [gg,b74,a',go_sem]|(refine br ?_ ?_<;>intro gg<;>try omega)|(apply And.intro;focus omega)|omega
  ·have gg:=trivial;repeat' first|simp (maxSteps:=2000000) (disch:=omega) only [gg,b74,a',go_sem]|(refine br ?_ ?_<;>intro gg<;>try omega)|(apply And.intro;focus omega)|omega
 ·have gg:=trivial;repeat' first|simp (maxSteps:=2000000) (disch:=omega) only [gg,b74,decide_eq_false a,go_sem]|(refine br ?_ ?_<;>intro gg<;>try omega)|(apply And.intro;focus omega)|omega
def sameTB : List Ent → List Ent → Bool
 | [], [] => true
 | x :: a, y :: b => decide (SameE x y) && sameTB a b
 | _, _ => false
theorem sameTB_len : ∀ (a b : List Ent), a.length ≠ b.length → sameTB a b = false
 | [], [], h => (h rfl).elim
 | x :: a, y :: b, h => by
  have := sameTB_len a b (by simpa using h)
  simp [sameTB, this]
 | [], _ :: _, _ => rfl
 | _ :: _, [], _ => rfl
theorem h73 (c tmp c2 tmp2 : Bool) (t u : List Ent) (ht : t.length ≤ 1000000) (hl : u.length = t.length) (r0 : Bool) : ∀ (a b : List Ent) (done done2 : List Ent) (i n : Int), t = done ++ a → u = done2 ++ b → done2.length = done.length → i = done.length → n = t.length → r0 = sameTB a b →
  HD AA 0 [1, 2, 6, 15, 16, 17] l73_0 ⟨[.junk, .view 8 (u.map Ent.av) c2 tmp2, .func (.func 74) [], .junk, .junk, .junk, .bool false, .junk, .junk, .junk, .junk, .junk, .junk, .junk, .junk, .view 8 (t.map Ent.av) c tmp, .int .i64 n, .int .i64 i, .junk, .junk, .junk, .junk, .junk, .junk, .junk, .junk, .junk, .junk, .junk, .junk, .junk, .junk], [], 0⟩ [.blk 0, .code r73_0] (Fin [(6, none)] 0 (.bool r0) [])
 | [], b, done, done2, i, n, h1, h2, h3, h4, h5, h6 => by
  have hl1 : t.length = done.length := by rw [h1]; simp
  have hb : b = [] := by
   rw [h2, List.length_append, h3, hl1] at hl
   exact List.eq_nil_of_length_eq_zero (by omega)
  subst hb
  have hr : r0 = true := h6
  subst hr
  refine hd_of (by unfold l73_0; rfl) ?_
  have gg:=trivial;repeat' first|simp (maxSteps:=2000000) (disch:=omega) only [gg,r73_0,go_sem]|(refine br ?_ ?_<;>intro gg<;>try omega)|(apply And.intro;focus omega)|omega
 | x :: a, [], done, done2, i, n, h1, h2, h3, h4, h5, h6 => by
  rw [h1, h2] at hl
  simp at hl
  omega
 | x :: a, y :: b, done, done2, i, n, h1, h2, h3, h4, h5, h6 => by
  have hl1 : t.length = done.length + (a.length + 1) := by rw [h1]; simp
  have hx : t[i.toNat]? = some x := by
   rw [h1, show i.toNat = done.length by omega]
   simp
  have hy : u[i.toNat]? = some y := by
   rw [h2, show i.toNat = done2.length by omega]
   simp
  by_cases hs : SameE x y
  ·have h74 := s74y x y hs
   have e : sameTB (x :: a) (y :: b) = sameTB a b := by simp [sameTB, hs]
   rw [e] at h6
   have ih := h73 c tmp c2 tmp2 t u ht hl r0 a b (done ++ [x]) (done2 ++ [y]) (i + 1) n (by rw [h1]; simp) (by rw [h2]; simp) (by simp [h3]) (by simp; omega) h5 h6
   simp only [Ent.av] at h74
   refine hd_of (by unfold l73_0; rfl) ?_
   have gg:=trivial;repeat' first|simp (maxSteps:=2000000) (disch:=omega) only [gg,hx,hy,h74,lp_head,go_sem]|(refine br ?_ ?_<;>intro gg<;>try omega)|(apply And.intro;focus omega)|omega
  ·have h74 := s74n x y hs
   have e : sameTB (x :: a) (y :: b) = false := by simp [sameTB, hs]
   rw [e] at h6
   subst h6
   simp only [Ent.av] at h74
   refine hd_of (by unfold l73_0; rfl) ?_
   have gg:=trivial;repeat' first|simp (maxSteps:=2000000) (disch:=omega) only [gg,hx,hy,h74,lp_head,go_sem]|(refine br ?_ ?_<;>intro gg<;>try omega)|(apply And.intro;focus omega)|omega
theorem s37 (c tmp c2 tmp2 : Bool) (t u : List Ent) (ht : t.length ≤ 1000000) (hu : u.length ≤ 1000000) : callT AA 37 [.view 8 (t.map Ent.av) c tmp, .view 8 (u.map Ent.av) c2 tmp2] [] = some (.bool (sameTB t u), []) := by
 have h73 : callT AA 73 [.view 8 (t.map Ent.av) c tmp, .view 8 (u.map Ent.av) c2 tmp2, .func (.func 74) []] [] = some (.bool (sameTB t u), []) := by
  refine enter fn73 np73 rfl ?_
  by_cases hl : u.length = t.length
  ·have hh := h73 c tmp c2 tmp2 t u ht hl (sameTB t u) t u [] [] 0 t.length rfl rfl rfl rfl rfl rfl
   have gg:=trivial;repeat' first|simp (maxSteps:=2000000) (disch:=omega) only [gg,b73,hl,lp_head,go_sem]|(refine br ?_ ?_<;>intro gg<;>try omega)|(apply And.intro;focus omega)|omega
  ·rw [sameTB_len t u (fun h => hl h.symm)]
   have gg:=trivial;repeat' first|simp (maxSteps:=2000000) (disch:=omega) only [gg,b73,go_sem]|(refine br ?_ ?_<;>intro gg<;>try omega)|(apply And.intro;focus omega)|omega
 refine enter fn37 np37 rfl ?_
 have gg:=trivial;repeat' first|simp (maxSteps:=2000000) (disch:=omega) only [gg,b37,h73,go_sem]|(refine br ?_ ?_<;>intro gg<;>try omega)|(apply And.intro;focus omega)|omega
end Go.Abs
namespace Go.Abs
open Am
set_option maxRecDepth 20000
end Go.Abs
namespace Go.Abs
open Go.Proofs Go.RowKit Am
set_option maxRecDepth 100000
end Go.Abs
namespace Go.Abs
open Am
set_option maxRecDepth 100000
end Go.Abs
namespace Go.Abs
open Am Go.Proofs
set_option maxRecDepth 20000
def dsum (l : List Ent) : Nat := (l.map fun e => e.data.l.length).sum
theorem dsum_app (a b : List Ent) : dsum (a ++ b) = dsum a + dsum b := by simp [dsum]
theorem dsum_perm {a b : List Ent} (h : a.Perm b) : dsum a = dsum b := by
 unfold dsum
 exact (h.map _).sum_nat
theorem dsum_grow : ∀ (k : Nat) (O : List Ent) (i : Nat), dsum (growF k O i) = dsum O
 | 0, O, i => rfl
 | k + 1, O, i => by
  unfold growF
  cases O[i]? with
  | none => rfl
  | some e =>
   simp only
   split
   ·rw [dsum_grow k, dsum_app]
    simp [dsum, dirE, BS.l]
   ·exact dsum_grow k O (i + 1)
theorem dsum_nm (t : List Ent) : dsum (t.map nmE) = dsum t := by
 unfold dsum
 rw [List.map_map]
 congr 1
 refine List.map_congr_left fun e _ => ?_
 show e.data.cp.l.length = _
 rw [cp_l]
theorem dsum_wt : ∀ t : List Ent, dsum t ≤ (t.map entWt).sum
 | [] => by simp [dsum]
 | e :: t => by
  have ih := dsum_wt t
  unfold dsum at ih ⊢
  simp only [List.map_cons, List.sum_cons, entWt]
  omega
theorem wt_le : ∀ l : List Ent, (∀ e ∈ l, e.path.length ≤ 400 ∧ e.link.length ≤ 400) → (l.map entWt).sum ≤ l.length * 1312 + dsum l
 | [], _ => by simp
 | e :: l, h => by
  have ih := wt_le l fun x hx => h x (by simp [hx])
  have h1 := h e (by simp)
  unfold dsum at ih ⊢
  simp only [List.map_cons, List.sum_cons, entWt, List.length_cons, Nat.succ_mul] at ih ⊢
  omega
def builtL (t : List Ent) : List Ent := sortK Ent.path (grownR t)
theorem built_len (t : List Ent) : (builtL t).length = (grownR t).length := (sortK_perm Ent.path _).length_eq
theorem built_short {t u : List Ent} (hb : largeB 0 u = false) (hdu : dsum t = dsum u) (hc : (checkT (builtL t)).2 = 0) : (writeL (builtL t)).length ≤ 1000000 ∧ 0 < (writeL (builtL t)).length := by
 have h1 := (checkT_good hc).1
 have hk := kinds_of hc
 have h2 := large_sum u 0 (by omega) hb
 have h3 := out_short (builtL t) 0 fun e he => entB_of (hk e he).1 (hk e he).2
 have h4 := wt_le (builtL t) fun e he => ⟨(hk e he).2, by have := (hk e he).1.link; omega⟩
 have h5 : dsum (builtL t) = dsum t := by
  unfold builtL
  rw [dsum_perm (sortK_perm Ent.path _)]
  unfold grownR
  rw [dsum_grow, dsum_nm]
 have h6 := dsum_wt u
 unfold writeL
 rw [List.length_append, zeros1024_length]
 omega
theorem nodup_srt {t : List Ent} (h : ((t.map nmE).map Ent.path).Nodup) (ht : t.length ≤ 200) : Srt Ent.path (builtL t) := sortK_srt Ent.path (grown_clo ht h).1.nodup
theorem srt_can {l : List Ent} (h : Srt Ent.path l) : Srt Ent.path (l.map canE) := by
 unfold Srt at h ⊢
 rw [List.pairwise_map]
 exact h
theorem can_nm (t : List Ent) : ((t.map rdEnt).map nmE).map canE = (t.map nmE).map canE := by
 rw [List.map_map, List.map_map, List.map_map]
 refine List.map_congr_left fun e _ => ?_
 show canE (nmE (rdEnt e)) = canE (nmE e)
 have h1 : (nmE (rdEnt e)).data.l = (nmE e).data.l := by
  show (rdEnt e).data.cp.l = e.data.cp.l
  rw [cp_l, cp_l]
  rfl
 unfold canE
 rw [h1]
 rfl
theorem alike {t : List Ent} (ht : t.length ≤ 200) (hd : ((t.map nmE).map Ent.path).Nodup) {R : List Ent} (hR : Clo ((t.map rdEnt).map nmE) R) (hs : Srt Ent.path R) : checkT R = checkT (builtL t) := by
 have h1 := (grown_clo ht hd).1
 have he : R.map canE = (builtL t).map canE := by
  refine srt_unique Ent.path (srt_can hs) (srt_can (nodup_srt hd ht)) fun x => ?_
  rw [clo_can hR h1 (can_nm t) x]
  constructor
  ·intro h
   obtain ⟨z, hz, rfl⟩ := List.mem_map.1 h
   exact List.mem_map.2 ⟨z, (sortK_perm Ent.path _).mem_iff.2 hz, rfl⟩
  ·intro h
   obtain ⟨z, hz, rfl⟩ := List.mem_map.1 h
   exact List.mem_map.2 ⟨z, (sortK_perm Ent.path _).mem_iff.1 hz, rfl⟩
 rw [← checkT_map canE same_rd R, he, checkT_map canE same_rd]
theorem built_cases (t : List Ent) (h0 : t ≠ []) (ht : t.length ≤ 200) (hq : ∀ x ∈ t, BEnt x) :
  (∃ E : Int, E ≠ 0 ∧ (∀ c tmp, callT AB 49 [.view 8 ((t.map rdEnt).map Ent.av) c tmp] [] = some (errB E)) ∧ callT AA 50 [.view 8 (t.map Ent.av) false false] [] = some (err50 E, [])) ∨
  ((checkT (builtL (t.map rdEnt))).2 = 0 ∧ (((t.map rdEnt).map nmE).map Ent.path).Nodup ∧ ∀ c tmp, callT AB 49 [.view 8 ((t.map rdEnt).map Ent.av) c tmp] [] = some (.tuple [.own 0 8 0 (builtL (t.map rdEnt)).length false, .lit .nilIface], [(0, .row ((builtL (t.map rdEnt)).map Ent.av) 8)])) := by
 have hB := s50 false false t h0 ht hq
 have hUU : (t.map rdEnt).map rdEnt = t.map rdEnt := by
  rw [List.map_map]
  rfl
 have hUa : (t.map rdEnt).all nmOk = t.all nmOk := by
  rw [List.all_map]
  rfl
 have hal : ∀ {R : List Ent}, (((t.map rdEnt).map nmE).map Ent.path).Nodup → Clo ((t.map rdEnt).map nmE) R → Srt Ent.path R → checkT R = checkT (builtL (t.map rdEnt)) := by
  intro R hd hR hs
  refine alike (by rw [List.length_map]; exact ht) hd ?_ hs
  rw [hUU]
  exact hR
 rw [← hUa] at hB
 have h49 := fun c tmp => s49 c tmp (t.map rdEnt) (by simpa using h0) (by rw [List.length_map]; exact ht) (fun x hx => by
  obtain ⟨y, hy, rfl⟩ := List.mem_map.1 hx
  exact hq y hy)
 clear hUU hUa
 generalize t.map rdEnt = U at *
 rw [built_len]
 unfold buildR resD at h49
 by_cases hall : U.all nmOk = true
 ·simp only [if_pos hall] at h49
  by_cases hd : ((U.map nmE).map Ent.path).Nodup
  ·simp only [if_pos hd] at h49
   by_cases hc : (checkT (builtL U)).2 = 0
   ·refine .inr ⟨hc, hd, ?_⟩
    have hc' : (checkT (sortK Ent.path (growF (mu (U.map nmE)) (U.map nmE) 0))).2 = 0 := hc
    simp only [if_pos hc'] at h49
    exact h49
   ·have hc' : ¬ (checkT (sortK Ent.path (growF (mu (U.map nmE)) (U.map nmE) 0))).2 = 0 := hc
    simp only [if_neg hc'] at h49
    refine .inl ⟨_, hc, h49, hB _ hc (fun h => by rw [hall] at h; cases h) (fun _ h => absurd hd h) fun _ _ R hR hs => by rw [hal hd hR hs]⟩
  ·simp only [if_neg hd] at h49
   exact .inl ⟨13, by omega, h49, hB 13 (by omega) (fun h => by rw [hall] at h; cases h) (fun _ _ => rfl) fun _ h => absurd h hd⟩
 ·simp only [if_neg hall] at h49
  exact .inl ⟨12, by omega, h49, hB 12 (by omega) (fun _ => rfl) (fun h => absurd h hall) fun h => absurd h hall⟩
theorem dsum_rd (t : List Ent) : dsum (t.map rdEnt) = dsum t := by
 unfold dsum
 rw [List.map_map]
 rfl
end Go.Abs
namespace Go.Abs
section
variable {e : EqK} {c : Bool} {k : IntKind} {x y : Int}
def xorZ (x y : Int) : Int := IntKind.u64.wrap ((BitVec.ofInt 64 x ^^^ BitVec.ofInt 64 y).toNat : Int)
def andZ (x y : Int) : Int := IntKind.u64.wrap ((BitVec.ofInt 64 x &&& BitVec.ofInt 64 y).toNat : Int)
def orZ (x y : Int) : Int := IntKind.u64.wrap ((BitVec.ofInt 64 x ||| BitVec.ofInt 64 y).toNat : Int)
def shlZ (x y : Int) : Int := IntKind.u64.wrap (x * 2 ^ (min y.toNat 64))
def shrZ (x y : Int) : Int := x.fdiv (2 ^ (min y.toNat 64))
theorem aBin_xorZ : aBin .xor e c (.int .u64 x) (.int .u64 y) = some (.int .u64 (xorZ x y)) := by
 simp only [aBin, intOp, if_true]
 rfl
theorem aBin_andZ : aBin .and e c (.int .u64 x) (.int .u64 y) = some (.int .u64 (andZ x y)) := by
 simp only [aBin, intOp, if_true]
 rfl
theorem aBin_orZ : aBin .or e c (.int .u64 x) (.int .u64 y) = some (.int .u64 (orZ x y)) := by
 simp only [aBin, intOp, if_true]
 rfl
theorem aBin_shlZ (h : 0 ≤ y) : aBin .shl e c (.int .u64 x) (.int k y) = some (.int .u64 (shlZ x y)) := by
 simp only [aBin, intOp]
 exact if_neg (by omega)
theorem aBin_shrZ (h : 0 ≤ y) : aBin .shr e c (.int .u64 x) (.int k y) = some (.int .u64 (shrZ x y)) := by
 simp only [aBin, intOp]
 exact if_neg (by omega)
def andI (x y : Int) : Int := IntKind.i64.wrap ((BitVec.ofInt 64 x &&& BitVec.ofInt 64 y).toNat : Int)
theorem aBin_andI : aBin .and e c (.int .i64 x) (.int .i64 y) = some (.int .i64 (andI x y)) := by
 simp only [aBin, intOp, if_true]
 rfl
theorem aBin_shrI (h : 0 ≤ y) : aBin .shr e c (.int .i64 x) (.int k y) = some (.int .i64 (shrZ x y)) := by
 simp only [aBin, intOp]
 exact if_neg (by omega)
theorem wrap64 (z : Int) : 0 ≤ IntKind.u64.wrap z ∧ IntKind.u64.wrap z ≤ 18446744073709551615 := by
 simp only [IntKind.wrap, IntKind.bits, IntKind.signed, Bool.false_and, Bool.false_eq_true, if_false]
 omega
end
def lenN (n : Nat) : Nat := if n = 0 then 0 else n.log2 + 1
end Go.Abs
namespace Go.Abs
attribute [local go_sem high] aBin_xorZ aBin_andZ aBin_orZ aBin_shlZ aBin_shrZ
set_option maxRecDepth 20000
def lenZ (x : Int) : Int := (lenN x.toNat : Int)
end Go.Abs
namespace Go.Abs
attribute [local go_sem high] aBin_xorZ aBin_andZ aBin_orZ aBin_shlZ aBin_shrZ
set_option maxRecDepth 20000
def mulR (a b : Int) : Nat → Int → Int × Int → Int × Int
 | 0, _, s => s
 | k + 1, i, s => mulR a b k (i + 1) (if andZ (shrZ b i) 1 = 1 then (xorZ s.1 (shrZ a (64 - i)), xorZ s.2 (shlZ a i)) else s)
def mulZ (a b : Int) : Int × Int := mulR a b 64 0 (0, 0)
def modR1 (m d : Int) : Nat → Int → Int × Int → Int × Int
 | 0, _, s => s
 | k + 1, i, s => modR1 m d k (i - 1) (if andZ (shrZ s.1 i) 1 = 0 then s else if 64 ≤ 64 + i - d then (xorZ s.1 (shlZ m (64 + i - d - 64)), s.2) else (xorZ s.1 (shrZ m (64 - (64 + i - d))), xorZ s.2 (shlZ m (64 + i - d))))
def modR2 (m d : Int) : Nat → Int → Int
 | 0, lo => lo
 | k + 1, lo => if d ≤ lenZ lo - 1 then modR2 m d k (xorZ lo (shlZ m (lenZ lo - 1 - d))) else lo
def modZ (hi lo m : Int) : Int := modR2 m (lenZ m - 1) 64 (modR1 m (lenZ m - 1) 64 63 (hi, lo)).2
end Go.Abs
namespace Go.Abs
attribute [local go_sem high] aBin_xorZ aBin_andZ aBin_orZ aBin_shlZ aBin_shrZ aBin_andI aBin_shrI
set_option maxRecDepth 20000
def mulmZ (m a b : Int) : Int := modZ (mulZ a b).1 (mulZ a b).2 m
def oneZ (m : Int) : Int := modZ 0 1 m
def prodZ (m : Int) (fs : List Int) : Int := fs.foldl (mulmZ m) (oneZ m)
def powR (n m : Int) : Nat → Int → Int → Int
 | 0, _, o => o
 | k + 1, i, o => powR n m k (i - 1) (if andI (shrZ n i) 1 = 1 then mulmZ m (mulmZ m o o) 2 else mulmZ m o o)
def powZ (n m : Int) : Int := powR n m (lenZ n).toNat (lenZ n - 1) (oneZ m)
end Go.Abs
namespace Go.Abs
attribute [local go_sem high] aBin_xorZ aBin_andZ aBin_orZ aBin_shlZ aBin_shrZ aBin_andI aBin_shrI
set_option maxRecDepth 20000
end Go.Abs
namespace Go.Abs
attribute [local go_sem high] aBin_xorZ aBin_andZ aBin_orZ aBin_shlZ aBin_shrZ aBin_andI aBin_shrI
set_option maxRecDepth 20000
end Go.Abs
namespace Go.Abs
attribute [local go_sem high] aBin_xorZ aBin_andZ aBin_orZ aBin_shlZ aBin_shrZ aBin_andI aBin_shrI
set_option maxRecDepth 20000
theorem leaf_u64s (l : List Int) : (l.map (AVal.int .u64)).all AVal.leaf = true := by
 rw [List.all_map]
 exact List.all_eq_true.2 fun _ _ => rfl
def tabF (p w : Int) (b : Nat) : Int := prodZ p [(b : Int), w]
def tabZ (p n : Int) : List Int := (List.range 256).map (tabF p (powZ n p))
end Go.Abs
namespace Go.Abs
attribute [local go_sem high] aBin_xorZ aBin_andZ aBin_orZ aBin_shlZ aBin_shrZ aBin_andI aBin_shrI
set_option maxRecDepth 20000
theorem tabZ_len (p n : Int) : (tabZ p n).length = 256 := by simp [tabZ]
def takC (p : Int) (T : List Int) : List AVal := .int .u64 p :: .int .i64 (lenZ p - 1) :: T.map (AVal.int .u64)
end Go.Abs
namespace Go.Abs
attribute [local go_sem high] aBin_xorZ aBin_andZ aBin_orZ aBin_shlZ aBin_shrZ aBin_andI aBin_shrI
set_option maxRecDepth 20000
structure Rol where
 p : Int
 deg : Int
 over : List Int
 out : List Int
 at_ : Int
 full : Bool
 print : Int
def rolC (r : Rol) (W : AVal) : List AVal := .int .u64 r.p :: .int .i64 r.deg :: (r.over.map (AVal.int .u64) ++ (r.out.map (AVal.int .u64) ++ [W, .int .i64 r.at_, .bool r.full, .int .u64 r.print]))
end Go.Abs
namespace Go.Abs
attribute [local go_sem high] aBin_xorZ aBin_andZ aBin_orZ aBin_shlZ aBin_shrZ aBin_andI aBin_shrI
set_option maxRecDepth 20000
end Go.Abs
namespace Go.Abs
attribute [local go_sem high] aBin_xorZ aBin_andZ aBin_orZ aBin_shlZ aBin_shrZ aBin_andI aBin_shrI
set_option maxRecDepth 20000
end Go.Abs
namespace Go.Abs
attribute [local go_sem high] aBin_xorZ aBin_andZ aBin_orZ aBin_shlZ aBin_shrZ aBin_andI aBin_shrI
set_option maxRecDepth 20000
def newR (p w : Int) : Rol := ⟨p, lenZ p - 1, tabZ p (lenZ p - 1), tabZ p (8 * w), 0, false, 0⟩
theorem tak_len {p : Int} {T : List Int} (h : T.length = 256) : (takC p T).length = 258 := by simp [takC, h]
theorem tak_leaf {p : Int} {T : List Int} : (takC p T).all AVal.leaf = true := by
 unfold takC
 simp only [List.all_cons, leaf_u64s, leaf_int, Bool.and_self]
theorem fill_rol {p w : Int} {W : AVal} (hW : W.leaf = true) (hc : W.cells = [W]) :
  fillA (.int .u64 0 :: .int .i64 0 :: (List.replicate 512 (.int .u64 0) ++ [.lit (.slice none 0 0), .int .i64 0, .bool false, .int .u64 0]))
   [(0, 258, .agg (takC p (tabZ p (lenZ p - 1)))), (258, 256, .agg ((tabZ p (8 * w)).map (AVal.int .u64))), (514, 1, W)] = some (rolC (newR p w) W) := by
 have hl1 := tabZ_len p (lenZ p - 1)
 have hl2 := tabZ_len p (8 * w)
 unfold newR rolC
 simp only
 generalize tabZ p (lenZ p - 1) = T at *
 generalize tabZ p (8 * w) = O at *
 have lt := tak_len (p := p) hl1
 have ot : (O.map (AVal.int .u64)).length = 256 := by simp [hl2]
 generalize hA : takC p T = A at *
 have leaf1 : A.all AVal.leaf = true := by rw [← hA]; exact tak_leaf
 have leaf2 := leaf_u64s O
 generalize hB : O.map (AVal.int .u64) = B at *
 have e0 : (AVal.int .u64 0 :: AVal.int .i64 0 :: (List.replicate 512 (AVal.int .u64 0) ++ [.lit (.slice none 0 0), .int .i64 0, .bool false, .int .u64 0])).drop 258 = List.replicate 256 (AVal.int .u64 0) ++ [.lit (.slice none 0 0), .int .i64 0, .bool false, .int .u64 0] := by
  rw [List.drop_succ_cons, List.drop_succ_cons, List.drop_append_of_le_length (by simp), List.drop_replicate]
 have len0 : (AVal.int .u64 0 :: AVal.int .i64 0 :: (List.replicate 512 (AVal.int .u64 0) ++ [.lit (.slice none 0 0), .int .i64 0, .bool false, .int .u64 0])).length = 518 := by simp
 have s1 : splice (AVal.int .u64 0 :: AVal.int .i64 0 :: (List.replicate 512 (AVal.int .u64 0) ++ [.lit (.slice none 0 0), .int .i64 0, .bool false, .int .u64 0])) 0 A = A ++ (List.replicate 256 (AVal.int .u64 0) ++ [.lit (.slice none 0 0), .int .i64 0, .bool false, .int .u64 0]) := by
  unfold splice
  rw [Nat.zero_add, lt, e0, List.take_zero, List.nil_append]
 have s2 : splice (A ++ (List.replicate 256 (AVal.int .u64 0) ++ [.lit (.slice none 0 0), .int .i64 0, .bool false, .int .u64 0])) 258 B = A ++ (B ++ [.lit (.slice none 0 0), .int .i64 0, .bool false, .int .u64 0]) := by
  unfold splice
  rw [List.take_append_of_le_length (by omega), List.take_of_length_le (by omega), ot, List.drop_append, List.drop_of_length_le (by omega), List.nil_append, lt]
  rw [List.drop_append_of_le_length (by simp), List.drop_replicate]
  simp
 have s3 : splice (A ++ (B ++ [.lit (.slice none 0 0), .int .i64 0, .bool false, .int .u64 0])) 514 [W] = A ++ (B ++ [W, .int .i64 0, .bool false, .int .u64 0]) := by
  unfold splice
  rw [← List.append_assoc, List.take_append, List.take_of_length_le (by simp; omega), List.drop_append, List.drop_of_length_le (by simp; omega)]
  simp [lt, ot]
 unfold fillA
 rw [if_pos ⟨lt, by rw [len0]; omega, leaf1⟩]
 show fillA (splice _ 0 A) _ = _
 rw [s1]
 unfold fillA
 rw [if_pos ⟨ot, by simp [lt], leaf2⟩]
 show fillA (splice _ 258 B) _ = _
 rw [s2]
 unfold fillA
 rw [if_pos ⟨by rw [hc]; rfl, by simp [lt, ot], by rw [hc]; simp [hW]⟩, hc, s3]
 show some _ = _
 rw [← hA, ← hB]
 simp [takC]
theorem fill_own {p w : Int} {i n : Nat} : fillA (.int .u64 0 :: .int .i64 0 :: (List.replicate 512 (.int .u64 0) ++ [.lit (.slice none 0 0), .int .i64 0, .bool false, .int .u64 0]))
   [(0, 258, .agg (takC p (tabZ p (lenZ p - 1)))), (258, 256, .agg ((tabZ p (8 * w)).map (AVal.int .u64))), (514, 1, .own i 1 0 n false)] = some (rolC (newR p w) (.own i 1 0 n false)) := fill_rol rfl rfl
attribute [local go_sem high] fill_own
end Go.Abs
namespace Go.Abs
attribute [local go_sem high] aBin_xorZ aBin_andZ aBin_orZ aBin_shlZ aBin_shrZ aBin_andI aBin_shrI
set_option maxRecDepth 20000
end Go.Abs
namespace Go.Abs
section
variable {σ : Type} (roll : σ → UInt8 → σ) (ends : σ → Nat → Bool) (rst : σ → σ)
end
end Go.Abs
namespace Go.Abs
attribute [local go_sem high] aBin_xorZ aBin_andZ aBin_orZ aBin_shlZ aBin_shrZ aBin_andI aBin_shrI
set_option maxRecDepth 20000
def vw (x : List UInt8) : AVal := .view 1 (x.map .byte) false false
section
variable {x : List UInt8} {f : Nat → Option Nat}
theorem vw_cells : (vw x).cells = [vw x] := rfl
theorem vw_flat : (vw x).flat = true := rfl
theorem vw_closed : (vw x).closed = true := rfl
theorem vw_leaf : (vw x).leaf = true := rfl
theorem vw_ids : (vw x).ids = [] := rfl
theorem vw_ren : (vw x).ren f = vw x := rfl
theorem vw_noTmp : (vw x).noTmp = true := rfl
end
attribute [local go_sem high] vw_cells vw_flat vw_closed vw_leaf vw_ids vw_ren vw_noTmp
end Go.Abs
namespace Go.Abs
attribute [local go_sem high] aBin_xorZ aBin_andZ aBin_orZ aBin_shlZ aBin_shrZ aBin_andI aBin_shrI
attribute [local go_sem high] vw_cells vw_flat vw_closed vw_leaf vw_ids vw_ren vw_noTmp
set_option maxRecDepth 20000
theorem consume_view {h : Heap} {z : Nat} {es : List AVal} {c t : Bool} : consume h (.view z es c t) = some (.view z es c t, h) := rfl
theorem closed_viewt {z : Nat} {es : List AVal} {c : Bool} : AVal.closed (.view z es c true) = false := rfl
theorem closed_viewf {z : Nat} {es : List AVal} {c : Bool} : AVal.closed (.view z es c false) = true := rfl
theorem closedT_view {z : Nat} {es : List AVal} {c t : Bool} : AVal.closedT (.view z es c t) = true := rfl
attribute [local go_sem high] consume_view closed_viewt closed_viewf closedT_view
theorem vw_len {x : List UInt8} {h : Heap} : lenV (vw x) h = some (.int .i64 x.length, h) := by
 unfold vw
 rw [lenV_view, List.length_map]
attribute [local go_sem high] vw_len
end Go.Abs
namespace Go.Abs
set_option maxRecDepth 20000
end Go.Abs
namespace Go.Abs
section
variable {A : AProg} {m nid n : Nat} {d : Option Nat} {env : List AVal} {h h' : Heap} {st : ASt} {S : List Frame} {F : FinP} {ops : List AOper} {v : AVal} {op : AOp} {ps : List (Nat × Nat)} {base : Nat} {fs : List Foot} {f : Foot}
def RZ (A : AProg) (m base : Nat) (ops : List AOper) (nid : Nat) (env : List AVal) (h : Heap) (n : Nat) (S : List Frame) (F : FinP) : Prop :=
 FeetT A ops nid ⟨env, h, n⟩ fun fs st => (∀ f ∈ fs, f.wr = [] ∧ ∀ id ∈ f.rd, id < base) ∧ toK A m F S .norm st
def GZ (A : AProg) (m base : Nat) (v : AVal) (want : Bool) (d : Option Nat) (op : AOp) (ops : List AOper) (nid : Nat) (env : List AVal) (h : Heap) (n : Nat) (S : List Frame) (F : FinP) : Prop := match v with
 | .bool b => (b = want → RZ A m base (⟨d, op, none⟩ :: ops) nid env h n S F) ∧ (b ≠ want → RZ A m base ops (nid + stride) (setAt d .undef env) h n S F)
 | .lit (.tuple _) => RZ A m base ops (nid + stride) (setAt d .undef env) h n S F
 | _ => False
@[go_sem] theorem gz_undef {want : Bool} : GZ A m base (.lit Go.undef) want d op ops nid env h n S F ↔ RZ A m base ops (nid + stride) (setAt d .undef env) h n S F := Iff.rfl
@[go_sem] theorem foot_wr {a b : List Nat} : Foot.wr ⟨a, b⟩ = b := rfl
@[go_sem] theorem foot_rd {a b : List Nat} : Foot.rd ⟨a, b⟩ = a := rfl
end
end Go.Abs
namespace Go.Abs
open Am
set_option maxRecDepth 10000
end Go.Abs
namespace Go.Abs
open Am
set_option maxRecDepth 100000
end Go.Abs
namespace Go.Abs
open Am
set_option maxRecDepth 100000
end Go.Abs
namespace Go.Abs
open Am
set_option maxRecDepth 10000
end Go.Abs
namespace Go.Abs
open Am
set_option maxRecDepth 20000
end Go.Abs
namespace Go.Abs
open Am
set_option maxRecDepth 100000
end Go.Abs
namespace Go.Abs
open Am
set_option maxRecDepth 100000
end Go.Abs
namespace Go.Abs
def b19 : AFn := ⟨1, 19, [(2, none)], (.seq (rg [oo 2 (.mov (ci 0))]) (.seq (.seq (rg [mv 5 0, oo 6 (.bin .eql (.iface [58]) true (.t 5) (.c (.lit .nilIface)))]) (.cond (.t 6) (.seq (rg [oo 2 (.mov (ci 0))]) .ret) .skip)) (.seq (rg [mv 8 0, oo 9 (.tass 58 true (.int .i64 0) (.t 8)), mv 7 9, oo 10 (.ext (.t 7) 0), oo 11 (.ext (.t 7) 1), mv 3 10, mv 4 11]) (.seq (.seq (rg [mv 12 4, oo 13 (.un .not (.t 12)), mv 14 13, og 15 (.mov (.t 3)) 14 false, og 16 (.bin .eql .other true (.t 15) (ci 0)) 14 false, oo 17 (.pick (.t 14) (.c (.bool true)) (.t 16))]) (.cond (.t 17) (.seq (rg [oo 2 (.mov (.c (.int .i64 (-1))))]) .ret) .skip)) (.seq (rg [mv 18 3, mv 2 18]) .ret)))))⟩
theorem fn19 : AA.fn 19 = some b19 := by kernel_rfl
theorem np19 : AA.prim 19 = none := rfl
end Go.Abs
namespace Go.Abs
open Am Lib
set_option maxRecDepth 100000
theorem s19w (n : Int) (hn : n ≠ 0) : callT AA 19 [.iface 58 (.int .i64 n)] [] = some (.int .i64 n, []) := by
 refine enter fn19 np19 rfl ?_
 have gg:=trivial;repeat' first|simp (maxSteps:=2000000) (disch:=omega) only [gg,b19,go_sem]|(refine br ?_ ?_<;>intro gg<;>try omega)|(apply And.intro;focus omega)|omega
end Go.Abs
namespace Go.Abs
open Am Lib
set_option maxRecDepth 100000
end Go.Abs
namespace Go.Abs
open Am
set_option maxRecDepth 100000
end Go.Abs
namespace Go.Abs
open Am
set_option maxRecDepth 100000
end Go.Abs
namespace Go.Abs
open Am
set_option maxRecDepth 100000
end Go.Abs
namespace Go.Abs
set_option maxRecDepth 20000
end Go.Abs
namespace Go.Abs
open Am Go.Proofs
set_option maxRecDepth 20000
theorem s37z : callT AA 37 [.lit (.slice none 0 0), .lit (.slice none 0 0)] [] = some (.bool true, []) := by
 have h73 : callT AA 73 [.lit (.slice none 0 0), .lit (.slice none 0 0), .func (.func 74) []] [] = some (.bool true, []) := by
  refine enter fn73 np73 rfl ?_
  have gg:=trivial;repeat' first|simp (maxSteps:=2000000) (disch:=omega) only [gg,b73,lp_head,go_sem]|(refine br ?_ ?_<;>intro gg<;>try omega)|(apply And.intro;focus omega)|omega
  refine hd_of (by unfold l73_0; rfl) ?_
  have gg:=trivial;repeat' first|simp (maxSteps:=2000000) (disch:=omega) only [gg,r73_0,go_sem]|(refine br ?_ ?_<;>intro gg<;>try omega)|(apply And.intro;focus omega)|omega
 refine enter fn37 np37 rfl ?_
 have gg:=trivial;repeat' first|simp (maxSteps:=2000000) (disch:=omega) only [gg,b37,h73,go_sem]|(refine br ?_ ?_<;>intro gg<;>try omega)|(apply And.intro;focus omega)|omega
theorem sameTB_back : ∀ t : List Ent, sameTB (t.map rdEnt) t = true
 | [] => rfl
 | x :: t => by
  have ih := sameTB_back t
  have e : sameTB ((x :: t).map rdEnt) (x :: t) = (decide (SameE (rdEnt x) x) && sameTB (t.map rdEnt) t) := rfl
  have h : SameE (rdEnt x) x := ⟨rfl, rfl, rfl, rfl, rfl, rfl, rfl, rfl⟩
  rw [e, ih, decide_eq_true h]
  rfl
set_option maxHeartbeats 8000000 in
theorem t11z (T : AVal) (hT : T = .lit (.slice none 0 0) ∨ T = .view 8 [] false false) : callT AB 11 [T] [] = some (.bool true, []) := by
 have h39 := s39
 have h40 : callT AB 40 [T] [] = some (.bool true, []) := by
  rcases hT with rfl | rfl
  ·exact callT_ext s40n
  ·exact callT_ext (s40 false false [] (by simp) (by simp))
 have h16 : callT AB 16 [T] [] = some (.lit (.slice none 0 0), []) := by
  rcases hT with rfl | rfl
  ·exact callT_ext s16n
  ·exact callT_ext (s16e false false)
 have h49 := s49n
 have h17 := callT_ext s17n
 have hz := zeros1024_length
 have h24 : ∀ c t, callT AB 24 [.view 1 (zeros1024.map .byte) c t] [] = some (.tuple [.lit (.slice none 0 0), .lit .nilIface], []) := by
  intro c t
  have h := s24 (.mk c t zeros1024) (by simp only [BS.l]; omega)
  have hr : readE (.mk c t zeros1024) = some [] := readE_writeL c t (t := []) rfl
  rw [hr] at h
  exact callT_ext h
 have h37 := callT_ext s37z
 have et : (zeros1024.map AVal.byte).take 1024 = zeros1024.map .byte := List.take_of_length_le (by rw [List.length_map]; omega)
 generalize zeros1024 = Z at *
 refine enter (ab_fn fn11) rfl rfl ?_
 rcases hT with rfl | rfl
 ·have gg:=trivial;repeat' first|simp (maxSteps:=2000000) (disch:=omega) only [gg,b11,h39,h40,h16,h49,h17,h24,h37,et,hz,go_sem]|(refine br ?_ ?_<;>intro gg<;>try omega)|(apply And.intro;focus omega)|omega
 ·have gg:=trivial;repeat' first|simp (maxSteps:=2000000) (disch:=omega) only [gg,b11,h39,h40,h16,h49,h17,h24,h37,et,hz,go_sem]|(refine br ?_ ?_<;>intro gg<;>try omega)|(apply And.intro;focus omega)|omega
set_option maxHeartbeats 8000000 in
theorem t11 (t : List Ent) (h0 : t ≠ []) (ht : t.length ≤ 140737488351232) (hq : ∀ e ∈ t, EntW e) : callT AB 11 [.view 8 (t.map Ent.av) false false] [] = some (.bool true, []) := by
 have h39 := s39
 have h40 := callT_ext (s40 false false t ht fun e he => entL_of (hq e he))
 cases hb : largeB 0 t with
 | true =>
  rw [hb] at h40
  refine enter (ab_fn fn11) rfl rfl ?_
  have gg:=trivial;repeat' first|simp (maxSteps:=2000000) (disch:=omega) only [gg,b11,h39,h40,go_sem]|(refine br ?_ ?_<;>intro gg<;>try omega)|(apply And.intro;focus omega)|omega
 | false =>
  rw [hb] at h40
  have hlen := large_len hb
  have hsm := (large_small t 0 (by omega) hb).2
  have hBE : ∀ x ∈ t, BEnt x := fun x hx => by
   have := hsm x hx
   exact ⟨by omega, by omega, by omega⟩
  have h16 : callT AB 16 [.view 8 (t.map Ent.av) false false] [] = some (.own 0 8 0 t.length false, [(0, .row ((t.map rdEnt).map Ent.av) 8)]) := by
   obtain ⟨e0, r0, he0⟩ := List.exists_cons_of_ne_nil h0
   rw [← rav_eq]
   have hd : ∀ x ∈ t, x.data.l.length ≤ 140737488351232 := fun x hx => Nat.le_trans (hBE x hx).2.2 (by omega)
   subst he0
   exact callT_ext (s16 false false e0 r0 (by omega) hd)
  have tk1 : ((t.map rdEnt).map Ent.av).take t.length = (t.map rdEnt).map Ent.av := List.take_of_length_le (by simp)
  have hul : (t.map rdEnt).length = t.length := List.length_map _
  have hpos : 0 < t.length := List.length_pos_iff.2 h0
  rcases built_cases t h0 (by omega) hBE with ⟨E, hE, h49, h50⟩ | ⟨hc, hnd, h49⟩
  ·replace h50 := callT_ext h50
   unfold err50 at h50
   unfold errB at h49
   have h19 := callT_ext (s19w E hE)
   generalize t.map rdEnt = U at *
   refine enter (ab_fn fn11) rfl rfl ?_
   have gg:=trivial;repeat' first|simp (maxSteps:=2000000) (disch:=omega) only [gg,b11,h39,h40,h16,tk1,h49,h50,h19,go_sem]|(refine br ?_ ?_<;>intro gg<;>try omega)|(apply And.intro;focus omega)|omega
  ·have hws := built_short hb (dsum_rd t) hc
   have hne : builtL (t.map rdEnt) ≠ [] := by
    obtain ⟨hclo, _⟩ := grown_clo (by rw [hul]; omega) hnd
    obtain ⟨y, r, hy⟩ := List.exists_cons_of_ne_nil (l := (t.map rdEnt).map nmE) (by simpa using h0)
    intro h
    have h1 := hclo.sub y (by rw [hy]; simp)
    rw [← (sortK_perm Ent.path (grownR (t.map rdEnt))).mem_iff] at h1
    have h2 : y ∈ builtL (t.map rdEnt) := h1
    rw [h] at h2
    cases h2
   have hok : ∀ x ∈ builtL (t.map rdEnt), EntOk x := by
    obtain ⟨hclo, _⟩ := grown_clo (by rw [hul]; omega) hnd
    intro x hx
    refine (clo_ok hclo (fun z hz => ?_) x ((sortK_perm Ent.path (grownR (t.map rdEnt))).mem_iff.1 hx)).2
    obtain ⟨y, hy, rfl⟩ := List.mem_map.1 hz
    obtain ⟨y', hy', rfl⟩ := List.mem_map.1 hy
    exact nm_ok (hBE y' hy')
   generalize t.map rdEnt = U at *
   generalize builtL U = L at *
   have hL200 := (checkT_good hc).1
   have hc' : (checkT (L.map Ent.cp)).2 = 0 := by rw [checkT_map Ent.cp same_cp]; exact hc
   have hrc : (checkT ((L.map rdEnt).map Ent.cp)).2 = 0 := by rw [checkT_map Ent.cp same_cp, checkT_map rdEnt same_rd]; exact hc
   have h17 : ∀ c tm, callT AB 17 [.view 8 (L.map Ent.av) c tm] [] = some (.tuple [.own 0 1 0 (writeL L).length false, .lit .nilIface], [(0, .row ((writeL L).map .byte) 1)]) := by
    intro c tm
    obtain ⟨e1, r1, rfl⟩ := List.exists_cons_of_ne_nil hne
    exact callT_ext (s17 c tm e1 r1 hL200 hok hc' (checkT_pieces hc'))
   have h17b : ∀ c tm, callT AB 17 [.view 8 ((L.map rdEnt).map Ent.av) c tm] [] = some (.tuple [.own 0 1 0 (writeL L).length false, .lit .nilIface], [(0, .row ((writeL L).map .byte) 1)]) := by
    intro c tm
    rw [← writeL_rd L]
    obtain ⟨e1, r1, rfl⟩ := List.exists_cons_of_ne_nil hne
    refine callT_ext (s17 c tm (rdEnt e1) (r1.map rdEnt) (by simpa using hL200) (fun x hx => ?_) hrc (checkT_pieces hrc))
    obtain ⟨y, hy, rfl⟩ := List.mem_map.1 (show x ∈ (e1 :: r1).map rdEnt from hx)
    have h2 := hok y hy
    exact ⟨h2.1, h2.2.1, h2.2.2.1, rfl⟩
   have h24 : ∀ c tm, callT AB 24 [.view 1 ((writeL L).map .byte) c tm] [] = some (.tuple [.own 0 8 0 L.length false, .lit .nilIface], [(0, .row ((L.map rdEnt).map Ent.av) 8)]) := by
    intro c tm
    have h := s24 (.mk c tm (writeL L)) (by simpa [BS.l] using hws.1)
    have hn2 : L.map rdEnt ≠ [] := by simpa using hne
    rw [readE_writeL c tm hc, (readV_ne hn2).1, (readV_ne hn2).2, List.length_map] at h
    exact callT_ext h
   have h37 : ∀ c tm c2 tm2, callT AB 37 [.view 8 ((L.map rdEnt).map Ent.av) c tm, .view 8 (L.map Ent.av) c2 tm2] [] = some (.bool true, []) := by
    intro c tm c2 tm2
    have h := s37 c tm c2 tm2 (L.map rdEnt) L (by rw [List.length_map]; omega) (by omega)
    rw [sameTB_back] at h
    exact callT_ext h
   have et : ((writeL L).map AVal.byte).take (writeL L).length = (writeL L).map .byte := List.take_of_length_le (by simp)
   have tk2 : (L.map Ent.av).take L.length = L.map Ent.av := List.take_of_length_le (by simp)
   have tk3 : ((L.map rdEnt).map Ent.av).take L.length = (L.map rdEnt).map Ent.av := List.take_of_length_le (by simp)
   clear hc hnd hsm hBE hrc hc'
   obtain ⟨hw1, hw2⟩ := hws
   have hlp : 0 < L.length := List.length_pos_iff.2 hne
   have hrl : (L.map rdEnt).length = L.length := List.length_map _
   obtain ⟨q, hq1⟩ : ∃ q, (writeL L).length = q := ⟨_, rfl⟩
   rw [hq1] at h17 h17b hw1 hw2 et
   generalize writeL L = W at *
   generalize L.map rdEnt = V at *
   refine enter (ab_fn fn11) rfl rfl ?_
   have gg:=trivial;repeat' first|simp (maxSteps:=2000000) (disch:=omega) only [gg,b11,h39,h40,h16,tk1,h49,h17,h17b,h24,h37,et,tk2,tk3,hq1,go_sem]|(refine br ?_ ?_<;>intro gg<;>try omega)|(apply And.intro;focus omega)|omega
theorem s11 (t : Option (List Ent)) (ht : ∀ e ∈ esL t, EntW e) (hl : (esL t).length ≤ 140737488351232) : callT AB 11 [esAv t] [] = some (.bool true, []) := by
 cases t with
 | none => exact t11z _ (.inl rfl)
 | some t =>
  by_cases h0 : t = []
  ·subst h0
   exact t11z _ (.inr rfl)
  ·exact t11 t h0 hl ht
end Go.Abs
