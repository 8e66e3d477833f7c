/- TarNone: at every entry whatsoever the law TarNone of the given program answers true: a nil Writer answers ErrArchive, no bytes and no entries, and no entries bring an archive of 1024 bytes 0. Conditions: none beyond the card's own. -/
import Derived.Test.YtambgnjkakdoeaaGreatDoorA14
import Derived.Carry
import Derived.ChangeSame
import Derived.Deep.Fields
import Derived.Deep.Slices
import Derived.LaidMore
import Derived.Lay
import Derived.Lib.LaidTab
import Derived.Lib.LaidU8T
import Derived.OpenShut
import Derived.ProofKit
import Derived.SevenTiedAt
import Derived.Stop.Joined
import Derived.Test.YtambgnjkakdoeaaGreatDoorCards
import Derived.Test.YtambgnjkakdoeaaGreatDoorTie
set_option linter.unusedVariables false
set_option linter.unusedSimpArgs false
set_option linter.unusedSectionVars false
/- WHAT THE ARGUMENTS STAND FOR: bytes, entries, lists of entries. -/
namespace Go.Abs
open Go.Proofs Go.RowKit Go.ChangeShapes Go.WideShapes Go.Deep
set_option maxRecDepth 100000
set_option linter.unusedSimpArgs false
/-- a value that is all old memory's -/
abbrev RepW (w : World) : AVal → Value → Prop := Rep (fun _ => none) (fun b => b < w.heap.size) (fun _ => False) w
section
variable {H : Type} {enc : TypeId × Value → H} {w : World} {n : Nat} {cs : List Value} {x : DataW H × List MemPlace}
theorem lt_of_cell {a : Addr} {v : Value} (h : w.cell? a = some v) : a.block < w.heap.size ∧ a.spot = none := by
  unfold World.cell? at h
  split at h
  · rename_i c e f hb
    refine ⟨(Array.getElem?_eq_some_iff.1 hb).1, ?_⟩
    cases hs : a.spot with
    | none => rfl
    | some k => rw [hs] at h; simp at h
  · cases h
theorem cell_add {b o i : Nat} {sp : Option Nat} {v : Value} (h : w.cell? ((⟨b, o, sp⟩ : Addr).add i) = some v) (hs : sp = none) : w.cell? ⟨b, o + i, none⟩ = some v := by
  subst hs
  rw [← h, Addr.add_none]
/-- no string, slice or map of it is larger than the reach -/
def Light (d : DataW H) (t : TypeId) : Prop := ∀ k ∈ d.weights Tryz.prog t, k ≤ reachBytes
theorem reach_eq : reachBytes = 140737488351232 := by decide
theorem str_of (hw : Light x.1 9) (h : DataW.trod enc Tryz.prog w 0 (fun _ => true) true n 9 cs = some x) : ∃ (l : List UInt8) (v : Value), cs = [v] ∧ RepW w (.str l) v ∧ l.length ≤ 140737488351232 := by
  obtain ⟨s, h1, hx, h2⟩ := DataW.trod_string Tryz.underlying9 h
  have hwl : s.data.toList.length ≤ 140737488351232 := by
    rw [← reach_eq]
    refine hw _ ?_
    rw [hx]
    simp [DataW.weights]
  refine ⟨s.data.toList, .string s, h1, ?_, hwl⟩
  · have := Rep.str (ι := fun _ => none) (S := fun b => b < w.heap.size) (T := fun _ => False) (w := w) s.data.toList
    simpa using this
theorem int_of (h : DataW.trod enc Tryz.prog w 0 (fun _ => true) true n 3 cs = some x) : ∃ (z : Int) (v : Value), cs = [v] ∧ RepW w (.int .i64 z) v ∧ -9223372036854775808 ≤ z ∧ z ≤ 9223372036854775807 := by
  obtain ⟨z, h1, _, h2⟩ := DataW.trod_int Tryz.underlying3 h
  simp only [Lit.wf, Bool.and_eq_true, decide_eq_true_eq] at h2
  exact ⟨z, _, h1, .int _ _, h2.1, h2.2⟩
theorem bytes_of (hw : Light x.1 26) (h : DataW.trod enc Tryz.prog w 0 (fun _ => true) true n 26 cs = some x) : ∃ (b : BS) (v : Value), cs = [v] ∧ RepW w b.av v ∧ b.isTmp = false ∧ b.l.length ≤ 140737488351232 := by
  rcases open_ints Tryz.underlying26 Tryz.underlying5 (by kernel_rfl) h with ⟨hcs, _⟩ | ⟨a, l, c, zs, hcs, _, hl, hm, hz, hx, hcell, hwz⟩
  · exact ⟨.nil, _, hcs, .lit _, rfl, by simp [BS.l]⟩
  · simp only [if_true] at hz
    have hwt : zs.length ≤ 140737488351232 := by
      have hb : Tryz.prog.bytesOf 5 = 1 := by kernel_rfl
      rw [← reach_eq]
      refine hw _ ?_
      rw [hx]
      simp only [DataW.weights, Tryz.underlying26, hb, lits, List.length_map, List.length_take, List.length_drop]
      refine List.mem_cons.2 (.inl ?_)
      omega
    have hw : ∀ i, i < zs.length → 0 ≤ zs.getD i 0 ∧ zs.getD i 0 ≤ 255 := by
      intro i hi
      have := hwz (zs.getD i 0) (by rw [List.getD, List.getElem?_eq_getElem hi]; exact List.getElem_mem hi)
      simpa [Lit.wf, IntKind.min, IntKind.max, IntKind.signed, IntKind.bits] using this
    obtain ⟨b, o, sp⟩ := a
    have hsp : sp = none ∨ c = 0 := by
      rcases Nat.eq_zero_or_pos c with h0 | h0
      · exact .inr h0
      · exact .inl (by simpa [Addr.add] using (lt_of_cell (hcell 0 (by omega))).2)
    let bs := (zs.take l).map fun z => UInt8.ofNat z.toNat
    have hlen : bs.length = l := by simp [bs]; omega
    have hget : ∀ (i : Nat) (e : AVal), (bs.map AVal.byte)[i]? = some e → i < l ∧ e = .int .u8 (zs.getD i 0) := by
      intro i e he
      have hi : i < l := by
        have := (List.getElem?_eq_some_iff.1 he).1
        simpa [hlen] using this
      refine ⟨hi, ?_⟩
      have hiz : i < zs.length := by omega
      have e1 : zs[i]? = some zs[i] := List.getElem?_eq_getElem hiz
      have e2 : zs.getD i 0 = zs[i] := by rw [List.getD, e1]; rfl
      have hb := hw i hiz
      rw [e2] at hb ⊢
      have e3 : (bs.map AVal.byte)[i]? = some (AVal.byte (UInt8.ofNat zs[i].toNat)) := by
        simp only [bs, List.getElem?_map, List.getElem?_take, hi, if_true, e1, Option.map_some]
      rw [e3] at he
      cases he
      unfold AVal.byte
      congr 1
      simp
      omega
    have hcl : ∀ i, i < zs.length → w.cell? ⟨b, o + i, none⟩ = some (.int .u8 (zs.getD i 0)) := by
      intro i hi
      refine cell_add (hcell i hi) ?_
      rcases hsp with h | h
      · exact h
      · omega
    have hcl1 : ∀ i, i < zs.length → w.cell? ⟨b, o + i * 1, none⟩ = some (.int .u8 (zs.getD i 0)) := by
      intro i hi
      rw [Nat.mul_one]
      exact hcl i hi
    have := Rep.view (ι := fun _ => none) (S := fun b => b < w.heap.size) (T := fun _ => False) (w := w) 1 (bs.map AVal.byte) false false b o c sp (fun i _ => .int .u8 (zs.getD i 0)) hsp (by simp [hlen]; omega) (by simp)
      (fun i e he => by
        obtain ⟨hi, rfl⟩ := hget i e he
        exact (lt_of_cell (hcl i (by omega))).1)
      (fun i e he => by
        obtain ⟨hi, rfl⟩ := hget i e he
        rfl)
      (fun i e he => by
        obtain ⟨hi, rfl⟩ := hget i e he
        rfl)
      (fun i e j y he hy => by
        obtain ⟨hi, rfl⟩ := hget i e he
        match j, hy with
        | 0, _ => exact hcl1 i (by omega)
        | j + 1, hy => simp [AVal.cells] at hy)
      (fun i e j y he hy => by
        obtain ⟨hi, rfl⟩ := hget i e he
        match j, hy with
        | 0, hy =>
          simp [AVal.cells] at hy
          subst hy
          exact .int _ _
        | j + 1, hy => simp [AVal.cells] at hy)
    refine ⟨.mk false false bs, _, hcs, ?_, rfl, ?_⟩
    · rw [List.length_map, hlen] at this
      exact this
    · simp only [BS.l, hlen]
      omega
structure EntW (e : Ent) : Prop where
  kind : -9223372036854775808 ≤ e.kind ∧ e.kind ≤ 9223372036854775807
  mode : -9223372036854775808 ≤ e.mode ∧ e.mode ≤ 9223372036854775807
  uid : -9223372036854775808 ≤ e.uid ∧ e.uid ≤ 9223372036854775807
  gid : -9223372036854775808 ≤ e.gid ∧ e.gid ≤ 9223372036854775807
  time : -9223372036854775808 ≤ e.time ∧ e.time ≤ 9223372036854775807
  path : e.path.length ≤ 140737488351232
  link : e.link.length ≤ 140737488351232
  data : e.data.l.length ≤ 140737488351232
  tmp : e.data.isTmp = false
theorem ent_of (hw : Light x.1 36) (h : DataW.trod enc Tryz.prog w 0 (fun _ => true) true n 36 cs = some x) : ∃ e : Ent, cs.length = 8 ∧ EntW e ∧ ∀ (j : Nat) (c : AVal) (v : Value), e.av.cells[j]? = some c → cs[j]? = some v → RepW w c v := by
  obtain ⟨xs, m, _, hx, hl, hxl, hf⟩ := DataW.trod_struct Tryz.underlying36 h
  have h8 : Tryz.prog.cellsOf 36 = 8 := by kernel_rfl
  have h9 : Tryz.prog.cellsOf 9 = 1 := by kernel_rfl
  have h3 : Tryz.prog.cellsOf 3 = 1 := by kernel_rfl
  have h26 : Tryz.prog.cellsOf 26 = 1 := by kernel_rfl
  rw [h8] at hl
  match cs, hl, xs, hxl with
  | [c0, c1, c2, c3, c4, c5, c6, c7], _, [y0, y1, y2, y3, y4, y5, y6, y7], _ =>
    have hws : (DataW.agg [y0.1, y1.1, y2.1, y3.1, y4.1, y5.1, y6.1, y7.1] : DataW H).weights Tryz.prog 36 = y0.1.weights Tryz.prog 9 ++ (y1.1.weights Tryz.prog 3 ++ (y2.1.weights Tryz.prog 3 ++ (y3.1.weights Tryz.prog 3 ++ (y4.1.weights Tryz.prog 3 ++ (y5.1.weights Tryz.prog 3 ++ (y6.1.weights Tryz.prog 9 ++ (y7.1.weights Tryz.prog 26 ++ []))))))) := by
      simp only [DataW.weights, Tryz.underlying36, List.map_cons, List.map_nil, DataW.weightsEach]
    have hw8 : ∀ k ∈ y0.1.weights Tryz.prog 9 ++ (y1.1.weights Tryz.prog 3 ++ (y2.1.weights Tryz.prog 3 ++ (y3.1.weights Tryz.prog 3 ++ (y4.1.weights Tryz.prog 3 ++ (y5.1.weights Tryz.prog 3 ++ (y6.1.weights Tryz.prog 9 ++ (y7.1.weights Tryz.prog 26 ++ []))))))), k ≤ reachBytes := by
      rw [← hws]
      intro k hk
      refine hw k ?_
      rw [hx]
      exact hk
    have w0 : Light y0.1 9 := fun k hk => hw8 k (by simp [hk])
    have w6 : Light y6.1 9 := fun k hk => hw8 k (by simp [hk])
    have w7 : Light y7.1 26 := fun k hk => hw8 k (by simp [hk])
    have g0 := hf 0 _ rfl
    have g1 := hf 1 _ rfl
    have g2 := hf 2 _ rfl
    have g3 := hf 3 _ rfl
    have g4 := hf 4 _ rfl
    have g5 := hf 5 _ rfl
    have g6 := hf 6 _ rfl
    have g7 := hf 7 _ rfl
    simp only [h9, h3, h26, List.drop_zero, List.drop_succ_cons, List.take_succ_cons, List.take_zero, List.getElem?_cons_zero, List.getElem?_cons_succ] at g0 g1 g2 g3 g4 g5 g6 g7
    obtain ⟨p, v0, e0, r0, b0⟩ := str_of w0 g0
    obtain ⟨k, v1, e1, r1, b1⟩ := int_of g1
    obtain ⟨md, v2, e2, r2, b2⟩ := int_of g2
    obtain ⟨u, v3, e3, r3, b3⟩ := int_of g3
    obtain ⟨gd, v4, e4, r4, b4⟩ := int_of g4
    obtain ⟨t, v5, e5, r5, b5⟩ := int_of g5
    obtain ⟨lk, v6, e6, r6, b6⟩ := str_of w6 g6
    obtain ⟨d, v7, e7, r7, b7, b8⟩ := bytes_of w7 g7
    cases e0; cases e1; cases e2; cases e3; cases e4; cases e5; cases e6; cases e7
    refine ⟨⟨p, k, md, u, gd, t, lk, d⟩, rfl, ⟨b1, b2, b3, b4, b5, b0, b6, b8, b7⟩, fun j c v hc hv => ?_⟩
    match j, hc, hv with
    | 0, hc, hv => cases hc; cases hv; exact r0
    | 1, hc, hv => cases hc; cases hv; exact r1
    | 2, hc, hv => cases hc; cases hv; exact r2
    | 3, hc, hv => cases hc; cases hv; exact r3
    | 4, hc, hv => cases hc; cases hv; exact r4
    | 5, hc, hv => cases hc; cases hv; exact r5
    | 6, hc, hv => cases hc; cases hv; exact r6
    | 7, hc, hv => cases hc; cases hv; exact r7
    | j + 8, hc, hv => cases hv
/-- an entry, by value -/
theorem entArg_of {v : Value} {d : DataW H} {p : List MemPlace} {r : Reach} {b0 : Nat} (hw : Light d 36) (hv : Value.okWide Tryz.prog w r b0 36 v) (h : DataW.Trod enc Tryz.prog w 0 (fun _ => true) true 36 v d p) : ∃ e : Ent, EntW e ∧ RepW w e.av v := by
  obtain ⟨cs, rfl, hsz⟩ := okWide_struct Tryz.underlying36 hv
  obtain ⟨m, hm⟩ := h
  obtain ⟨e, h1, h2, h3⟩ := ent_of hw hm
  refine ⟨e, h2, .agg _ _ ?_ fun i c v hc hv => h3 i c v hc (by simpa [Value.cells] using hv)⟩
  simp [Value.cells] at h1
  simp [h1]
instance : Inhabited Ent := ⟨⟨[], 0, 0, 0, 0, 0, [], .nil⟩⟩
/-- a list of entries: nil, or a row -/
def esAv : Option (List Ent) → AVal
  | none => .lit (.slice none 0 0)
  | some t => .view 8 (t.map Ent.av) false false
def esL : Option (List Ent) → List Ent
  | none => []
  | some t => t
theorem weightsAll_mem : ∀ (l : List (DataW H)) (t : TypeId) (d : DataW H), d ∈ l → ∀ k ∈ d.weights Tryz.prog t, k ∈ DataW.weightsAll Tryz.prog t l
  | [], _, d, hd => by cases hd
  | a :: r, t, d, hd => by
    intro k hk
    simp only [DataW.weightsAll, List.mem_append]
    rcases List.mem_cons.1 hd with rfl | hd
    · exact .inl hk
    · exact .inr (weightsAll_mem r t d hd k hk)
theorem ents_of (hw : Light x.1 22) (h : DataW.trod enc Tryz.prog w 0 (fun _ => true) true n 22 cs = some x) : ∃ (t : Option (List Ent)) (v : Value), cs = [v] ∧ RepW w (esAv t) v ∧ (∀ e ∈ esL t, EntW e) ∧ (esL t).length ≤ 140737488351232 := by
  rcases open_slice Tryz.underlying22 h with ⟨hcs, _⟩ | ⟨a, len, cap, m, n', D, Pl, hcs, _, hl, hm, hmm, hx, hi⟩
  · exact ⟨none, _, hcs, .lit _, by simp [esL], by simp [esL]⟩
  · have h8 : Tryz.prog.cellsOf 36 = 8 := by kernel_rfl
    simp only [if_true] at hmm
    subst hmm
    rw [h8] at hi
    have hb : Tryz.prog.bytesOf 36 = 96 := by kernel_rfl
    have hws : x.1.weights Tryz.prog 22 = (((List.range len).map D).length + ((List.range (m - len)).map fun j => D (len + j)).length) * 96 :: (DataW.weightsAll Tryz.prog 36 ((List.range len).map D) ++ DataW.weightsAll Tryz.prog 36 ((List.range (m - len)).map fun j => D (len + j))) := by
      rw [hx]
      simp only [DataW.weights, Tryz.underlying22, hb]
    have hm96 : m * 96 ≤ 140737488351232 := by
      rw [← reach_eq]
      refine hw _ ?_
      rw [hws]
      simp only [List.length_map, List.length_range]
      refine List.mem_cons.2 (.inl ?_)
      congr 1
      omega
    have hwD : ∀ i, i < m → Light (D i) 36 := by
      intro i him k hk
      refine hw k ?_
      rw [hws]
      refine List.mem_cons.2 (.inr (List.mem_append.2 ?_))
      by_cases hil : i < len
      · exact .inl (weightsAll_mem _ _ _ (List.mem_map.2 ⟨i, List.mem_range.2 hil, rfl⟩) k hk)
      · refine .inr (weightsAll_mem _ _ (D i) (List.mem_map.2 ⟨i - len, List.mem_range.2 (by omega), ?_⟩) k hk)
        show D (len + (i - len)) = D i
        congr 1
        omega
    obtain ⟨V, hV⟩ := choose_lt (α := Ent × List Value) (n := m) (p := fun i z => w.cells? 0 (a.add (i * 8)) 8 = some z.2 ∧ z.2.length = 8 ∧ EntW z.1 ∧ ∀ (j : Nat) (c : AVal) (v : Value), z.1.av.cells[j]? = some c → z.2[j]? = some v → RepW w c v) (fun i him => by
      obtain ⟨cs', h1, h2⟩ := hi i him
      obtain ⟨e, e1, e2, e3⟩ := ent_of (hwD i him) h2
      exact ⟨(e, cs'), h1, e1, e2, e3⟩)
    obtain ⟨b, o, sp⟩ := a
    have hsp : sp = none ∨ m = 0 := by
      rcases Nat.eq_zero_or_pos m with h0 | h0
      · exact .inr h0
      · obtain ⟨h1, h2, _⟩ := hV 0 h0
        obtain ⟨_, _, h3⟩ := World.cells?_some h1
        have h4 := h3 0 (by omega)
        rw [List.getElem?_eq_getElem (by omega)] at h4
        exact .inl (by simpa [Addr.add] using (lt_of_cell h4).2)
    let t := (List.range len).map fun i => (V i).1
    have hlen : t.length = len := by simp [t]
    have hget : ∀ (i : Nat) (e : AVal), (t.map Ent.av)[i]? = some e → i < len ∧ e = (V i).1.av := by
      intro i e he
      have hi : i < len := by
        have := (List.getElem?_eq_some_iff.1 he).1
        simpa [hlen] using this
      refine ⟨hi, ?_⟩
      simp [t, hi] at he
      exact he.symm
    have hcell : ∀ (i j : Nat), i < len → j < 8 → w.cell? ⟨b, o + i * 8 + j, none⟩ = some ((V i).2.getD j undef) := by
      intro i j hi hj
      obtain ⟨h1, h2, _⟩ := hV i (by omega)
      obtain ⟨_, _, h3⟩ := World.cells?_some h1
      have h4 := h3 j hj
      have hs : sp = none := by
        rcases hsp with h | h
        · exact h
        · omega
      subst hs
      rw [Addr.add_none, Addr.add_none] at h4
      rw [h4, List.getD, List.getElem?_eq_getElem (by omega)]
      rfl
    have hcn : ∀ e : Ent, e.av.cells.length = 8 := fun _ => rfl
    have := Rep.view (ι := fun _ => none) (S := fun b => b < w.heap.size) (T := fun _ => False) (w := w) 8 (t.map Ent.av) false false b o m sp (fun i j => (V i).2.getD j undef) hsp (by simp [hlen]; omega) (by simp)
      (fun i e he => by
        obtain ⟨hi, rfl⟩ := hget i e he
        exact (lt_of_cell (hcell i 0 hi (by omega))).1)
      (fun i e he => by
        obtain ⟨hi, rfl⟩ := hget i e he
        rfl)
      (fun i e he => by
        obtain ⟨hi, rfl⟩ := hget i e he
        have ht := (hV i (by omega)).2.2.1.tmp
        have hf : (V i).1.data.av.flat = true := by rw [flat_bs, ht]; rfl
        simp only [AVal.closed, cells_ent, List.all_cons, List.all_nil, flat_str, flat_int, hf, Bool.and_true])
      (fun i e j y he hy => by
        obtain ⟨hi, rfl⟩ := hget i e he
        have hj : j < 8 := by
          have := (List.getElem?_eq_some_iff.1 hy).1
          rwa [hcn] at this
        exact hcell i j hi hj)
      (fun i e j y he hy => by
        obtain ⟨hi, rfl⟩ := hget i e he
        have hj : j < 8 := by
          have := (List.getElem?_eq_some_iff.1 hy).1
          rwa [hcn] at this
        obtain ⟨_, h2, _, h4⟩ := hV i (by omega)
        refine h4 j y _ hy ?_
        rw [List.getD, List.getElem?_eq_getElem (by omega)]
        rfl)
    refine ⟨some t, _, hcs, ?_, ?_, ?_⟩
    · rw [List.length_map, hlen] at this
      exact this
    · intro e he
      simp only [esL, t, List.mem_map, List.mem_range] at he
      obtain ⟨i, hi, rfl⟩ := he
      exact (hV i (by omega)).2.2.1
    · simp only [esL, hlen]
      omega
end
end Go.Abs
/- TarNone. -/
namespace Go.Abs
open Am
set_option maxRecDepth 100000
set_option linter.unusedSimpArgs false
theorem s6 (e : Ent) (he : EntW e) : callT AA 6 [e.av] [] = some (.bool true, []) := by
  have hz : zerosB zeros1024 = true := by simp [zerosB, zeros1024]
  have h33 := fun c t => s33 (.mk c t zeros1024) (by simp only [BS.l]; rw [zeros1024_length]; omega)
  simp only [mk_av, mk_l] at h33
  rw [hz] at h33
  have et := zeros1024_take
  have hl := zeros1024_length
  have ht := he.tmp
  refine enter fn6 np6 rfl ?_
  (simp (maxSteps := 2000000) (disch := omega) only [b6, s14, s29n, s28, s29e, s17n, s30n, s32n, h33, et, hl, ht, go_sem, Nat.reduceAdd, Nat.reduceSub, Nat.reduceMul, Nat.reduceLT, Nat.reduceLeDiff, Nat.reduceEqDiff, Nat.reduceBEq, Int.reduceLT, Int.reduceLE, Int.reduceEq, Int.reduceToNat, ↓reduceIte, reduceCtorEq]) <;> repeat' (first | ((first | refine gd_dec ?_ ?_ | refine gd_ndec ?_ ?_ | refine cd_dec ?_ ?_ | refine cd_ndec ?_ ?_ | refine gdd_dec ?_ ?_ | refine gdd_ndec ?_ ?_ | refine gd_of ?_ ?_ | refine cd_of ?_ ?_ | refine gdd_of ?_ ?_) <;> intro hg <;> first | (exfalso; omega) | (simp (maxSteps := 2000000) (disch := omega) only [hg, b6, s14, s29n, s28, s29e, s17n, s30n, s32n, h33, et, hl, ht, go_sem, Nat.reduceAdd, Nat.reduceSub, Nat.reduceMul, Nat.reduceLT, Nat.reduceLeDiff, Nat.reduceEqDiff, Nat.reduceBEq, Int.reduceLT, Int.reduceLE, Int.reduceEq, Int.reduceToNat, ↓reduceIte, reduceCtorEq])) | (refine And.intro ?_ ?_; focus omega) | omega)
end Go.Abs
/- FROM A ROW's PREMISES TO WHAT THE SMALL CODE ASKS: the tables and variables as they are laid; the ends of the rows. -/
namespace Go.Proofs.YtambgnjkakdoeaaGreatDoor
open Go.ChangeShapes Go.WideShapes Go.ChangeAt Go.RowKit Go.Abs
set_option maxRecDepth 100000
theorem ownNone : ownKnob Tryz.prog.godebug = none := by kernel_rfl
theorem laidOut : laidOutB Tryz.prog = true := by kernel_rfl
theorem iface_cells {H : Type} {enc : TypeId × Value → H} {P : Program} {w : World} {base : Nat} {sp : Nat → Bool} {held : Bool} {fuel : Nat} {t : TypeId} {ms : Array (String × TypeId)} {cs : List Value} {x : DataW H × List MemPlace}
    (ht : P.underlying t = some (.interface (ms))) (h : DataW.trod enc P w base sp held fuel t cs = some x) : ∃ v, cs = [v] ∧ (v = .nilIface ∨ ∃ u z, v = .iface u z) := by
  cases fuel with
  | zero => simp [DataW.trod] at h
  | succ fuel =>
    unfold DataW.trod at h
    rw [ht] at h
    split at h <;> first | (rename_i heq; cases heq; done) | skip
    · exact ⟨_, rfl, .inl rfl⟩
    · exact ⟨_, rfl, .inr ⟨_, _, rfl⟩⟩
    · cases h
theorem err_var {W : World} {nm : String} {d : DataW Unit} {k : Nat} (hk : Tryz.prog.globalNamed nm = some k) (ht : (Tryz.prog.globals[k]?).map (·.type) = some 28) (hr : Lib.VarReads Tryz.prog W nm d) :
    ∃ ev, W.cell? ⟨k, 0, none⟩ = some ev ∧ (ev = .nilIface ∨ ∃ te pe, ev = .iface te pe) := by
  obtain ⟨g, t, cs, fuel, p, hg, hty, hvar, hd⟩ := hr
  obtain rfl := Option.some.inj (hk.symm.trans hg)
  obtain rfl := Option.some.inj (ht.symm.trans hty)
  obtain ⟨v, hcs, hv⟩ := iface_cells Tryz.underlying28 hd
  refine ⟨v, ?_, hv⟩
  rw [World.var?_cell hg hvar 0, ← Array.getElem?_toList, hcs]
  rfl
theorem gg_of {W : World} (hL : laidMet Tryz.prog Rows.tarNoneRow.laid W) : GG (fun b => b < W.heap.size) W := by
  have r64 := Lib.laidMet.reads hL (.tail _ (.head _))
  have rpow := Lib.laidMet.reads hL (.tail _ (.tail _ (.head _)))
  have racc := Lib.laidMet.reads hL (.tail _ (.tail _ (.tail _ (.head _))))
  have rran := Lib.laidMet.reads hL (.tail _ (.tail _ (.tail _ (.tail _ (.head _)))))
  have rsyn := Lib.laidMet.reads hL (.tail _ (.tail _ (.tail _ (.tail _ (.tail _ (.head _))))))
  have rfst := Lib.laidMet.reads hL (.tail _ (.tail _ (.tail _ (.tail _ (.tail _ (.tail _ (.head _)))))))
  refine ⟨?_, ?_, err_var (by kernel_rfl) (by kernel_rfl) rsyn, err_var (by kernel_rfl) (by kernel_rfl) rran, fun b hb => ?_⟩
  · obtain ⟨g, t, cs, fuel, p, hg, hty, hvar, hd⟩ := rpow
    obtain rfl := Option.some.inj ((show Tryz.prog.globalNamed "internal/strconv.uint64pow10" = some 1 by kernel_rfl).symm.trans hg)
    obtain rfl := Option.some.inj ((show (Tryz.prog.globals[1]?).map (·.type) = some 247 by kernel_rfl).symm.trans hty)
    have hcs := Lib.cells_of_tab (zs := Lib.pow10Tab) (k := .u64) Tryz.underlying247 Tryz.underlying80 (by kernel_rfl) (by kernel_rfl) hd
    unfold Lib.TabIs
    rw [hvar, ← hcs]
  · exact utf8Tabs_of_readsT (U8Types.of196 Tryz.laysValid) ⟨by kernel_rfl, by kernel_rfl, by kernel_rfl, by kernel_rfl, by kernel_rfl, by kernel_rfl, by kernel_rfl⟩ rfst racc
  · obtain ⟨g, t, cs, fuel, p, hg, hty, hvar, hd⟩ := r64
    obtain rfl := Option.some.inj ((show Tryz.prog.globalNamed "math/bits.deBruijn64tab" = some 7 by kernel_rfl).symm.trans hg)
    have h7 : 7 < W.heap.size := by
      rcases Nat.lt_or_ge 7 W.heap.size with h | h
      · exact h
      · unfold World.var? at hvar
        rw [hg] at hvar
        simp [Array.getElem?_eq_none h] at hvar
    show b < W.heap.size
    omega
end Go.Proofs.YtambgnjkakdoeaaGreatDoor
/- THE ROW OF A LAW OVER ONE ENTRY: TarNone. -/
namespace Go.Proofs.YtambgnjkakdoeaaGreatDoor
open Go.ChangeShapes Go.WideShapes Go.ChangeAt Go.RowKit Go.Abs
set_option maxRecDepth 100000
theorem lifted6 (s6 : ∀ e : Ent, EntW e → callT AA 6 [e.av] [] = some (.bool true, [])) (os : Os) (started : os.Started) (H : Type) (enc : TypeId × Value → H) :
    ReturnsInHanded {} Tryz.checked os 6 .any (fun w args => (Rows.tarNoneSpec.pre enc Tryz.prog Tryz.f6 Rows.tarNoneRow.domain false w args ∧ laidMetH Tryz.prog Rows.tarNoneRow.laid w) ∧ sizedMet enc Tryz.prog Tryz.f6 (OpenSpec.ofChange Rows.tarNoneSpec) false w args)
      (Rows.tarNoneSpec.post enc Tryz.prog Tryz.f6 false true false false) := by
  refine returnsInHanded_of_change_and (C := Tryz.checked) (X := fun w _ => laidMetH Tryz.prog Rows.tarNoneRow.laid w) (fun _ _ _ hh h => h.of_heap hh) ownNone started (by kernel_rfl) Tryz.func6
    (ChangeSpec.witness_shaped (enc := enc) (C := Tryz.checked) (os := os) (X := fun w _ => laidMetH Tryz.prog Rows.tarNoneRow.laid w) false (World.laidAll Tryz.prog os Rows.tarNoneRow.laid) #[.agg #[.string .empty, .int .i64 0, .int .i64 0, .int .i64 0, .int .i64 0, .int .i64 0, .string .empty, .slice none 0 0]] 8 (World.laidAll_os _ _ _)
      (World.shaped_of_ZipB (by kernel_rfl) (by kernel_rfl)) (by kernel_rfl) (by kernel_rfl) (by kernel_rfl)
      (by rw [MakeChecks.laidMetH_plain _ _ _ (by kernel_rfl)]; exact laidMet_laidAll _ (by kernel_rfl) (by kernel_rfl))) ?_
  intro W base args ds gs before hval0 hW hc hwt hL _
  have hval : ∀ (j : Nat) t v, Tryz.f6.params[j]? = some t → args[j]? = some v → Value.okWide Tryz.prog W .any base t v := hval0
  have hW' := hW
  obtain ⟨p, q, hA0, hV, rfl, _, _⟩ := hW
  have hA : DataW.TrodAll enc Tryz.prog W 0 (fun _ => true) true Tryz.f6.params.toList args.toList ds p := hA0
  rw [Tryz.params6] at hA hval
  obtain ⟨v0, d0, rfl, rfl, h0⟩ := trodAll_one hA
  obtain ⟨rfl, rfl⟩ := trodVars_none hV
  have k0 := h0
  have lt0 : ∀ x ∈ p, x.block < W.heap.size := by obtain ⟨m, hm⟩ := k0; exact DataW.trod_lt m _ _ _ hm
  have w0 : Light d0 36 := fun k hk => by
    rw [Tryz.params6] at hwt
    have := List.all_eq_true.1 hwt k (by
      show k ∈ DataW.weightsEach Tryz.prog (36 :: _) (d0 :: _)
      simp only [DataW.weightsEach, List.mem_append]
      exact .inl hk)
    simpa using this
  obtain ⟨e, he, hr⟩ := entArg_of w0 (hval 0 36 v0 rfl rfl) h0
  rw [MakeChecks.laidMetH_plain _ _ _ (by kernel_rfl)] at hL
  refine (law_calls (fn := Tryz.f6) Tryz.func6 (by kernel_rfl) (by kernel_rfl) (s6 e he) (gg_of hL) rfl ?_).mono fun e' W' ⟨he', bel⟩ => ?_
  · intro i c v hc' hv
    match i, hc', hv with
    | 0, hc', hv =>
      cases hc'
      cases hv
      exact hr
    | i + 1, hc', hv => cases hc'
  subst he'
  exact ⟨_, rfl, _, _, _, [], _, [], hW', trodAll_mk1 (shut_bool Tryz.underlying4 _), trodAll_mk1 (Below.trod laidOut (by kernel_rfl) (of_decide_eq_true (by kernel_rfl)) k0 bel lt0), rfl, bel.frame _, fun h => by cases h⟩
theorem over6 (s6 : ∀ e : Ent, EntW e → callT AA 6 [e.av] [] = some (.bool true, [])) : Rows.TarNoneSaid :=
  OpenClaim.holds_of_wide 6 Tryz.f6 rfl rfl rfl rfl rfl rfl rfl ⟨rfl, rfl, rfl, rfl, rfl⟩ rfl rfl rfl rfl rfl (by kernel_rfl) Tryz.func6 (by kernel_rfl)
    (of_decide_eq_true (by kernel_rfl)) (by unfold Func.isWrapper; first | (rw [if_pos (by decide +kernel)]; kernel_rfl) | (rw [if_neg (by decide +kernel)]; exact ⟨rfl, rfl⟩))
    (fun os started H enc _ => lifted6 s6 os started H enc)
theorem card6 (s6 : ∀ e : Ent, EntW e → callT AA 6 [e.av] [] = some (.bool true, [])) : Rows.TarNoneCardSaid :=
  Claim7.holds_tied_plain_at .later [] [.data, .data, .data, .data, .sentinel, .sentinel, .pinned] true (true, "9a27f009568e5a9d23452f5acf9f8ca070d2ce250d64b6051559486034a94d0c") true (over6 s6) (fun _ h => by cases h) (by kernel_rfl) (fun _ h => by cases h) tarNone_row_tie rfl ⟨rfl, rfl⟩ (by kernel_rfl) rfl
    (fun f fn hf hfn => by
      obtain rfl : f = 6 := Option.some.inj ((show Tryz.prog.funcNamed "amphora/amphoralaw12.TarNone" = some 6 by kernel_rfl).symm.trans hf) |>.symm
      obtain rfl : fn = Tryz.f6 := (Option.some.inj (Tryz.func6.symm.trans hfn)).symm
      exact ⟨by kernel_rfl, fun j t ht => by
        rw [Tryz.params6] at ht
        have hm : t ∈ [36] := by simpa using Array.mem_of_getElem? ht
        have hall : ([36].all fun u => !Tryz.prog.wantsStandIn u) = true := by kernel_rfl
        exact (show Tryz.prog.wantsStandIn t = false by simpa using List.all_eq_true.1 hall t hm)⟩)
    (by kernel_rfl)
end Go.Proofs.YtambgnjkakdoeaaGreatDoor
namespace Go.Proofs.YtambgnjkakdoeaaGreatDoor
open Go.Abs
theorem tarNone_holds : Rows.TarNoneCardSaid := card6 s6
end Go.Proofs.YtambgnjkakdoeaaGreatDoor
