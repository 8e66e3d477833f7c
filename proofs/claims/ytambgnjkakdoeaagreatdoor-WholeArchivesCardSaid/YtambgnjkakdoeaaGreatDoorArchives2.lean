import Derived.Test.YtambgnjkakdoeaaGreatDoorArchives1
/- PART OF A PROOF (texts joined by a program): S5 S6 S7 S8 S9. -/
set_option linter.unusedVariables false
set_option linter.unusedSimpArgs false
set_option linter.unusedSectionVars false
namespace Go.Abs
section
variable {gl : Globs} {P : Program} {ι : Emb} {S T : Nat → Prop} {w : World} {h h' : Heap} {next : Free} {o : Oper} {a : Act} {env : List AVal} {r : AVal} {nid : Nat} {ts : List TypeId} {op : AOp}
theorem good_val {v : Value} {next' : Free} (hi : Inv ι S T h w next) (hn : ∀ id, next' id → next id) (he : (execOp a.eval o).run P w = .ok (.value v) w) (hr : Rep ι S T w r v) : Good P o a w ι S T h next' r h :=
 ⟨_, v, w, ι, S, he, .inl rfl, hr, hi.mono hn, .refl ..⟩
theorem opts_rep {x : Option Operand} {y : Option AOpd} (henv : EnvRep gl ι S T w env a.tmps) (hx : oneOpt (trOpd gl) x = some y) : OptRep ι S T w (y.map (·.ev env)) (x.map a.eval) ∧ (y.isSome = x.isSome) := by
 cases x with
 | none => simp [oneOpt] at hx; subst hx; exact ⟨trivial, rfl⟩
 | some x =>
  simp [oneOpt] at hx
  obtain ⟨z, hz, rfl⟩ := hx
  exact ⟨opd_rep henv hz, rfl⟩
theorem tzero_rep {t : TypeId} {z : AVal} (hz : tzero P t = some z) : ∃ i v, P.info? t = some i ∧ i.zero = some v ∧ constOf v = some z := by
 unfold tzero at hz
 split at hz
 ·rename_i i hi
  simp only [Option.bind_eq_some_iff] at hz
  obtain ⟨v, hv, hc⟩ := hz
  exact ⟨i, v, hi, hv, hc⟩
 ·simp at hz
theorem Rep.cells' {x : AVal} {v : Value} (h : Rep ι S T w x v) (hl : x.cells.all AVal.leaf = true) :
  x.cells.length = v.cells.size ∧ (∀ (i : Nat) (c : AVal) (u : Value), x.cells[i]? = some c → v.cells[i]? = some u → Rep ι S T w c u) ∧ ∀ u ∈ v.cells.toList, u.oneCell' = true := by
 have h1 : ∀ y, x = .lit y → y.oneCell' = true := by
  rintro y rfl
  simpa [AVal.cells, AVal.leaf] using hl
 have h2 : x ≠ .junk := by
  rintro rfl
  simp [AVal.cells, AVal.leaf] at hl
 obtain ⟨a1, a2⟩ := h.cells h1 h2
 refine ⟨a1, a2, fun u hu => ?_⟩
 obtain ⟨i, hi⟩ := List.mem_iff_getElem?.1 hu
 have hlt : i < x.cells.length := by
  have := (List.getElem?_eq_some_iff.1 hi).1
  simp at this
  omega
 have hc : x.cells[i]? = some x.cells[i] := List.getElem?_eq_getElem hlt
 have := a2 i _ u hc (by simpa using hi)
 exact this.oneCell (List.all_eq_true.1 hl _ (List.getElem_mem hlt))
theorem foldl_set (off : Nat) : ∀ (vs : List Value) (j : Nat) (arr : Array Value), off + j + vs.length ≤ arr.size →
  ((vs.zipIdx j).foldl (fun cs (c, j) => cs.setIfInBounds (off + j) c) arr).toList = arr.toList.take (off + j) ++ vs ++ arr.toList.drop (off + j + vs.length) := by
 intro vs
 induction vs with
 | nil => intro j arr h; simp
 | cons v rest ih =>
  intro j arr h
  simp only [List.zipIdx_cons, List.foldl_cons]
  rw [ih (j + 1) _ (by simp at h ⊢; omega)]
  have e := list_seg_step arr.toList (off + j) v rest (by simp at h ⊢; omega)
  simpa [Array.toList_setIfInBounds, Nat.add_assoc] using e
theorem splice_rep {cs vs : List AVal} {arr us arr' : List Value} {off : Nat} (hl : cs.length = arr.length) (hv : vs.length = us.length) (hle : off + vs.length ≤ cs.length) (he : arr' = arr.take off ++ us ++ arr.drop (off + us.length))
  (h1 : ∀ (i : Nat) (c : AVal) (v : Value), cs[i]? = some c → arr[i]? = some v → Rep ι S T w c v) (h2 : ∀ (i : Nat) (c : AVal) (v : Value), vs[i]? = some c → us[i]? = some v → Rep ι S T w c v) :
  (splice cs off vs).length = arr'.length ∧ ∀ (i : Nat) (c : AVal) (v : Value), (splice cs off vs)[i]? = some c → arr'[i]? = some v → Rep ι S T w c v := by
 subst he
 refine ⟨by simp [splice]; omega, fun i c v hc hv' => ?_⟩
 unfold splice at hc
 by_cases ha : i < off
 ·rw [List.append_assoc, List.getElem?_append_left (by simp; omega), List.getElem?_take, if_pos ha] at hc hv'
  exact h1 i c v hc hv'
 ·by_cases hb : i < off + vs.length
  ·rw [List.append_assoc, List.getElem?_append_right (by simp; omega), List.getElem?_append_left (by simp; omega)] at hc hv'
   have e1 : (cs.take off).length = off := by simp; omega
   have e2 : (arr.take off).length = off := by simp; omega
   rw [e1] at hc; rw [e2] at hv'
   exact h2 _ c v hc hv'
  ·rw [List.getElem?_append_right (by simp; omega), List.getElem?_drop] at hc hv'
   have e1 : off + vs.length + (i - (cs.take off ++ vs).length) = i := by simp; omega
   have e2 : off + us.length + (i - (arr.take off ++ us).length) = i := by simp; omega
   rw [e1] at hc; rw [e2] at hv'
   exact h1 i c v hc hv'
theorem fill_sound {fields : Array Field} {places : Array (Nat × Nat)} (hpl : ∀ (i : Nat) (f : Field) (fi : TypeInfo), fields[i]? = some f → P.info? f.type = some fi → places[i]? = some (f.offset, fi.size)) (henv : EnvRep gl ι S T w env a.tmps) :
  ∀ (l : List (Nat × Operand)) (ps : List (Nat × Nat × AOpd)) (zero cs : List AVal) (arr : Array Value), trParts gl P fields l = some ps → fillA zero (ps.map fun (o, s, x) => (o, s, x.ev env)) = some cs →
   zero.length = arr.size → (∀ (i : Nat) (c : AVal) (v : Value), zero[i]? = some c → arr[i]? = some v → Rep ι S T w c v) →
   ∃ arr', Instr.fill (places[·]?) arr (l.map fun (i, x) => (i, a.eval x)) = some arr' ∧ cs.length = arr'.size ∧ ∀ (i : Nat) (c : AVal) (v : Value), cs[i]? = some c → arr'[i]? = some v → Rep ι S T w c v := by
 intro l
 induction l with
 | nil =>
  intro ps zero cs arr hp hf hl hz
  simp [trParts] at hp
  subst hp
  simp [fillA] at hf
  subst hf
  exact ⟨arr, rfl, hl, hz⟩
 | cons x r ih =>
  obtain ⟨i, x⟩ := x
  intro ps zero cs arr hp hf hl hz
  simp only [trParts] at hp
  split at hp <;> try (simp at hp; done)
  rename_i f x' r' hfi hx hr
  split at hp <;> simp at hp
  rename_i fi hinfo
  subst hp
  simp only [List.map_cons, fillA] at hf
  split at hf <;> try (simp at hf; done)
  rename_i hc
  obtain ⟨c1, c2, c3⟩ := hc
  have hrep := opd_rep henv hx
  obtain ⟨d1, d2, d3⟩ := hrep.cells' c3
  have hfold := foldl_set f.offset (a.eval x).cells.toList 0 arr (by simp; omega)
  simp only [Nat.add_zero] at hfold
  obtain ⟨e1, e2⟩ := splice_rep (cs := zero) (vs := (x'.ev env).cells) (arr := arr.toList) (us := (a.eval x).cells.toList) (off := f.offset) (by simpa using hl) (by simpa using d1) (by omega) hfold (by simpa using hz) (by simpa using d2)
  have hfe : (a.eval x).cells.zipIdx.foldl (fun (cs : Array Value) (c, j) => cs.setIfInBounds (f.offset + j) c) arr = ((a.eval x).cells.toList.zipIdx).foldl (fun (cs : Array Value) (c, j) => cs.setIfInBounds (f.offset + j) c) arr := by
   rw [← Array.foldl_toList, Array.toList_zipIdx]
  obtain ⟨arr', g1, g2, g3⟩ := ih r' _ cs _ hr hf (by simpa using e1) (by simpa using e2)
  refine ⟨arr', ?_, g2, g3⟩
  simp only [List.map_cons, Instr.fill, hpl i f fi hfi hinfo]
  rw [if_neg (by simp; omega), hfe]
  exact g1
theorem good_mov {x : Operand} {x' : AOpd} (ho : o.op = .move x ∨ o.op = .assign x) (hx : trOpd gl x = some x') (hi : Inv ι S T h w next) (hn : next nid) (henv : EnvRep gl ι S T w env a.tmps)
  (hr : aop (.mov x') env nid h = some (r, h')) : Good P o a w ι S T h (next.but nid) r h' := by
 simp [aop] at hr
 obtain ⟨rfl, rfl⟩ := hr
 exact good_val hi (fun _ h => h.1) (by rcases ho with ho | ho <;> simp [execOp, ho]) (opd_rep henv hx)
theorem good_pick {c x y : Operand} {c' x' y' : AOpd} (ho : o.op = .pick c x y) (hc : trOpd gl c = some c') (hx : trOpd gl x = some x') (hy : trOpd gl y = some y') (hi : Inv ι S T h w next) (hn : next nid) (henv : EnvRep gl ι S T w env a.tmps)
  (hr : aop (.pick c' x' y') env nid h = some (r, h')) : Good P o a w ι S T h (next.but nid) r h' := by
 simp only [aop] at hr
 split at hr <;> simp at hr
 rename_i b hb
 obtain ⟨rfl, rfl⟩ := hr
 have h1 := opd_rep henv hc
 rw [hb] at h1
 refine good_val (v := if b then a.eval x else a.eval y) hi (fun _ h => h.1) (by simp [execOp, ho, h1.bool_inv, asBool]) ?_
 cases b
 ·exact opd_rep henv hy
 ·exact opd_rep henv hx
theorem good_bin {bop : BinOp} {t t' : TypeId} {x y : Operand} {x' y' : AOpd} (ho : o.op = .binOp bop t x y t') (hx : trOpd gl x = some x') (hy : trOpd gl y = some y') (hi : Inv ι S T h w next) (hn : next nid) (henv : EnvRep gl ι S T w env a.tmps)
  (hr : aop (.bin bop (eqK P ts t) (isC x || isC y) x' y') env nid h = some (r, h')) : Good P o a w ι S T h (next.but nid) r h' := by
 simp only [aop, Option.map_eq_some_iff] at hr
 obtain ⟨c, hc, hr⟩ := hr
 simp at hr
 obtain ⟨rfl, rfl⟩ := hr
 exact good_pure hi (fun _ h => h.1) (fun v hv => by simp only [execOp, ho, Sem.run_bind, Sem.run_pure] at hv ⊢; rw [hv]; rfl) (aBin_sound (opd_rep henv hx) (opd_rep henv hy) hc)
theorem good_un {bop : UnOp} {t : TypeId} {x : Operand} {x' : AOpd} (ho : o.op = .unOp bop t x) (hx : trOpd gl x = some x') (hi : Inv ι S T h w next) (hn : next nid) (henv : EnvRep gl ι S T w env a.tmps)
  (hr : aop (.un bop x') env nid h = some (r, h')) : Good P o a w ι S T h (next.but nid) r h' := by
 simp only [aop, Option.map_eq_some_iff] at hr
 obtain ⟨c, hc, hr⟩ := hr
 simp at hr
 obtain ⟨rfl, rfl⟩ := hr
 exact good_pure hi (fun _ h => h.1) (fun v hv => by simp [execOp, ho, hv]) (aUn_sound (opd_rep henv hx) hc)
theorem good_extract {x : Operand} {x' : AOpd} {i : Nat} (ho : o.op = .extract x i) (hx : trOpd gl x = some x') (hi : Inv ι S T h w next) (hn : next nid) (henv : EnvRep gl ι S T w env a.tmps)
  (hr : aop (.ext x' i) env nid h = some (r, h')) : Good P o a w ι S T h (next.but nid) r h' := by
 simp only [aop] at hr
 split at hr <;> simp at hr
 rename_i vs hb
 obtain ⟨c, hc, rfl, rfl⟩ := hr
 have h1 := opd_rep henv hx
 rw [hb] at h1
 obtain ⟨arr, hv, hl, hh⟩ := h1.tuple_inv
 have hlt : i < arr.size := by have := (List.getElem?_eq_some_iff.1 hc).1; omega
 exact good_val (v := arr[i]) hi (fun _ h => h.1) (by simp [execOp, ho, hv, Instr.extract, hlt]) (hh i _ _ hc (by simp [hlt]))
theorem good_nilck {x : Operand} {x' : AOpd} (ho : o.op = .nilCheck x) (hx : trOpd gl x = some x') (hi : Inv ι S T h w next) (hn : next nid) (henv : EnvRep gl ι S T w env a.tmps)
  (hr : aop (.nilck x') env nid h = some (r, h')) : Good P o a w ι S T h (next.but nid) r h' := by
 have h1 := opd_rep henv hx
 have key : ∀ b, a.eval x = .pointer (some b) → (execOp a.eval o).run P w = .ok (.value (a.eval x)) w := by
  intro b hv
  simp [execOp, ho, hv]
 simp only [aop] at hr
 split at hr <;> simp at hr
 ·rename_i id off hb
  obtain ⟨rfl, rfl⟩ := hr
  rw [hb] at h1
  obtain ⟨L, hv, hL⟩ := h1.ptr_inv
  exact good_val hi (fun _ h => h.1) (key _ hv) h1
 ·rename_i id i off hb
  obtain ⟨rfl, rfl⟩ := hr
  rw [hb] at h1
  obtain ⟨L, hv, hL⟩ := h1.eptr_inv
  exact good_val hi (fun _ h => h.1) (key _ hv) h1
 ·rename_i cs tmp hb
  obtain ⟨rfl, rfl⟩ := hr
  rw [hb] at h1
  obtain ⟨b, off, vs, hv, _⟩ := h1.rptr_inv
  exact good_val hi (fun _ h => h.1) (key _ hv) h1
theorem good_fa {s : TypeId} {x : Operand} {x' : AOpd} {f : Nat} {fields : Array Field} {fd : Field} {fi : TypeInfo} (ho : o.op = .fieldAddr s x f) (hx : trOpd gl x = some x') (hu : P.underlying s = some (.struct fields)) (hf : fields[f]? = some fd) (hfi : P.info? fd.type = some fi) (hz : fi.size ≠ 0)
  (hi : Inv ι S T h w next) (hn : next nid) (henv : EnvRep gl ι S T w env a.tmps) (hr : aop (.fa fd.offset x') env nid h = some (r, h')) : Good P o a w ι S T h (next.but nid) r h' := by
 have h1 := opd_rep henv hx
 have key : ∀ b off, a.eval x = .pointer (some ⟨b, off, none⟩) → (execOp a.eval o).run P w = .ok (.value (.pointer (some ⟨b, off + fd.offset, none⟩))) w := by
  intro b off hv
  simp [execOp, ho, hv, Instr.fieldAt, run_underlying' hu, hf, Instr.sureAddr, fieldPlace, sizeOf, typeInfo, hfi, hz, Addr.add_none]
 simp only [aop] at hr
 split at hr <;> simp at hr
 ·rename_i id off hb
  obtain ⟨rfl, rfl⟩ := hr
  rw [hb] at h1
  obtain ⟨L, hv, hL⟩ := h1.ptr_inv
  exact good_val hi (fun _ h => h.1) (key _ _ hv) (.ptr id _ L hL)
 ·rename_i id i off hb
  obtain ⟨rfl, rfl⟩ := hr
  rw [hb] at h1
  obtain ⟨L, hv, hL⟩ := h1.eptr_inv
  exact good_val hi (fun _ h => h.1) (key _ _ hv) (by have := Rep.eptr (ι := ι) (S := S) (T := T) (w := w) id i (off + fd.offset) L hL; rwa [← Nat.add_assoc] at this)
 ·rename_i cs tmp hb
  obtain ⟨rfl, rfl⟩ := hr
  rw [hb] at h1
  obtain ⟨b, off, vs, hv, hS, hcell, hrep⟩ := h1.rptr_inv
  refine good_val hi (fun _ h => h.1) (key _ _ hv) (.rptr _ tmp b _ (fun j => vs (fd.offset + j)) (fun j y hy => hS (fd.offset + j) y (by simpa using hy)) (fun j y hy => ?_) (fun j y hy => hrep (fd.offset + j) y (by simpa using hy)))
  rw [← hcell (fd.offset + j) y (by simpa using hy), Nat.add_assoc]
theorem good_fld {s : TypeId} {x : Operand} {x' : AOpd} {f : Nat} {fields : Array Field} {fd : Field} {sz : Nat} {agg : Bool} (ho : o.op = .field s x f) (hx : trOpd gl x = some x') (hu : P.underlying s = some (.struct fields)) (hf : fields[f]? = some fd) (ht : tsz P fd.type = some (sz, agg))
  (hi : Inv ι S T h w next) (hn : next nid) (henv : EnvRep gl ι S T w env a.tmps) (hr : aop (.fld fd.offset sz agg x') env nid h = some (r, h')) : Good P o a w ι S T h (next.but nid) r h' := by
 have h1 := opd_rep henv hx
 simp only [aop] at hr
 split at hr <;> simp at hr
 rename_i cs hb
 obtain ⟨c, hc, rfl, rfl⟩ := hr
 rw [hb] at h1
 obtain ⟨arr, hv, hl, hh⟩ := h1.agg_inv
 exact good_pure (s := Go.part fd.type arr fd.offset) hi (fun _ h => h.1) (fun u hu' => by simp [execOp, ho, hv, Instr.field, run_underlying' hu, hf, asAgg, hu']) (part_sound ht hc hl hh)
theorem good_ixs {t : TypeId} {x i : Operand} {x' i' : AOpd} (ho : o.op = .index t x i) (hx : trOpd gl x = some x') (hii : trOpd gl i = some i') (hu : P.underlying t = some .string)
  (hi : Inv ι S T h w next) (hn : next nid) (henv : EnvRep gl ι S T w env a.tmps) (hr : aop (.ixs x' i') env nid h = some (r, h')) : Good P o a w ι S T h (next.but nid) r h' := by
 have h1 := opd_rep henv hx
 have h2 := opd_rep henv hii
 simp only [aop] at hr
 split at hr
 ·rename_i s n hb hnn
  split at hr <;> simp at hr
  rename_i b hsb
  obtain ⟨rfl, rfl⟩ := hr
  rw [hb] at h1
  have hv := h1.str_inv
  obtain ⟨k, hk⟩ := toNat?_rep h2 hnn
  refine good_val (v := .int .u8 b.toNat) hi (fun _ h => h.1) ?_ (.int _ _)
  have : (⟨s.toArray⟩ : ByteArray)[n]? = some b := by
   obtain ⟨hlt, he⟩ := List.getElem?_eq_some_iff.1 hsb
   rw [getElem?_pos _ _ (by simpa [ByteArray.size] using hlt)]
   simp [ByteArray.getElem_eq_getElem_data, he]
  simp [execOp, ho, hv, hk, Instr.index, asIntOf, run_underlying' hu, this]
 ·simp at hr
theorem good_ixp {t e : TypeId} {x i : Operand} {x' i' : AOpd} {ei : TypeInfo} {len : Nat} (ho : o.op = .indexAddr t x i) (hx : trOpd gl x = some x') (hii : trOpd gl i = some i') (hu : P.underlying t = some (.array len e)) (hei : P.info? e = some ei)
  (hi : Inv ι S T h w next) (hn : next nid) (henv : EnvRep gl ι S T w env a.tmps) (hr : aop (.ixp len ei.size x' i') env nid h = some (r, h')) : Good P o a w ι S T h (next.but nid) r h' := by
 have h1 := opd_rep henv hx
 have h2 := opd_rep henv hii
 simp only [aop] at hr
 split at hr
 ·rename_i id off n hb hnn
  split at hr <;> simp at hr
  rename_i hlt
  obtain ⟨rfl, rfl⟩ := hr
  rw [hb] at h1
  obtain ⟨L, hv, hL⟩ := h1.ptr_inv
  obtain ⟨k, hk⟩ := toNat?_rep h2 hnn
  have key : (execOp a.eval o).run P w = .ok (.value (.pointer (some ⟨L.block, off + n * ei.size, none⟩))) w := by
   have : (n : Int) < (len : Int) := by omega
   simp [execOp, ho, hv, hk, Instr.indexAt, asIntOf, run_underlying' hu, sizeOf, typeInfo, hei, Addr.add_none, Instr.sureAddr]
   intro hc
   omega
  exact good_val hi (fun _ h => h.1) key (.ptr id (off + n * ei.size) L hL)
 ·simp at hr
theorem good_ixa {t e : TypeId} {x i : Operand} {x' i' : AOpd} {ei : TypeInfo} (ho : o.op = .indexAddr t x i) (hx : trOpd gl x = some x') (hii : trOpd gl i = some i') (hu : P.underlying t = some (.slice e)) (hei : P.info? e = some ei)
  (hi : Inv ι S T h w next) (hn : next nid) (henv : EnvRep gl ι S T w env a.tmps) (hr : aop (.ixa ei.size x' i') env nid h = some (r, h')) : Good P o a w ι S T h (next.but nid) r h' := by
 have h1 := opd_rep henv hx
 have h2 := opd_rep henv hii
 have key : ∀ b off len c k n, a.eval x = .slice (some ⟨b, off, none⟩) len c → a.eval i = .int k (n : Nat) → n < len → (execOp a.eval o).run P w = .ok (.value (.pointer (some ⟨b, off + n * ei.size, none⟩))) w := by
  intro b off len c k n hv hk hlt
  have : (n : Int) < (len : Int) := by omega
  simp [execOp, ho, hv, hk, Instr.indexAt, asIntOf, run_underlying' hu, sizeOf, typeInfo, hei, Addr.add_none]
  omega
 simp only [aop] at hr
 split at hr
 ·rename_i z es clip tmp n hb hnn
  split at hr <;> simp at hr
  rename_i y hy
  obtain ⟨rfl, rfl, rfl⟩ := hr
  rw [hb] at h1
  obtain ⟨b, off, c, sp, vs, hv, hsp, hc, hclip, hS, hsz, hcl, hcell, hrep⟩ := h1.view_inv
  obtain ⟨k, hk⟩ := toNat?_rep h2 hnn
  have hlt := (List.getElem?_eq_some_iff.1 hy).1
  obtain rfl : sp = none := hsp.elim id fun h => by omega
  refine good_val hi (fun _ h => h.1) (key _ _ _ _ _ _ hv hk hlt) (.rptr _ tmp b _ (fun j => vs n j) (fun j u hu => hS n y hy) (fun j u hu' => ?_) (fun j u hu' => hrep n y j u hy hu'))
  exact hcell n y j u hy hu'
 ·rename_i id z off len clip n hb hnn
  split at hr <;> simp at hr
  rename_i hzz
  obtain ⟨rfl, rfl⟩ := hr
  rw [hb] at h1
  obtain ⟨L, c, o', hv, hL, hsz, hc, hcap, hclip, hnc, ho'⟩ := h1.own_inv
  obtain ⟨k, hk⟩ := toNat?_rep h2 hnn
  refine good_val hi (fun _ h => h.1) (key _ _ _ _ _ _ hv hk hzz.2) ?_
  have := Rep.eptr (ι := ι) (S := S) (T := T) (w := w) id (off + n) 0 L hL
  rw [ho' (by omega), ← hzz.1, ← hsz, ← Nat.add_mul]
  exact this
 ·simp at hr
end
end Go.Abs
namespace Go.Abs
section
variable {gl : Globs} {P : Program} {ι : Emb} {S T : Nat → Prop} {w : World} {h h' : Heap} {next : Free} {o : Oper} {a : Act} {env : List AVal} {r : AVal} {nid : Nat} {ts : List TypeId} {op : AOp}
theorem const_cells {v : Value} {c : AVal} (hc : constOf v = some c) : c.cells.length = v.cells.size ∧ (∀ (i : Nat) (x : AVal) (u : Value), c.cells[i]? = some x → v.cells[i]? = some u → Rep ι S T w x u) := by
 unfold constOf at hc
 split at hc
 ·rename_i cs
  cases hl : leafConsts cs.toList with
  | none => simp [hl] at hc
  | some l =>
   simp [hl] at hc
   subst hc
   obtain ⟨h1, h2⟩ := leafConsts_rep hl
   exact ⟨by simpa [AVal.cells, Value.cells] using h1, fun i x u hx hu => leafConst_rep (h2 i x u hx (by simpa [Value.cells] using hu))⟩
 ·rename_i hne
  have hr : Rep ι S T w c v := leafConst_rep hc
  have hv : v.cells = #[v] := by
   cases v <;> simp_all [Value.cells]
  have hcc : c.cells = [c] := by
   unfold leafConst at hc
   split at hc <;> (try simp at hc) <;> (try subst hc) <;> (try rfl)
   all_goals first
    |(obtain ⟨_, rfl⟩ := hc; rfl)
    | simp_all
  rw [hv, hcc]
  refine ⟨rfl, fun i x u hx hu => ?_⟩
  cases i with
  | zero => simp at hx hu; subst hx; subst hu; exact hr
  | succ i => simp at hx
theorem good_build {t : TypeId} {parts : Array (Nat × Operand)} {fields : Array Field} {z : AVal} {ps : List (Nat × Nat × AOpd)} (ho : o.op = .build t parts) (hu : P.underlying t = some (.struct fields)) (hz : tzero P t = some z) (hp : trParts gl P fields parts.toList = some ps)
  (hall : ∀ (i : Nat) (f : Field), fields[i]? = some f → ∃ fi, P.info? f.type = some fi)
  (hi : Inv ι S T h w next) (hn : next nid) (henv : EnvRep gl ι S T w env a.tmps) (hr : aop (.build z.cells ps) env nid h = some (r, h')) : Good P o a w ι S T h (next.but nid) r h' := by
 simp only [aop] at hr
 split at hr <;> simp at hr
 rename_i cs hf
 obtain ⟨rfl, rfl⟩ := hr
 obtain ⟨ti, zv, h1, h2, h3⟩ := tzero_rep hz
 obtain ⟨c1, c2⟩ := const_cells (ι := ι) (S := S) (T := T) (w := w) h3
 have hmap : ∀ l : List Field, (∀ f ∈ l, ∃ fi, P.info? f.type = some fi) → (l.mapM fun (f : Field) => (do pure (f.offset, ← sizeOf f.type) : Sem (Nat × Nat))).run P w = .ok (l.map fun f => (f.offset, ((P.info? f.type).map (·.size)).getD 0)) w := by
  intro l
  induction l with
  | nil => intro _; simp
  | cons f r ih =>
   intro hl
   obtain ⟨fi, hfi⟩ := hl f (by simp)
   have ih' := ih (fun g hg => hl g (by simp [hg]))
   have hone : (do pure (f.offset, ← sizeOf f.type) : Sem (Nat × Nat)).run P w = .ok (f.offset, fi.size) w := by simp [sizeOf, typeInfo, hfi]
   simp only [List.mapM_cons, Sem.run_bind, hone, ih', Result.andThen_ok, Sem.run_pure, List.map_cons, hfi, Option.map_some, Option.getD_some]
 have hm := hmap fields.toList (fun f hf => by
  obtain ⟨i, hi⟩ := List.mem_iff_getElem?.1 hf
  exact hall i f (by simpa using hi))
 have hma : (fields.mapM fun (f : Field) => (do pure (f.offset, ← sizeOf f.type) : Sem (Nat × Nat))).run P w = .ok (fields.map fun f => (f.offset, ((P.info? f.type).map (·.size)).getD 0)) w := by
  rw [Array.mapM_eq_mapM_toList, Sem.run_map, hm]
  simp only [Result.andThen_ok]
  congr 1
  exact Array.ext' (by simp)
 obtain ⟨arr', g1, g2, g3⟩ := fill_sound (P := P) (a := a) (places := fields.map fun f => (f.offset, ((P.info? f.type).map (·.size)).getD 0)) (fields := fields) (fun i f fi hf hfi => by simp [hf, hfi]) henv parts.toList ps z.cells cs zv.cells hp hf c1 c2
 refine good_val (v := .agg arr') hi (fun _ h => h.1) ?_ (.agg _ _ g2 g3)
 have e : (parts.map fun (i, x) => (i, a.eval x)).toList = parts.toList.map fun (i, x) => (i, a.eval x) := by simp
 simp only [execOp, ho, Instr.build, Sem.run_bind, zeroValue, typeInfo, run_program, h1, h2, Result.andThen_ok, Sem.run_pure, run_underlying' hu, hma, e, g1]
theorem good_cvi {s d : TypeId} {x : Operand} {x' : AOpd} {k k0 : IntKind} (ho : o.op = .convert s d x) (hx : trOpd gl x = some x') (hs : P.underlying s = some (.int k0)) (hd : P.underlying d = some (.int k)) (hi : Inv ι S T h w next) (hn : next nid) (henv : EnvRep gl ι S T w env a.tmps)
  (hr : aop (.cvi k x') env nid h = some (r, h')) : Good P o a w ι S T h (next.but nid) r h' := by
 have h1 := opd_rep henv hx
 simp only [aop] at hr
 split at hr <;> simp at hr
 rename_i hb
 obtain ⟨rfl, rfl⟩ := hr
 rw [hb] at h1
 exact good_val hi (fun _ h => h.1) (by simp [execOp, ho, h1.int_inv, convert, run_underlying' hs, run_underlying' hd, Conv.intToInt]) (.int _ _)
theorem good_cvs {s d : TypeId} {x : Operand} {x' : AOpd} (ho : o.op = .convert s d x) (hx : trOpd gl x = some x') (hs : P.underlying s = some .string) (hd : P.underlying d = some .string) (hi : Inv ι S T h w next) (hn : next nid) (henv : EnvRep gl ι S T w env a.tmps)
  (hr : aop (.cvs x') env nid h = some (r, h')) : Good P o a w ι S T h (next.but nid) r h' := by
 have h1 := opd_rep henv hx
 simp only [aop] at hr
 split at hr <;> simp at hr
 rename_i hb
 obtain ⟨rfl, rfl⟩ := hr
 rw [hb] at h1
 exact good_val hi (fun _ h => h.1) (by simp [execOp, ho, h1.str_inv, convert, run_underlying' hs, run_underlying' hd]) (.str _)
theorem Shows.slice {v : Value} {es : List AVal} (h : Shows ι S T w v es) : ∃ x c, v = .slice x es.length c := by
 cases h
 ·exact ⟨none, 0, rfl⟩
 ·exact ⟨_, _, rfl⟩
 ·exact ⟨_, _, rfl⟩
theorem good_cvbs {s d e : TypeId} {x : Operand} {x' : AOpd} (ho : o.op = .convert s d x) (hx : trOpd gl x = some x') (hs : P.underlying s = some (.slice e)) (he : P.underlying e = some (.int .u8)) (hd : P.underlying d = some .string) (hi : Inv ι S T h w next) (hn : next nid) (henv : EnvRep gl ι S T w env a.tmps)
  (hr : aop (.cvbs x') env nid h = some (r, h')) : Good P o a w ι S T h (next.but nid) r h' := by
 have h1 := opd_rep henv hx
 simp only [aop] at hr
 split at hr <;> simp at hr
 rename_i l hb
 obtain ⟨rfl, rfl⟩ := hr
 simp only [Option.bind_eq_some_iff] at hb
 obtain ⟨es, hes, hl⟩ := hb
 have hsh := elems_sound hi h1 hes
 obtain ⟨ad, c, hv⟩ := hsh.slice
 have hp := bytesToString_sound (P := P) hsh hl
 refine good_pure hi (fun _ h => h.1) (fun v hv' => ?_) hp
 have := run_convert_bytes_string (P := P) w s d e ad es.length c hs he hd
 rw [hv] at hv'
 simp only [execOp, ho, hv, Sem.run_bind, this, hv', Result.andThen_ok, Sem.run_pure]
theorem good_mkif {t : TypeId} {d : TypeDesc} {x : Operand} {x' : AOpd} (ho : o.op = .makeInterface t x) (hx : trOpd gl x = some x') (hs : P.underlying t = some d) (hd : ∀ ms, d ≠ .interface ms) (hi : Inv ι S T h w next) (hn : next nid) (henv : EnvRep gl ι S T w env a.tmps)
  (hr : aop (.mkif t x') env nid h = some (r, h')) : Good P o a w ι S T h (next.but nid) r h' := by
 have h1 := opd_rep henv hx
 have key : (execOp a.eval o).run P w = .ok (.value (.iface t (a.eval x))) w := by
  cases d <;> first | exact absurd rfl (hd _) | simp [execOp, ho, Instr.makeInterface, run_underlying' hs]
 simp only [aop] at hr
 split at hr <;> simp at hr
 obtain ⟨rfl, rfl⟩ := hr
 exact good_val hi (fun _ h => h.1) key (.iface _ _ _ h1)
theorem good_tass {t xt : TypeId} {d : TypeDesc} {ok : Bool} {x : Operand} {x' : AOpd} {z : AVal} (ho : o.op = .typeAssert x xt t ok) (hx : trOpd gl x = some x') (hs : P.underlying t = some d) (hd : ∀ ms, d ≠ .interface ms) (hz : tzero P t = some z) (hi : Inv ι S T h w next) (hn : next nid) (henv : EnvRep gl ι S T w env a.tmps)
  (hr : aop (.tass t ok z x') env nid h = some (r, h')) : Good P o a w ι S T h (next.but nid) r h' := by
 have h1 := opd_rep henv hx
 obtain ⟨ti, zv, z1, z2, z3⟩ := tzero_rep hz
 have hzr : Rep ι S T w z zv := constOf_rep z3
 have two : ∀ (x y : AVal) (u v : Value), Rep ι S T w x u → Rep ι S T w y v → Rep ι S T w (.tuple [x, y]) (.tuple #[u, v]) := by
  intro x y u v hx hy
  refine .tuple _ _ rfl fun i c v' hc hv => ?_
  match i with
  | 0 => simp at hc hv; subst hc; subst hv; exact hx
  | 1 => simp at hc hv; subst hc; subst hv; exact hy
  | n + 2 => simp at hc
 simp only [aop] at hr
 split at hr
 ·rename_i u v hb
  rw [hb] at h1
  obtain ⟨vv, hv, hrv⟩ := h1.iface_inv
  split at hr
  ·rename_i hut
   subst hut
   simp at hr
   obtain ⟨rfl, rfl⟩ := hr
   cases ok
   ·refine good_val (v := vv) hi (fun _ h => h.1) ?_ hrv
    cases d <;> first | exact absurd rfl (hd _) | simp [execOp, ho, hv, Instr.typeAssert, run_underlying' hs]
   ·refine good_val (v := .tuple #[vv, .bool true]) hi (fun _ h => h.1) ?_ (two _ _ _ _ hrv (.bool true))
    cases d <;> first | exact absurd rfl (hd _) | simp [execOp, ho, hv, Instr.typeAssert, run_underlying' hs]
  ·rename_i hut
   split at hr <;> simp at hr
   rename_i hok
   subst hok
   obtain ⟨rfl, rfl⟩ := hr
   refine good_val (v := .tuple #[zv, .bool false]) hi (fun _ h => h.1) ?_ (two _ _ _ _ hzr (.bool false))
   cases d <;> first | exact absurd rfl (hd _) | simp [execOp, ho, hv, Instr.typeAssert, run_underlying' hs, zeroValue, typeInfo, z1, z2, hut]
 ·rename_i hb
  split at hr <;> simp at hr
  rename_i hok
  subst hok
  obtain ⟨rfl, rfl⟩ := hr
  rw [hb] at h1
  have hv := h1.lit_inv
  refine good_val (v := .tuple #[zv, .bool false]) hi (fun _ h => h.1) ?_ (two _ _ _ _ hzr (.bool false))
  cases d <;> first | exact absurd rfl (hd _) | simp [execOp, ho, hv, Instr.typeAssert, run_underlying' hs, zeroValue, typeInfo, z1, z2]
 ·simp at hr
theorem good_ld {t : TypeId} {sz : Nat} {agg : Bool} {x : Operand} {x' : AOpd} (ho : o.op = .load t x) (hx : trOpd gl x = some x') (ht : tsz P t = some (sz, agg)) (hi : Inv ι S T h w next) (hn : next nid) (henv : EnvRep gl ι S T w env a.tmps)
  (hr : aop (.ld sz agg x') env nid h = some (r, h')) : Good P o a w ι S T h (next.but nid) r h' := by
 have h1 := opd_rep henv hx
 have key : ∀ b off v, a.eval x = .pointer (some ⟨b, off, none⟩) → (loadVar t ⟨b, off, none⟩).run P w = .ok v w → (execOp a.eval o).run P w = .ok (.value v) w := by
  intro b off v hv hl
  simp [execOp, ho, hv, Instr.loadAt, Instr.sureAddr, hl]
 simp only [aop] at hr
 split at hr
 ·rename_i cs tmp hb
  simp at hr
  obtain ⟨c, hc, rfl, rfl⟩ := hr
  rw [hb] at h1
  obtain ⟨b, off, vs, hv, hS, hcell, hrep⟩ := h1.rptr_inv
  have hp := load_sound (P := P) (b := b) (o := off) ht hc (fun j y hy => ⟨_, hcell j y hy, hrep j y hy⟩)
  rw [Nat.add_zero] at hp
  exact good_pure hi (fun _ h => h.1) (fun v hv' => key _ _ _ hv hv') hp
 ·rename_i id off hb
  split at hr <;> simp at hr
  rename_i cs hg
  obtain ⟨c, hc, rfl, rfl⟩ := hr
  rw [hb] at h1
  obtain ⟨L, hv, hL⟩ := h1.ptr_inv
  obtain ⟨L', hL', _, _, hnode⟩ := hi.get hg
  rw [hL] at hL'; cases hL'
  obtain ⟨arr, ty, n1, n2, n3⟩ := hnode
  have hp := load_sound (P := P) (b := L.block) (o := 0) ht hc (fun j y hy => by
   have hlt : j < arr.size := by have := (List.getElem?_eq_some_iff.1 hy).1; omega
   refine ⟨arr[j], ?_, n3 j y _ hy (by simp [hlt])⟩
   rw [Nat.zero_add, cell_of_row w _ _ arr ty (0, 0) n1]
   simp [hlt])
  rw [Nat.zero_add] at hp
  exact good_pure hi (fun _ h => h.1) (fun v hv' => key _ _ _ hv hv') hp
 ·rename_i id i off hb
  split at hr <;> try (simp at hr; done)
  rename_i es sz' hg
  split at hr <;> simp at hr
  rename_i e he
  obtain ⟨c, hc, rfl, rfl⟩ := hr
  rw [hb] at h1
  obtain ⟨L, hv, hL⟩ := h1.eptr_inv
  obtain ⟨L', hL', _, _, hnode⟩ := hi.get hg
  rw [hL] at hL'; cases hL'
  obtain ⟨r1, r2, r3⟩ := row_cell hnode he
  have hsz : L.sz = sz' := hnode.1
  have hp := load_sound (P := P) (b := L.block) (o := i * sz') ht hc r3
  rw [hsz] at hv
  exact good_pure hi (fun _ h => h.1) (fun v hv' => key _ _ _ hv hv') hp
 ·simp at hr
theorem good_slc {t e : TypeId} {i : TypeInfo} {x : Operand} {lo hi' mx : Option Operand} {x' : AOpd} {lo' hi'' mx' : Option AOpd} (ho : o.op = .slice t x lo hi' mx) (hx : trOpd gl x = some x') (hlo : oneOpt (trOpd gl) lo = some lo') (hhi : oneOpt (trOpd gl) hi' = some hi'') (hmx : oneOpt (trOpd gl) mx = some mx')
  (hu : P.underlying t = some (.slice e)) (hinf : P.info? e = some i) (hm : ¬ (mx'.isSome = true ∧ hi''.isNone = true)) (hi : Inv ι S T h w next) (hn : next nid) (henv : EnvRep gl ι S T w env a.tmps)
  (hr : aop (.slc i.size x' lo' hi'' mx') env nid h = some (r, h')) : Good P o a w ι S T h (next.but nid) r h' := by
 have h1 := opd_rep henv hx
 have o1 := (opts_rep henv hlo).1
 have o2 := (opts_rep henv hhi).1
 have o3 := (opts_rep henv hmx).1
 simp only [aop] at hr
 split at hr
 ·simp at hr
 rename_i hns
 simp only [Option.map_eq_some_iff] at hr
 obtain ⟨c, hc, hr⟩ := hr
 simp at hr
 obtain ⟨rfl, rfl⟩ := hr
 have hp := aSlice_sound (P := P) hu hinf h1 o1 o2 o3 (by cases mx' <;> cases hi'' <;> simp_all) hns hc
 refine good_pure hi (fun _ h => h.1) (fun v hv => ?_) hp
 simp only [execOp, ho, Instr.sliceAt, Sem.run_bind, run_underlying' hu, Result.andThen_ok, hv, Sem.run_pure]
theorem good_slct {t : TypeId} {x : Operand} {lo hi' : Option Operand} {x' : AOpd} {lo' hi'' : Option AOpd} (ho : o.op = .slice t x lo hi' none) (hx : trOpd gl x = some x') (hlo : oneOpt (trOpd gl) lo = some lo') (hhi : oneOpt (trOpd gl) hi' = some hi'')
  (hu : P.underlying t = some .string) (hi : Inv ι S T h w next) (hn : next nid) (henv : EnvRep gl ι S T w env a.tmps)
  (hr : aop (.slct x' lo' hi'') env nid h = some (r, h')) : Good P o a w ι S T h (next.but nid) r h' := by
 have h1 := opd_rep henv hx
 have o1 := (opts_rep henv hlo).1
 have o2 := (opts_rep henv hhi).1
 simp only [aop] at hr
 split at hr
 ·rename_i s hs
  simp only [Option.map_eq_some_iff] at hr
  obtain ⟨c, hc, hr⟩ := hr
  simp at hr
  obtain ⟨rfl, rfl⟩ := hr
  rw [hs] at h1
  have hp := aSlice_text (P := P) hu h1 o1 o2 hc ⟨s, rfl⟩
  refine good_pure hi (fun _ h => h.1) (fun v hv => ?_) hp
  simp only [execOp, ho, Instr.sliceAt, Sem.run_bind, run_underlying' hu, Result.andThen_ok, hv, Sem.run_pure, Option.map_none]
 ·simp at hr
theorem good_minmax {mx : Bool} {x y : Operand} {ats : Array TypeId} {x' y' : AOpd} (ho : o.op = .call { callee := .builtin (if mx then .max else .min), args := #[x, y], argTypes := ats }) (hx : trOpd gl x = some x') (hy : trOpd gl y = some y') (hi : Inv ι S T h w next) (hn : next nid) (henv : EnvRep gl ι S T w env a.tmps)
  (hr : aop (.minmax mx x' y') env nid h = some (r, h')) : Good P o a w ι S T h (next.but nid) r h' := by
 have h1 := opd_rep henv hx
 have h2 := opd_rep henv hy
 simp only [aop] at hr
 split at hr
 ·rename_i k p k' q hb1 hb2
  simp at hr
  obtain ⟨rfl, rfl⟩ := hr
  rw [hb1] at h1
  rw [hb2] at h2
  refine good_val hi (fun _ h => h.1) ?_ (.int _ _)
  cases mx <;> simp [execOp, ho, resolve, invoke, builtin, h1.int_inv, h2.int_inv, Builtin.max_, Builtin.min_, Builtin.max2, Builtin.min2]
 ·simp at hr
theorem good_len {x : Operand} {t : TypeId} {ats : Array TypeId} {x' : AOpd} {d : TypeDesc} {k : Nat} (ho : o.op = .call { callee := .builtin .len, args := #[x], argTypes := ats }) (hat : ats[0]? = some t) (hx : trOpd gl x = some x') (hu : P.underlying t = some d)
  (hd : (k = 0 ∧ d = .string) ∨ (k = 1 ∧ ∃ e, d = .slice e) ∨ (k = 2 ∧ ∃ e v, d = .map e v))
  (hi : Inv ι S T h w next) (hn : next nid) (henv : EnvRep gl ι S T w env a.tmps)
  (hr : aop (.len k x') env nid h = some (r, h')) : Good P o a w ι S T h (next.but nid) r h' := by
 have h1 := opd_rep henv hx
 rcases hd with ⟨rfl, rfl⟩ | ⟨rfl, e, rfl⟩ | ⟨rfl, e, v, rfl⟩
 ·simp only [aop] at hr
  split at hr <;> simp at hr
  rename_i hb
  obtain ⟨rfl, rfl⟩ := hr
  rw [hb] at h1
  rename_i l
  have hv := h1.str_inv
  have hsz : (⟨l.toArray⟩ : ByteArray).size = l.length := by simp [ByteArray.size]
  generalize (⟨l.toArray⟩ : ByteArray) = q at hv hsz
  exact good_val hi (fun _ h => h.1) (by simp [execOp, ho, resolve, invoke, builtin, hv, Builtin.len_, hat, run_underlying' hu, goInt, hsz]) (.int _ _)
 ·simp only [aop] at hr
  split at hr <;> simp at hr
  all_goals
   rename_i hb
   obtain ⟨rfl, rfl⟩ := hr
   rw [hb] at h1
  ·obtain ⟨_, _, _, _, _, hv, _⟩ := h1.view_inv
   exact good_val hi (fun _ h => h.1) (by simp [execOp, ho, resolve, invoke, builtin, hv, Builtin.len_, hat, run_underlying' hu, goInt]) (.int _ _)
  ·obtain ⟨_, _, _, hv, _⟩ := h1.own_inv
   exact good_val hi (fun _ h => h.1) (by simp [execOp, ho, resolve, invoke, builtin, hv, Builtin.len_, hat, run_underlying' hu, goInt]) (.int _ _)
  ·exact good_val hi (fun _ h => h.1) (by simp [execOp, ho, resolve, invoke, builtin, h1.lit_inv, Builtin.len_, hat, run_underlying' hu, goInt]) (.int _ _)
 ·simp only [aop] at hr
  split at hr <;> try (simp at hr; done)
  rename_i id hb
  split at hr <;> simp at hr
  rename_i es hg
  obtain ⟨rfl, rfl⟩ := hr
  rw [hb] at h1
  obtain ⟨L, hv, hL⟩ := h1.mapr_inv
  obtain ⟨L', hL', _, _, hnode⟩ := hi.get hg
  rw [hL] at hL'; cases hL'
  obtain ⟨mes, clock, n1, n2, n3⟩ := hnode
  exact good_val hi (fun _ h => h.1) (by simp [execOp, ho, resolve, invoke, builtin, hv, Builtin.len_, hat, run_underlying' hu, goInt, getObj, Sem.run, n1, n2]) (.int _ _)
theorem good_mkfn {fn : Fn} {first captured : Array Operand} {cs : List AOpd} (ho : o.op = .makeFunc fn first captured) (hf : first.size = 0) (hc : trOpds gl captured.toList = some cs)
  (hi : Inv ι S T h w next) (hn : next nid) (henv : EnvRep gl ι S T w env a.tmps)
  (hr : aop (.mkfn fn cs) env nid h = some (r, h')) : Good P o a w ι S T h (next.but nid) r h' := by
 simp [aop] at hr
 obtain ⟨rfl, rfl⟩ := hr
 have : first = #[] := Array.eq_empty_of_size_eq_zero hf
 subst this
 obtain ⟨h1, h2⟩ := opds_rep henv hc
 refine good_val (v := .func fn #[] (captured.map a.eval)) hi (fun _ h => h.1) (by simp [execOp, ho, Instr.makeFunc]) (.func _ _ _ (by simpa using h1) fun i c v hc hv => h2 i c v hc (by simpa using hv))
def KindOf (kk : Nat) (kt : TypeDesc) : Prop := (kk = 0 ∧ kt = .string) ∨ (kk = 1 ∧ ∃ k, kt = .int k) ∨ (kk = 2 ∧ kt = .bool)
theorem text_beq (a b : List UInt8) : ((⟨a.toArray⟩ : ByteArray) == ⟨b.toArray⟩) = (a == b) := by
 rw [Bool.eq_iff_iff]
 constructor
 ·intro h
  have : (a.toArray == b.toArray) = true := h
  simpa using this
 ·intro h
  show (a.toArray == b.toArray) = true
  simpa using h
theorem keyEq_sound {kk : Nat} {kt : TypeDesc} (hkt : KindOf kk kt) {k k' : AVal} {v v' : Value} {b : Bool} (hok : keyOk kk k = true) (hk : Rep ι S T w k v) (hk' : Rep ι S T w k' v') (he : keyEq k k' = some b) : Instr.sameNow kt v v' = some b := by
 unfold keyEq at he
 rcases hkt with ⟨rfl, rfl⟩ | ⟨rfl, q, rfl⟩ | ⟨rfl, rfl⟩
 all_goals split at he <;> simp [keyOk] at hok he
 ·rw [hk.str_inv, hk'.str_inv]; simp [Instr.sameNow, text_beq, he]
 ·rw [hk.int_inv, hk'.int_inv]; simp [Instr.sameNow, he]
 ·rw [hk.bool_inv, hk'.bool_inv]; simp [Instr.sameNow, he]
theorem findKey_sound {kk : Nat} {kt : TypeDesc} (hkt : KindOf kk kt) {k : AVal} {kv : Value} (hok : keyOk kk k = true) (hk : Rep ι S T w k kv) : ∀ (es : List (AVal × AVal)) (mes : List MapEntry) (n : Nat) (q : Option (Nat × AVal)),
  es.length = mes.length → (∀ (i : Nat) (x y : AVal), es[i]? = some (x, y) → ∃ me, mes[i]? = some me ∧ Rep ι S T w x me.key ∧ Rep ι S T w y me.val) → findKey k es n = some q →
  (q = none ∧ Instr.findNow kt kv mes n = some none) ∨ ∃ i x y me, q = some (n + i, y) ∧ mes[i]? = some me ∧ es[i]? = some (x, y) ∧ Rep ι S T w y me.val ∧ keyEq k x = some true ∧ Instr.findNow kt kv mes n = some (some (n + i, me.val)) := by
 intro es
 induction es with
 | nil =>
  intro mes n q hl _ hf
  simp [findKey] at hf
  have : mes = [] := List.eq_nil_of_length_eq_zero hl.symm
  subst this
  exact .inl ⟨hf.symm, rfl⟩
 | cons e r ih =>
  obtain ⟨k', y⟩ := e
  intro mes n q hl hh hf
  cases mes with
  | nil => simp at hl
  | cons me mr =>
   obtain ⟨me', h1, h2, h3⟩ := hh 0 k' y rfl
   simp at h1; subst h1
   simp only [findKey] at hf
   split at hf
   ·rename_i hke
    simp at hf
    subst hf
    exact .inr ⟨0, k', y, me, by simp, rfl, rfl, h3, hke, by simp [Instr.findNow, keyEq_sound hkt hok hk h2 hke]⟩
   ·rename_i hke
    have hs := keyEq_sound hkt hok hk h2 hke
    rcases ih mr (n + 1) q (by simpa using hl) (fun i x y hxy => hh (i + 1) x y (by simpa using hxy)) hf with ⟨a1, a2⟩ | ⟨i, x, y', me', a1, a2, a3, a4, a5, a6⟩
    ·exact .inl ⟨a1, by simp [Instr.findNow, hs, a2]⟩
    ·exact .inr ⟨i + 1, x, y', me', by rw [a1]; simp; omega, by simpa using a2, by simpa using a3, a4, a5, by simp [Instr.findNow, hs, a6]; omega⟩
   ·simp at hf
theorem checkKey_run {kk : Nat} {kt : TypeDesc} {t : TypeId} (hkt : KindOf kk kt) (hu : P.underlying t = some kt) (e : Bool) (n : Nat) (v : Value) : (Instr.checkKey e (n + 1) t v).run P w = .ok () w := by
 rcases hkt with ⟨rfl, rfl⟩ | ⟨rfl, q, rfl⟩ | ⟨rfl, rfl⟩ <;> simp [Instr.checkKey, run_underlying' hu]
theorem good_look {t kt0 et : TypeId} {kt : TypeDesc} {kk : Nat} {ok : Bool} {m k : Operand} {m' k' : AOpd} {z : AVal} (ho : o.op = .lookup t m k ok) (hm : trOpd gl m = some m') (hk : trOpd gl k = some k') (hu : P.underlying t = some (.map kt0 et)) (hkt : KindOf kk kt) (hku : P.underlying kt0 = some kt) (hz : tzero P et = some z)
  (hi : Inv ι S T h w next) (hn : next nid) (henv : EnvRep gl ι S T w env a.tmps)
  (hr : aop (.look kk z m' k' ok) env nid h = some (r, h')) : Good P o a w ι S T h (next.but nid) r h' := by
 have h1 := opd_rep henv hm
 have h2 := opd_rep henv hk
 obtain ⟨ti, zv, z1, z2, z3⟩ := tzero_rep hz
 have hzr : Rep ι S T w z zv := constOf_rep z3
 have two : ∀ (x y : AVal) (u v : Value), Rep ι S T w x u → Rep ι S T w y v → Rep ι S T w (.tuple [x, y]) (.tuple #[u, v]) := by
  intro x y u v hx hy
  refine .tuple _ _ rfl fun i c v' hc hv => ?_
  match i with
  | 0 => simp at hc hv; subst hc; subst hv; exact hx
  | 1 => simp at hc hv; subst hc; subst hv; exact hy
  | n + 2 => simp at hc
 simp only [aop] at hr
 split at hr <;> try (simp at hr; done)
 rename_i hok
 split at hr <;> try (simp at hr; done)
 rename_i id hb
 split at hr <;> try (simp at hr; done)
 rename_i es hg
 rw [hb] at h1
 obtain ⟨L, hv, hL⟩ := h1.mapr_inv
 obtain ⟨L', hL', _, _, hnode⟩ := hi.get hg
 rw [hL] at hL'; cases hL'
 obtain ⟨mes, clock, n1, n2, n3⟩ := hnode
 have hck := checkKey_run (P := P) (w := w) (e := mes.isEmpty) (n := 9999) hkt hku (a.eval k)
 have fk := findKey_sound hkt hok h2 es mes.toList 0
 split at hr <;> try (simp at hr; done)
 ·rename_i i y hf
  simp at hr
  obtain ⟨rfl, rfl⟩ := hr
  rcases fk _ (by simpa using n2) (fun i x y hxy => by obtain ⟨me, b1, b2, b3, _⟩ := n3 i x y hxy; exact ⟨me, by simpa using b1, b2, b3⟩) hf with ⟨c1, _⟩ | ⟨i', x, y', me, c1, c2, c3, c4, c5, c6⟩
  ·simp at c1
  ·simp at c1
   obtain ⟨_, rfl⟩ := c1
   refine good_val (v := if ok then .tuple #[me.val, .bool true] else me.val) hi (fun _ h => h.1) ?_ ?_
   ·simp [execOp, ho, hv, Instr.lookup, run_underlying' hu, getObj, Sem.run, n1, hck, Instr.findKey, run_underlying' hku, c6]
   ·cases ok
    ·exact c4
    ·exact two _ _ _ _ c4 (.bool true)
 ·rename_i hf
  simp at hr
  obtain ⟨rfl, rfl⟩ := hr
  rcases fk _ (by simpa using n2) (fun i x y hxy => by obtain ⟨me, b1, b2, b3, _⟩ := n3 i x y hxy; exact ⟨me, by simpa using b1, b2, b3⟩) hf with ⟨_, c1⟩ | ⟨i', x, y', me, c1, _⟩
  ·refine good_val (v := if ok then .tuple #[zv, .bool false] else zv) hi (fun _ h => h.1) ?_ ?_
   ·simp [execOp, ho, hv, Instr.lookup, run_underlying' hu, getObj, Sem.run, n1, hck, Instr.findKey, run_underlying' hku, c1, zeroValue, typeInfo, z1, z2]
   ·cases ok
    ·exact hzr
    ·exact two _ _ _ _ hzr (.bool false)
  ·simp at c1
end
end Go.Abs
namespace Go.Abs
theorem Heap.keys_put (h : Heap) (id : Nat) (n : Node) : (h.put id n).map (·.1) = h.map (·.1) := by
 induction h with
 | nil => rfl
 | cons e r ih =>
  obtain ⟨k, m⟩ := e
  simp only [Heap.put]
  split <;> simp_all
theorem Heap.mem_put {h : Heap} (hd : (h.map (·.1)).Nodup) {id k : Nat} {n m : Node} (hm : (k, m) ∈ h.put id n) : (k = id ∧ m = n) ∨ (k ≠ id ∧ (k, m) ∈ h) := by
 induction h with
 | nil => simp [Heap.put] at hm
 | cons e r ih =>
  obtain ⟨j, q⟩ := e
  simp at hd
  simp only [Heap.put] at hm
  split at hm
  ·rename_i hj
   subst hj
   rcases List.mem_cons.1 hm with he | he
   ·simp at he; exact .inl he
   ·refine .inr ⟨?_, List.mem_cons_of_mem _ he⟩
    rintro rfl
    exact hd.1 _ he
  ·rename_i hj
   rcases List.mem_cons.1 hm with he | he
   ·simp at he
    obtain ⟨rfl, rfl⟩ := he
    exact .inr ⟨hj, by simp⟩
   ·rcases ih hd.2 he with h1 | ⟨h1, h2⟩
    ·exact .inl h1
    ·exact .inr ⟨h1, List.mem_cons_of_mem _ h2⟩
theorem Heap.mem_del {h : Heap} (hd : (h.map (·.1)).Nodup) {id k : Nat} {m : Node} (hm : (k, m) ∈ h.del id) : k ≠ id ∧ (k, m) ∈ h := by
 induction h with
 | nil => simp [Heap.del] at hm
 | cons e r ih =>
  obtain ⟨j, q⟩ := e
  simp at hd
  simp only [Heap.del] at hm
  split at hm
  ·rename_i hj
   subst hj
   refine ⟨?_, List.mem_cons_of_mem _ hm⟩
   rintro rfl
   exact hd.1 _ hm
  ·rename_i hj
   rcases List.mem_cons.1 hm with he | he
   ·simp at he
    obtain ⟨rfl, rfl⟩ := he
    exact ⟨hj, by simp⟩
   ·obtain ⟨h1, h2⟩ := ih hd.2 he
    exact ⟨h1, List.mem_cons_of_mem _ h2⟩
theorem Heap.keys_del {h : Heap} {id : Nat} : ((h.del id).map (·.1)).Sublist (h.map (·.1)) := by
 induction h with
 | nil => simp [Heap.del]
 | cons e r ih =>
  obtain ⟨j, q⟩ := e
  simp only [Heap.del]
  split
  ·simp
  ·simpa using ih
section
variable {gl : Globs} {P : Program} {ι : Emb} {S T : Nat → Prop} {w w' : World} {h : Heap} {next : Free} {nid : Nat}
theorem Inv.keep {ι' : Emb} {S' : Nat → Prop} (hi : Inv ι S T h w next) (hι : ∀ id L, ι id = some L → ι' id = some L) (hS : ∀ b, S b → S' b) {id : Nat} {n : Node} {L : Loc} (hm : (id, n) ∈ h) (hL : ι id = some L)
  (hst : ∀ b, S b ∨ T b → w'.heap[b]? = w.heap[b]?) (hb : w'.heap[L.block]? = w.heap[L.block]?) : ∃ L, ι' id = some L ∧ ¬ S L.block ∧ ¬ T L.block ∧ NodeRep ι' S' T w' L n := by
 obtain ⟨L', h1, h2, h3, h4⟩ := hi.node id n hm
 rw [hL] at h1; cases h1
 exact ⟨L, hι _ _ hL, h2, h3, h4.mono hι hS (fun _ h => h) hst hb⟩
theorem Inv.block_lt (hi : Inv ι S T h w next) {id : Nat} {n : Node} {L : Loc} (hm : (id, n) ∈ h) (hL : ι id = some L) : L.block < w.heap.size := by
 obtain ⟨L', h1, _, _, h4⟩ := hi.node id n hm
 rw [hL] at h1; cases h1
 have key : ∀ x, w.heap[L.block]? = some x → L.block < w.heap.size := fun x hx => (Array.getElem?_eq_some_iff.1 hx).1
 cases n with
 | var cs => obtain ⟨_, _, h, _⟩ := h4; exact key _ h
 | row es sz => obtain ⟨_, _, _, _, _, _, h, _⟩ := h4; exact key _ h
 | map es => obtain ⟨_, _, h, _⟩ := h4; exact key _ h
 | iter l pos => exact key _ h4
theorem Inv.new (hi : Inv ι S T h w next) (hn : next nid) (ob : Obj) (L : Loc) (n : Node) (hb : L.block = w.heap.size) (hw : w'.heap = w.heap.push ob) (hos : w'.os = w.os) (htape : w'.tape = w.tape) (hout : w'.output = w.output)
  (hnode : ∀ ι', (∀ id L, ι id = some L → ι' id = some L) → ι' nid = some L → (∀ x v, Rep ι S T w x v → Rep ι' S T w' x v) → NodeRep ι' S T w' L n) :
  ∃ ι', ι' nid = some L ∧ Inv ι' S T (h ++ [(nid, n)]) w' (next.but nid) ∧ Step ι S T h w ι' S (h ++ [(nid, n)]) w' := by
 let ι' : Emb := fun i => if i = nid then some L else ι i
 have hfr : ι nid = none := hi.fresh nid hn
 have hι : ∀ id L, ι id = some L → ι' id = some L := by
  intro id L' hL'
  have : id ≠ nid := by rintro rfl; rw [hfr] at hL'; cases hL'
  simp [ι', this, hL']
 have hold : ∀ b, b < w.heap.size → w'.heap[b]? = w.heap[b]? := by
  intro b hb
  rw [hw, Array.getElem?_push, if_neg (by omega)]
 have hst : ∀ b, S b ∨ T b → w'.heap[b]? = w.heap[b]? := fun b hb => hold b (hb.elim (hi.s_lt b) (hi.t_lt b))
 have hself : ι' nid = some L := by simp [ι']
 have hsz : w.heap.size ≤ w'.heap.size := by rw [hw]; simp
 refine ⟨ι', hself, ⟨?_, ?_, ?_, ?_, ?_, ?_⟩, ⟨hι, fun _ h => h, fun b hb _ => hold b hb, hsz, ?_, fun b hb => .inl hb, hos, htape, hout⟩⟩
 ·rw [List.map_append, List.nodup_append]
  refine ⟨hi.nodup, by simp, ?_⟩
  intro x hx y hy
  simp at hy
  subst hy
  rintro rfl
  obtain ⟨⟨k, m⟩, hm, rfl⟩ := List.mem_map.1 hx
  obtain ⟨L', hL', _⟩ := hi.node _ _ hm
  rw [hfr] at hL'; cases hL'
 ·intro id m hm
  rcases List.mem_append.1 hm with hm | hm
  ·obtain ⟨L', hL', _⟩ := hi.node _ _ hm
   exact hi.keep hι (fun _ h => h) hm hL' hst (hold _ (hi.block_lt hm hL'))
  ·simp at hm
   obtain ⟨rfl, rfl⟩ := hm
   refine ⟨L, hself, fun hs => ?_, fun ht => ?_, hnode ι' hι hself fun x v hr => hr.mono hι (fun _ h => h) (fun _ h => h) hst⟩
   ·have := hi.s_lt _ hs; omega
   ·have := hi.t_lt _ ht; omega
 ·intro id1 n1 id2 n2 L1 L2 hm1 hm2 hL1 hL2 hbl
  have own : ∀ id m, (id, m) ∈ h → id ≠ nid ∧ ∃ L', ι id = some L' ∧ L'.block < w.heap.size := by
   intro id m hm
   obtain ⟨L', hL', _⟩ := hi.node _ _ hm
   exact ⟨(by rintro rfl; rw [hfr] at hL'; cases hL'), L', hL', hi.block_lt hm hL'⟩
  rcases List.mem_append.1 hm1 with q1 | q1 <;> rcases List.mem_append.1 hm2 with q2 | q2 <;> clear hm1 hm2
  ·obtain ⟨a1, L1', b1, c1⟩ := own _ _ q1
   obtain ⟨a2, L2', b2, c2⟩ := own _ _ q2
   simp [ι', a1] at hL1
   simp [ι', a2] at hL2
   exact hi.inj _ _ _ _ _ _ q1 q2 hL1 hL2 hbl
  ·simp at q2
   obtain ⟨rfl, rfl⟩ := q2
   obtain ⟨a1, L1', b1, c1⟩ := own _ _ q1
   simp [ι', a1] at hL1
   rw [b1] at hL1; cases hL1
   rw [hself] at hL2; cases hL2
   omega
  ·simp at q1
   obtain ⟨rfl, rfl⟩ := q1
   obtain ⟨a1, L1', b1, c1⟩ := own _ _ q2
   simp [ι', a1] at hL2
   rw [b1] at hL2; cases hL2
   rw [hself] at hL1; cases hL1
   omega
  ·simp at q1 q2
   rw [q1.1, q2.1]
 ·intro id hid
  have : id ≠ nid := hid.2
  simp [ι', this]
  exact hi.fresh id hid.1
 ·intro b hb
  exact Nat.lt_of_lt_of_le (hi.s_lt b hb) hsz
 ·intro b hb
  exact Nat.lt_of_lt_of_le (hi.t_lt b hb) hsz
 ·rintro b ⟨e, he, L', hL', rfl⟩
  rcases List.mem_append.1 he with he | he
  ·obtain ⟨L'', hL'', _⟩ := hi.node _ _ (show (e.1, e.2) ∈ h from he)
   have := hι _ _ hL''
   rw [hL'] at this; cases this
   exact .inr ⟨e, he, L', hL'', rfl⟩
  ·simp at he
   subst he
   rw [hself] at hL'; cases hL'
   exact .inl (by omega)
theorem Inv.set (hi : Inv ι S T h w next) {id : Nat} {n0 n : Node} {L : Loc} (hm0 : (id, n0) ∈ h) (hL : ι id = some L) (hw : ∀ b, b ≠ L.block → w'.heap[b]? = w.heap[b]?) (hsz : w'.heap.size = w.heap.size) (hos : w'.os = w.os) (htape : w'.tape = w.tape) (hout : w'.output = w.output)
  (hn : (∀ x v, Rep ι S T w x v → Rep ι S T w' x v) → NodeRep ι S T w' L n) : Inv ι S T (h.put id n) w' next ∧ Step ι S T h w ι S (h.put id n) w' := by
 obtain ⟨L0, g1, g2, g3, _⟩ := hi.node id n0 hm0
 rw [hL] at g1; cases g1
 have hst : ∀ b, S b ∨ T b → w'.heap[b]? = w.heap[b]? := fun b hb => hw b (by rintro rfl; exact hb.elim g2 g3)
 refine ⟨⟨?_, ?_, ?_, hi.fresh, fun b hb => hsz ▸ hi.s_lt b hb, fun b hb => hsz ▸ hi.t_lt b hb⟩, ⟨fun _ _ h => h, fun _ h => h, ?_, Nat.le_of_eq hsz.symm, ?_, fun _ h => .inl h, hos, htape, hout⟩⟩
 ·rw [Heap.keys_put]; exact hi.nodup
 ·intro k m hm
  rcases Heap.mem_put hi.nodup hm with ⟨rfl, rfl⟩ | ⟨hk, hm⟩
  ·exact ⟨L, hL, g2, g3, hn fun x v hr => hr.mono (fun _ _ h => h) (fun _ h => h) (fun _ h => h) hst⟩
  ·obtain ⟨L', hL', _⟩ := hi.node _ _ hm
   refine hi.keep (fun _ _ h => h) (fun _ h => h) hm hL' hst (hw _ fun he => ?_)
   exact hk (hi.inj _ _ _ _ _ _ hm hm0 hL' hL he)
 ·intro id1 n1 id2 n2 L1 L2 hm1 hm2 hL1 hL2 hbl
  have back : ∀ k m, (k, m) ∈ h.put id n → ∃ m', (k, m') ∈ h := by
   intro k m hm
   rcases Heap.mem_put hi.nodup hm with ⟨rfl, rfl⟩ | ⟨_, hm⟩
   ·exact ⟨_, hm0⟩
   ·exact ⟨_, hm⟩
  obtain ⟨_, q1⟩ := back _ _ hm1
  obtain ⟨_, q2⟩ := back _ _ hm2
  exact hi.inj _ _ _ _ _ _ q1 q2 hL1 hL2 hbl
 ·intro b _ hno
  exact hw b fun he => hno ⟨(id, n0), hm0, L, hL, he.symm⟩
 ·rintro b ⟨e, he, L', hL', rfl⟩
  rcases Heap.mem_put hi.nodup (show (e.1, e.2) ∈ _ from he) with ⟨h1, h2⟩ | ⟨_, hm⟩
  ·rw [h1, hL] at hL'; cases hL'
   exact .inr ⟨(id, n0), hm0, L, hL, rfl⟩
  ·exact .inr ⟨(e.1, e.2), hm, L', hL', rfl⟩
theorem Inv.del (hi : Inv ι S T h w next) (id : Nat) : Inv ι S T (h.del id) w next ∧ Step ι S T h w ι S (h.del id) w := by
 have sub : ∀ {k m}, (k, m) ∈ h.del id → (k, m) ∈ h := fun hm => (Heap.mem_del hi.nodup hm).2
 refine ⟨⟨hi.nodup.sublist Heap.keys_del, fun k m hm => hi.node k m (sub hm), fun a b c d L L' h1 h2 => hi.inj a b c d L L' (sub h1) (sub h2), hi.fresh, hi.s_lt, hi.t_lt⟩,
  ⟨fun _ _ h => h, fun _ h => h, fun _ _ _ => rfl, Nat.le_refl _, ?_, fun _ h => .inl h, rfl, rfl, rfl⟩⟩
 rintro b ⟨e, he, L', hL', rfl⟩
 exact .inr ⟨e, sub (show (e.1, e.2) ∈ _ from he), L', hL', rfl⟩
theorem Inv.freeze (hi : Inv ι S T h w next) {id : Nat} {n : Node} {L : Loc} (hm : (id, n) ∈ h) (hL : ι id = some L) (hw : ∀ b, b ≠ L.block → w'.heap[b]? = w.heap[b]?) (hsz : w'.heap.size = w.heap.size) (hos : w'.os = w.os) (htape : w'.tape = w.tape) (hout : w'.output = w.output) :
  Inv ι (fun b => S b ∨ b = L.block) T (h.del id) w' next ∧ Step ι S T h w ι (fun b => S b ∨ b = L.block) (h.del id) w' := by
 have sub : ∀ {k m}, (k, m) ∈ h.del id → k ≠ id ∧ (k, m) ∈ h := fun hm => Heap.mem_del hi.nodup hm
 obtain ⟨L0, g1, g2, g3, _⟩ := hi.node id n hm
 rw [hL] at g1; cases g1
 have hst : ∀ b, S b ∨ T b → w'.heap[b]? = w.heap[b]? := fun b hb => hw b (by rintro rfl; exact hb.elim g2 g3)
 refine ⟨⟨hi.nodup.sublist Heap.keys_del, ?_, fun a b c d L L' h1 h2 => hi.inj a b c d L L' (sub h1).2 (sub h2).2, hi.fresh, ?_, fun b hb => hsz ▸ hi.t_lt b hb⟩,
  ⟨fun _ _ h => h, fun _ h => .inl h, ?_, Nat.le_of_eq hsz.symm, ?_, ?_, hos, htape, hout⟩⟩
 ·intro k m hkm
  obtain ⟨hk, hkm⟩ := sub hkm
  obtain ⟨L', h1, h2, h3, h4⟩ := hi.node k m hkm
  have hne : L'.block ≠ L.block := fun he => hk (hi.inj _ _ _ _ _ _ hkm hm h1 hL he)
  refine ⟨L', h1, ?_, h3, h4.mono (fun _ _ h => h) (fun _ h => .inl h) (fun _ h => h) hst (hw _ hne)⟩
  rintro (hs | hb)
  ·exact h2 hs
  ·exact hne hb
 ·rintro b (hb | rfl)
  ·exact hsz ▸ hi.s_lt b hb
  ·exact hsz ▸ hi.block_lt hm hL
 ·intro b _ hno
  exact hw b fun he => hno ⟨(id, n), hm, L, hL, he.symm⟩
 ·rintro b ⟨e, he, L', hL', rfl⟩
  exact .inr ⟨e, (sub (show (e.1, e.2) ∈ _ from he)).2, L', hL', rfl⟩
 ·rintro b (hb | rfl)
  ·exact .inl hb
  ·exact .inr (.inr ⟨(id, n), hm, L, hL, rfl⟩)
theorem Inv.more (hi : Inv ι S T h w next) (hold : ∀ b, b < w.heap.size → w'.heap[b]? = w.heap[b]?) (hsz : w'.heap.size = w.heap.size + 1) (hos : w'.os = w.os) (htape : w'.tape = w.tape) (hout : w'.output = w.output) :
  Inv ι (fun b => S b ∨ b = w.heap.size) T h w' next ∧ Step ι S T h w ι (fun b => S b ∨ b = w.heap.size) h w' := by
 have hst : ∀ b, S b ∨ T b → w'.heap[b]? = w.heap[b]? := fun b hb => hold b (hb.elim (hi.s_lt b) (hi.t_lt b))
 refine ⟨⟨hi.nodup, ?_, hi.inj, hi.fresh, ?_, fun b hb => by have := hi.t_lt b hb; omega⟩, ⟨fun _ _ h => h, fun _ h => .inl h, fun b hb _ => hold b hb, by omega, fun _ h => .inr h, ?_, hos, htape, hout⟩⟩
 ·intro k m hkm
  obtain ⟨L', h1, h2, h3, h4⟩ := hi.node k m hkm
  have hlt := hi.block_lt hkm h1
  refine ⟨L', h1, ?_, h3, h4.mono (fun _ _ h => h) (fun _ h => .inl h) (fun _ h => h) hst (hold _ hlt)⟩
  rintro (hs | hb)
  ·exact h2 hs
  ·omega
 ·rintro b (hb | rfl)
  ·have := hi.s_lt b hb; omega
  ·omega
 ·rintro b (hb | rfl)
  ·exact .inl hb
  ·exact .inr (.inl (Nat.le_refl _))
theorem Inv.renew (hi : Inv ι S T h w next) (hn : next nid) {id : Nat} {n0 n : Node} {L : Loc} (hm0 : (id, n0) ∈ h) (hL : ι id = some L) (hw : ∀ b, b ≠ L.block → w'.heap[b]? = w.heap[b]?) (hsz : w'.heap.size = w.heap.size) (hos : w'.os = w.os) (htape : w'.tape = w.tape) (hout : w'.output = w.output)
  (hnode : ∀ ι', (∀ id L, ι id = some L → ι' id = some L) → (∀ x v, Rep ι S T w x v → Rep ι' S T w' x v) → NodeRep ι' S T w' L n) :
  ∃ ι', ι' nid = some L ∧ Inv ι' S T (h.del id ++ [(nid, n)]) w' (next.but nid) ∧ Step ι S T h w ι' S (h.del id ++ [(nid, n)]) w' := by
 let ι' : Emb := fun i => if i = nid then some L else ι i
 have hfr : ι nid = none := hi.fresh nid hn
 have hι : ∀ id L, ι id = some L → ι' id = some L := by
  intro id L' hL'
  have : id ≠ nid := by rintro rfl; rw [hfr] at hL'; cases hL'
  simp [ι', this, hL']
 obtain ⟨L0, g1, g2, g3, _⟩ := hi.node id n0 hm0
 rw [hL] at g1; cases g1
 have hst : ∀ b, S b ∨ T b → w'.heap[b]? = w.heap[b]? := fun b hb => hw b (by rintro rfl; exact hb.elim g2 g3)
 have hself : ι' nid = some L := by simp [ι']
 have sub : ∀ {k m}, (k, m) ∈ h.del id → k ≠ id ∧ (k, m) ∈ h := fun hm => Heap.mem_del hi.nodup hm
 have own : ∀ k m, (k, m) ∈ h.del id → k ≠ nid ∧ ∃ L', ι k = some L' ∧ ι' k = some L' ∧ L'.block ≠ L.block := by
  intro k m hm
  obtain ⟨hk, hm⟩ := sub hm
  obtain ⟨L', hL', _⟩ := hi.node _ _ hm
  exact ⟨(by rintro rfl; rw [hfr] at hL'; cases hL'), L', hL', hι _ _ hL', fun he => hk (hi.inj _ _ _ _ _ _ hm hm0 hL' hL he)⟩
 refine ⟨ι', hself, ⟨?_, ?_, ?_, ?_, fun b hb => hsz ▸ hi.s_lt b hb, fun b hb => hsz ▸ hi.t_lt b hb⟩, ⟨hι, fun _ h => h, ?_, Nat.le_of_eq hsz.symm, ?_, fun b hb => .inl hb, hos, htape, hout⟩⟩
 ·rw [List.map_append, List.nodup_append]
  refine ⟨hi.nodup.sublist Heap.keys_del, by simp, ?_⟩
  intro x hx y hy
  simp at hy
  subst hy
  obtain ⟨⟨k, m⟩, hm, rfl⟩ := List.mem_map.1 hx
  exact (own _ _ hm).1
 ·intro k m hm
  rcases List.mem_append.1 hm with hm | hm
  ·obtain ⟨_, L', hL', _, hne⟩ := own _ _ hm
   exact hi.keep hι (fun _ h => h) (sub hm).2 hL' hst (hw _ hne)
  ·simp at hm
   obtain ⟨rfl, rfl⟩ := hm
   exact ⟨L, hself, g2, g3, hnode ι' hι fun x v hr => hr.mono hι (fun _ h => h) (fun _ h => h) hst⟩
 ·intro id1 n1 id2 n2 L1 L2 hm1 hm2 hL1 hL2 hbl
  rcases List.mem_append.1 hm1 with q1 | q1 <;> rcases List.mem_append.1 hm2 with q2 | q2 <;> clear hm1 hm2
  ·obtain ⟨a1, L1', b1, c1, _⟩ := own _ _ q1
   obtain ⟨a2, L2', b2, c2, _⟩ := own _ _ q2
   rw [c1] at hL1; cases hL1
   rw [c2] at hL2; cases hL2
   exact hi.inj _ _ _ _ _ _ (sub q1).2 (sub q2).2 b1 b2 hbl
  ·simp at q2
   obtain ⟨rfl, rfl⟩ := q2
   obtain ⟨a1, L1', b1, c1, d1⟩ := own _ _ q1
   rw [c1] at hL1; cases hL1
   rw [hself] at hL2; cases hL2
   exact absurd hbl d1
  ·simp at q1
   obtain ⟨rfl, rfl⟩ := q1
   obtain ⟨a1, L1', b1, c1, d1⟩ := own _ _ q2
   rw [c1] at hL2; cases hL2
   rw [hself] at hL1; cases hL1
   exact absurd hbl.symm d1
  ·simp at q1 q2
   rw [q1.1, q2.1]
 ·intro k hk
  have : k ≠ nid := hk.2
  simp [ι', this]
  exact hi.fresh k hk.1
 ·intro b _ hno
  exact hw b fun he => hno ⟨(id, n0), hm0, L, hL, he.symm⟩
 ·rintro b ⟨e, he, L', hL', rfl⟩
  rcases List.mem_append.1 he with he | he
  ·obtain ⟨_, L'', b1, c1, _⟩ := own _ _ (show (e.1, e.2) ∈ _ from he)
   rw [c1] at hL'; cases hL'
   exact .inr ⟨e, (sub (show (e.1, e.2) ∈ _ from he)).2, L', b1, rfl⟩
  ·simp at he
   subst he
   rw [hself] at hL'; cases hL'
   exact .inr ⟨(id, n0), hm0, L, hL, rfl⟩
end
end Go.Abs
namespace Go.Abs
section
variable {gl : Globs} {P : Program} {ι : Emb} {S T : Nat → Prop} {w : World} {h h' : Heap} {next : Free} {o : Oper} {a : Act} {env : List AVal} {r : AVal} {nid : Nat} {ts : List TypeId} {op : AOp}
theorem push_new (w : World) (ob : Obj) {w' : World} (hw : w'.heap = w.heap.push ob) : w'.heap[w.heap.size]? = some ob := by rw [hw]; simp
theorem good_new {ob : Obj} {v : Value} {n : Node} {L : Loc} {w' : World} (hi : Inv ι S T h w next) (hn : next nid) (he : (execOp a.eval o).run P w = .ok (.value v) w') (hw : w'.heap = w.heap.push ob) (hos : w'.os = w.os) (htape : w'.tape = w.tape) (hout : w'.output = w.output) (hb : L.block = w.heap.size)
  (hnode : ∀ ι', (∀ id L, ι id = some L → ι' id = some L) → ι' nid = some L → (∀ x v, Rep ι S T w x v → Rep ι' S T w' x v) → NodeRep ι' S T w' L n)
  (hr : ∀ ι', ι' nid = some L → Rep ι' S T w' r v) : Good P o a w ι S T h (next.but nid) r (h ++ [(nid, n)]) := by
 obtain ⟨ι', h1, h2, h3⟩ := hi.new hn ob L n hb hw hos htape hout hnode
 exact ⟨_, v, w', ι', S, he, .inl rfl, hr ι' h1, h2, h3⟩
theorem good_alloc {t : TypeId} {z : AVal} (ho : o.op = .alloc t) (hz : tzero P t = some z) (hi : Inv ι S T h w next) (hn : next nid)
  (hr : aop (.alloc z.cells) env nid h = some (r, h')) : Good P o a w ι S T h (next.but nid) r h' := by
 obtain ⟨ti, zv, z1, z2, z3⟩ := tzero_rep hz
 simp [aop] at hr
 obtain ⟨rfl, rfl⟩ := hr
 refine good_new (ob := .cells zv.cells t) (w' := w.alloc (.cells zv.cells t)) (L := ⟨w.heap.size, 1, 0⟩) (v := .pointer (some ⟨w.heap.size, 0, none⟩)) hi hn ?_ rfl rfl rfl rfl rfl ?_ ?_
 ·simp [execOp, ho, Instr.alloc, zeroValue, typeInfo, z1, z2, newVar, newRow]
 ·intro ι' _ _ _
  obtain ⟨c1, c2⟩ := const_cells (ι := ι') (S := S) (T := T) (w := w.alloc (.cells zv.cells t)) z3
  exact ⟨zv.cells, t, push_new w _ rfl, c1, c2⟩
 ·intro ι' hL
  exact .ptr nid 0 _ hL
theorem good_box {t : TypeId} {x : Operand} {x' : AOpd} (ho : o.op = .box t x) (hx : trOpd gl x = some x') (hi : Inv ι S T h w next) (hn : next nid) (henv : EnvRep gl ι S T w env a.tmps)
  (hr : aop (.box x') env nid h = some (r, h')) : Good P o a w ι S T h (next.but nid) r h' := by
 have h1 := opd_rep henv hx
 simp only [aop] at hr
 split at hr <;> simp at hr
 rename_i hl
 obtain ⟨rfl, rfl⟩ := hr
 obtain ⟨c1, c2, _⟩ := h1.cells' hl
 refine good_new (ob := .cells (a.eval x).cells t) (w' := w.alloc (.cells (a.eval x).cells t)) (L := ⟨w.heap.size, 1, 0⟩) (v := .pointer (some ⟨w.heap.size, 0, none⟩)) hi hn ?_ rfl rfl rfl rfl rfl ?_ ?_
 ·simp [execOp, ho, Instr.box, newVar, newRow]
 ·intro ι' _ _ hm
  exact ⟨_, t, push_new w _ rfl, c1, fun i c v hc hv => hm _ _ (c2 i c v hc hv)⟩
 ·intro ι' hL
  exact .ptr nid 0 _ hL
theorem good_mkmap {t : TypeId} (ho : o.op = .makeMap t none) (hi : Inv ι S T h w next) (hn : next nid)
  (hr : aop .mkmap env nid h = some (r, h')) : Good P o a w ι S T h (next.but nid) r h' := by
 simp [aop] at hr
 obtain ⟨rfl, rfl⟩ := hr
 refine good_new (ob := .map #[] 0) (w' := w.alloc (.map #[] 0)) (L := ⟨w.heap.size, 1, 0⟩) (v := .map (some w.heap.size)) hi hn ?_ rfl rfl rfl rfl rfl ?_ ?_
 ·simp [execOp, ho, Instr.makeMap]
 ·intro ι' _ _ hm
  exact ⟨#[], 0, push_new w _ rfl, rfl, by simp⟩
 ·intro ι' hL
  exact .mapr nid _ hL
theorem good_range {t : TypeId} {x : Operand} {x' : AOpd} (ho : o.op = .range t x) (hu : P.underlying t = some .string) (hx : trOpd gl x = some x') (hi : Inv ι S T h w next) (hn : next nid) (henv : EnvRep gl ι S T w env a.tmps)
  (hr : aop (.range x') env nid h = some (r, h')) : Good P o a w ι S T h (next.but nid) r h' := by
 have h1 := opd_rep henv hx
 simp only [aop] at hr
 split at hr <;> simp at hr
 rename_i l hb
 obtain ⟨rfl, rfl⟩ := hr
 rw [hb] at h1
 refine good_new (ob := .stringIter ⟨l.toArray⟩ 0) (w' := w.alloc (.stringIter ⟨l.toArray⟩ 0)) (L := ⟨w.heap.size, 1, 0⟩) (v := .pointer (some ⟨w.heap.size, 0, none⟩)) hi hn ?_ rfl rfl rfl rfl rfl ?_ ?_
 ·simp [execOp, ho, Instr.range, run_underlying' hu, h1.str_inv]
 ·intro ι' _ _ hm
  exact push_new w _ rfl
 ·intro ι' hL
  exact .ptr nid 0 _ hL
theorem good_next {x : Operand} {x' : AOpd} (ho : o.op = .next x true) (hx : trOpd gl x = some x') (hi : Inv ι S T h w next) (hn : next nid) (henv : EnvRep gl ι S T w env a.tmps)
  (hr : aop (.next x') env nid h = some (r, h')) : Good P o a w ι S T h (next.but nid) r h' := by
 have h1 := opd_rep henv hx
 simp only [aop] at hr
 split at hr <;> try (simp at hr; done)
 rename_i id hb
 split at hr <;> try (simp at hr; done)
 rename_i l pos hg
 rw [hb] at h1
 obtain ⟨L, hv, hL⟩ := h1.ptr_inv
 obtain ⟨L', hL', _, _, hnode⟩ := hi.get hg
 rw [hL] at hL'; cases hL'
 have hnode : w.heap[L.block]? = some (.stringIter ⟨l.toArray⟩ pos) := hnode
 have hsz : (⟨l.toArray⟩ : ByteArray).size = l.length := by simp [ByteArray.size]
 split at hr
 ·rename_i hlt
  simp at hr
  obtain ⟨rfl, rfl⟩ := hr
  let w' : World := { w with heap := w.heap.setIfInBounds L.block (.stringIter ⟨l.toArray⟩ (pos + (Utf8.decode ⟨l.toArray⟩ pos).2)) }
  have hlt' : pos < (⟨l.toArray⟩ : ByteArray).size := by omega
  have hblt := hi.block_lt (Heap.get_mem hg) hL
  obtain ⟨i1, i2⟩ := hi.set (w' := w') (n := .iter l (pos + (Utf8.decode ⟨l.toArray⟩ pos).2)) (Heap.get_mem hg) hL (fun b hb => by simp [w', Ne.symm hb]) (by simp [w']) rfl rfl rfl (fun _ => by
   show w'.heap[L.block]? = _
   simp [w', hblt])
  refine ⟨_, .tuple #[.bool true, .int .i64 pos, .int .i32 (Utf8.decode ⟨l.toArray⟩ pos).1], w', ι, S, ?_, .inl rfl, ?_, i1.mono (fun _ h => h.1), i2⟩
  ·obtain ⟨s, hs⟩ : ∃ s : ByteArray, s = ⟨l.toArray⟩ := ⟨_, rfl⟩
   rw [← hs] at hnode hlt'
   simp only [w', ← hs]
   simp [execOp, ho, hv, Instr.next, getObj, setObj, Sem.run, hnode, hlt', goInt]
  ·refine .tuple _ _ rfl fun i c v' hc hv => ?_
   match i with
   | 0 => simp at hc hv; subst hc; subst hv; exact .bool _
   | 1 => simp at hc hv; subst hc; subst hv; exact .int _ _
   | 2 => simp at hc hv; subst hc; subst hv; exact .int _ _
   | n + 3 => simp at hc
 ·rename_i hlt
  simp at hr
  obtain ⟨rfl, rfl⟩ := hr
  have hlt' : ¬ pos < (⟨l.toArray⟩ : ByteArray).size := by omega
  refine good_val (v := .tuple #[.bool false]) hi (fun _ h => h.1) ?_ ?_
  ·generalize (⟨l.toArray⟩ : ByteArray) = s at *
   simp [execOp, ho, hv, Instr.next, getObj, Sem.run, hnode, hlt']
  ·refine .tuple _ _ rfl fun i c v' hc hv => ?_
   match i with
   | 0 => simp at hc hv; subst hc; subst hv; exact .bool _
   | n + 1 => simp at hc
theorem setRow_other' (w : World) (g b : Nat) (cs : Array Value) (hb : b ≠ g) : (w.setRow g cs).heap[b]? = w.heap[b]? := setRow_other w g b cs hb
theorem seg_get {α : Type} {arr us : List α} {p q : Nat} (hle : p + us.length ≤ arr.length) :
  (arr.take p ++ us ++ arr.drop (p + us.length))[q]? = if p ≤ q ∧ q < p + us.length then us[q - p]? else arr[q]? := by
 by_cases h1 : q < p
 ·rw [if_neg (by omega), List.append_assoc, List.getElem?_append_left (by simp; omega), List.getElem?_take, if_pos h1]
 ·by_cases h2 : q < p + us.length
  ·rw [if_pos ⟨by omega, h2⟩, List.append_assoc, List.getElem?_append_right (by simp; omega), List.getElem?_append_left (by simp; omega)]
   congr 1
   simp; omega
  ·rw [if_neg (by omega), List.getElem?_append_right (by simp; omega), List.getElem?_drop]
   congr 1
   simp; omega
theorem good_st {t : TypeId} {x v : Operand} {x' v' : AOpd} {i : TypeInfo} (ho : o.op = .store t x v) (hinf : P.info? t = some i) (hx : trOpd gl x = some x') (hv : trOpd gl v = some v') (hi : Inv ι S T h w next) (hn : next nid) (henv : EnvRep gl ι S T w env a.tmps)
  (hr : aop (.st i.size x' v') env nid h = some (r, h')) : Good P o a w ι S T h (next.but nid) r h' := by
 have h1 := opd_rep henv hx
 have h2 := opd_rep henv hv
 simp only [aop] at hr
 split at hr <;> try (simp at hr; done)
 rename_i hc
 obtain ⟨hsz, hleaf⟩ := hc
 obtain ⟨c1, c2, c3⟩ := h2.cells' hleaf
 have key : ∀ g off cur ty, a.eval x = .pointer (some ⟨g, off, none⟩) → w.heap[g]? = some (.cells cur ty (0, 0)) → off + i.size ≤ cur.size →
   (execOp a.eval o).run P w = .ok .skip (w.setRow g (cur.toList.take off ++ (a.eval v).cells.toList ++ cur.toList.drop (off + (a.eval v).cells.size)).toArray) := by
  intro g off cur ty hp hg hle
  have := run_storeCells_at P g off ty (a.eval v).cells.toList 0 cur w hg (by simp; omega) c3
  simp only [Nat.add_zero, Array.length_toList] at this
  have e : (a.eval v).cells.size = i.size := by omega
  simp [execOp, ho, hp, Instr.storeAt, Instr.sureAddr, storeVar, sizeOf, typeInfo, hinf, e] at this ⊢
  simp [this]
 split at hr
 ·rename_i id off hb
  split at hr <;> try (simp at hr; done)
  rename_i cs hg
  split at hr <;> simp at hr
  rename_i hle
  obtain ⟨rfl, rfl⟩ := hr
  rw [hb] at h1
  obtain ⟨L, hp, hL⟩ := h1.ptr_inv
  obtain ⟨L', hL', _, _, arr, ty, n1, n2, n3⟩ := hi.get hg
  rw [hL] at hL'; cases hL'
  have hrun := key _ _ _ _ hp n1 (by omega)
  obtain ⟨i1, i2⟩ := hi.set (w' := w.setRow L.block (arr.toList.take off ++ (a.eval v).cells.toList ++ arr.toList.drop (off + (a.eval v).cells.size)).toArray) (n := .var (splice cs off (v'.ev env).cells)) (Heap.get_mem hg) hL (fun b hb => setRow_other' w _ b _ hb) (by simp) rfl rfl rfl (fun hm => by
   obtain ⟨e1, e2⟩ := splice_rep (ι := ι) (S := S) (T := T) (w := w) (cs := cs) (vs := (v'.ev env).cells) (arr := arr.toList) (us := (a.eval v).cells.toList) (off := off) (by simpa using n2) (by simpa using c1) (by omega) rfl (by simpa using n3) (by simpa using c2)
   refine ⟨_, ty, setRow_heap w _ _ _ ty (0, 0) n1, by simpa using e1, fun i c u hc hu => hm _ _ (e2 i c u hc (by simpa using hu))⟩)
  exact ⟨_, undef, _, ι, S, hrun, .inr ⟨rfl, rfl⟩, .lit _, i1.mono (fun _ h => h.1), i2⟩
 ·rename_i id k off hb
  split at hr <;> try (simp at hr; done)
  rename_i es sz hg
  split at hr <;> try (simp at hr; done)
  rename_i e he
  split at hr <;> simp at hr
  rename_i hcond
  obtain ⟨hle, hesz, hclosed⟩ := hcond
  obtain ⟨rfl, rfl⟩ := hr
  rw [hb] at h1
  obtain ⟨L, hp, hL⟩ := h1.eptr_inv
  obtain ⟨L', hL', hns, hnt, hnode⟩ := hi.get hg
  rw [hL] at hL'; cases hL'
  obtain ⟨n0, npos, n1, n2, arr, ty, n3, n4, n5⟩ := hnode
  have hk : k < es.length := (List.getElem?_eq_some_iff.1 he).1
  have hkc : k * sz + sz ≤ L.cap * sz := by
   rw [← Nat.succ_mul]
   exact Nat.mul_le_mul_right _ (by omega)
  rw [n0] at hp
  have hrun := key _ _ _ _ hp n3 (by omega)
  have hlu : (a.eval v).cells.toList.length = i.size := by simp; omega
  have hle2 : k * sz + off + (a.eval v).cells.toList.length ≤ arr.toList.length := by simp at hlu ⊢; omega
  obtain ⟨i1, i2⟩ := hi.set (w' := w.setRow L.block (arr.toList.take (k * sz + off) ++ (a.eval v).cells.toList ++ arr.toList.drop (k * sz + off + (a.eval v).cells.size)).toArray)
   (n := .row (es.set k (if i.size = sz then v'.ev env else .agg (splice e.cells off (v'.ev env).cells))) sz) (Heap.get_mem hg) hL (fun b hb => setRow_other' w _ b _ hb) (by simp) rfl rfl rfl (fun hm => by
   refine ⟨n0, npos, by simpa using n1, n2, _, ty, setRow_heap w _ _ _ ty (0, 0) n3, by simp; omega, fun q y hy => ?_⟩
   obtain ⟨e1, e2, e3⟩ := n5 k e he
   have hsegq : ∀ z, (arr.toList.take (k * sz + off) ++ (a.eval v).cells.toList ++ arr.toList.drop (k * sz + off + (a.eval v).cells.size)).toArray[z]? =
     if k * sz + off ≤ z ∧ z < k * sz + off + i.size then (a.eval v).cells[z - (k * sz + off)]? else arr[z]? := by
    intro z
    have := seg_get (q := z) hle2
    have hlu' : (a.eval v).cells.size = i.size := by omega
    simp only [Array.length_toList] at this
    rw [List.getElem?_toArray, this]
    simp [hlu']
   by_cases hqk : q = k
   ·subst hqk
    have hy' : y = (if i.size = sz then v'.ev env else .agg (splice e.cells off (v'.ev env).cells)) := by
     rw [List.getElem?_set] at hy
     simp [hk] at hy
     exact hy.symm
    subst hy'
    by_cases hsz' : i.size = sz
    ·have hoff : off = 0 := by omega
     subst hoff
     simp only [hsz', if_true]
     refine ⟨by omega, hclosed, fun j x hx => ?_⟩
     have hj : j < sz := by have := (List.getElem?_eq_some_iff.1 hx).1; omega
     have hju : j < (a.eval v).cells.size := by omega
     refine ⟨(a.eval v).cells[j], ?_, hm _ _ (c2 j x _ hx (by simp [hju]))⟩
     rw [hsegq, if_pos (by omega)]
     have : q * sz + j - (q * sz + 0) = j := by omega
     rw [this]
     simp [hju]
    ·simp only [hsz', if_false]
     have hcz : (AVal.agg (splice e.cells off (v'.ev env).cells)).cells = splice e.cells off (v'.ev env).cells := rfl
     refine ⟨by rw [hcz]; simp [splice]; omega, ?_, fun j x hx => ?_⟩
     ·simp only [AVal.closed, hcz, List.all_eq_true] at hclosed e2 ⊢
      intro x hx
      simp only [splice, List.mem_append] at hx
      rcases hx with (hx | hx) | hx
      ·exact e2 _ (List.mem_of_mem_take hx)
      ·exact hclosed _ hx
      ·exact e2 _ (List.mem_of_mem_drop hx)
     ·have hsp := seg_get (arr := e.cells) (us := (v'.ev env).cells) (p := off) (q := j) (by omega)
      rw [hcz] at hx
      unfold splice at hx
      rw [hsp] at hx
      have hj : j < sz := by
       split at hx
       ·omega
       ·have := (List.getElem?_eq_some_iff.1 hx).1; omega
      split at hx
      ·rename_i hin
       have hju : j - off < (a.eval v).cells.size := by omega
       refine ⟨(a.eval v).cells[j - off], ?_, hm _ _ (c2 (j - off) x _ hx (by simp [hju]))⟩
       rw [hsegq, if_pos (by omega)]
       have : q * sz + j - (q * sz + off) = j - off := by omega
       rw [this]
       simp [hju]
      ·rename_i hin
       obtain ⟨u, hu, hr⟩ := e3 j x hx
       refine ⟨u, ?_, hm _ _ hr⟩
       rw [hsegq, if_neg (by omega)]
       exact hu
   ·rw [List.getElem?_set_ne (Ne.symm hqk)] at hy
    obtain ⟨f1, f2, f3⟩ := n5 q y hy
    refine ⟨f1, f2, fun j x hx => ?_⟩
    obtain ⟨u, hu, hr⟩ := f3 j x hx
    refine ⟨u, ?_, hm _ _ hr⟩
    have hj : j < sz := by have := (List.getElem?_eq_some_iff.1 hx).1; omega
    rw [hsegq, if_neg ?_]
    ·exact hu
    ·rintro ⟨z1, z2⟩
     rcases Nat.lt_or_gt_of_ne hqk with hlt | hlt
     ·have : (q + 1) * sz ≤ k * sz := Nat.mul_le_mul_right _ hlt
      rw [Nat.succ_mul] at this
      omega
     ·have : (k + 1) * sz ≤ q * sz := Nat.mul_le_mul_right _ hlt
      rw [Nat.succ_mul] at this
      omega)
  exact ⟨_, undef, _, ι, S, hrun, .inr ⟨rfl, rfl⟩, .lit _, i1.mono (fun _ h => h.1), i2⟩
 ·simp at hr
end
end Go.Abs
namespace Go.Abs
section
variable {gl : Globs} {P : Program} {ι : Emb} {S T : Nat → Prop} {w : World} {h h' : Heap} {next : Free} {o : Oper} {a : Act} {env : List AVal} {r : AVal} {nid : Nat} {ts : List TypeId} {op : AOp}
structure Src (P : Program) (ι : Emb) (S T : Nat → Prop) (w : World) (v : Value) (es : List AVal) (sz : Nat) : Prop where
 len : (Builtin.lenOf v).run P w = .ok es.length w
 elem : ∀ (i : Nat) (e : AVal), es[i]? = some e → e.cells.length = sz ∧ e.closed = true
 cells : ∀ n, n ≤ es.length → ∃ us : List Value, us.length = n * sz ∧ (∀ w' : World, w'.heap = w.heap → (Builtin.firstCells sz n v).run P w' = .ok us.toArray w') ∧
  ∀ (i : Nat) (e : AVal) (j : Nat) (x : AVal), i < n → es[i]? = some e → e.cells[j]? = some x → ∃ u, us[i * sz + j]? = some u ∧ Rep ι S T w x u
theorem closed_leaf {e : AVal} (h : e.closed = true) {j : Nat} {x : AVal} (hx : e.cells[j]? = some x) : x.leaf = true :=
 AVal.flat_leaf (List.all_eq_true.1 h _ (List.mem_of_getElem? hx))
theorem Src.one {v : Value} {es : List AVal} {sz n : Nat} {us : List Value} (hs : Src P ι S T w v es sz) (hn : n ≤ es.length) (hl : us.length = n * sz)
  (hc : ∀ (i : Nat) (e : AVal) (j : Nat) (x : AVal), i < n → es[i]? = some e → e.cells[j]? = some x → ∃ u, us[i * sz + j]? = some u ∧ Rep ι S T w x u) : ∀ u ∈ us, u.oneCell' = true := by
 intro u hu
 obtain ⟨k, hk⟩ := List.mem_iff_getElem?.1 hu
 have hkl := (List.getElem?_eq_some_iff.1 hk).1
 have hsz : 0 < sz := by
  rcases Nat.eq_zero_or_pos sz with h | h
  ·subst h; omega
  ·exact h
 have hi : k / sz < n := by
  rw [Nat.div_lt_iff_lt_mul hsz]; omega
 have hj : k % sz < sz := Nat.mod_lt _ hsz
 have he : es[k / sz]? = some es[k / sz] := List.getElem?_eq_getElem (by omega)
 obtain ⟨e1, e2⟩ := hs.elem _ _ he
 have hx : (es[k / sz]).cells[k % sz]? = some (es[k / sz]).cells[k % sz] := List.getElem?_eq_getElem (by omega)
 obtain ⟨u', hu', hr⟩ := hc _ _ _ _ hi he hx
 have : k / sz * sz + k % sz = k := by rw [Nat.mul_comm]; exact Nat.div_add_mod k sz
 rw [this, hk] at hu'
 cases hu'
 exact hr.oneCell (closed_leaf e2 hx)
theorem src_slice {v : Value} {es : List AVal} {sz : Nat} (hs : Shows ι S T w v es) (hel : ∀ (i : Nat) (e : AVal), es[i]? = some e → e.cells.length = sz ∧ e.closed = true) : Src P ι S T w v es sz := by
 cases hs with
 | nil =>
  refine ⟨by simp [Builtin.lenOf], hel, fun n hn => ⟨[], ?_, ?_, ?_⟩⟩
  ·simp at hn; subst hn; simp
  ·intro w' _; simp [Builtin.firstCells]
  ·intro i e j x hi; simp at hn; omega
 | empty a =>
  refine ⟨by simp [Builtin.lenOf], hel, fun n hn => ⟨[], ?_, ?_, ?_⟩⟩
  ·simp at hn; subst hn; simp
  ·intro w' _; simp at hn; subst hn; simpa [Builtin.firstCells] using run_loadCells_list (P := P) w' a [] (by simp)
  ·intro i e j x hi; simp at hn; omega
 | some b o c sz' es hc hsz hcell =>
  refine ⟨by simp [Builtin.lenOf], hel, fun n hn => ?_⟩
  have hcell' : ∀ (i : Nat) (e : AVal) (j : Nat) (x : AVal), es[i]? = some e → e.cells[j]? = some x → ∃ u, w.cell? ⟨b, o + (i * sz + j), none⟩ = some u ∧ Rep ι S T w x u := by
   intro i e j x he hx
   have : sz' = sz := by rw [← hsz i e he, (hel i e he).1]
   subst this
   obtain ⟨u, hu, hr⟩ := hcell i e j x he hx
   exact ⟨u, by rw [← Nat.add_assoc]; exact hu, hr⟩
  let f : Nat → Value := fun k => (w.cell? ⟨b, o + k, none⟩).getD undef
  have hf : ∀ k, k < n * sz → w.cell? ⟨b, o + k, none⟩ = some (f k) := by
   intro k hk
   have hpos : 0 < sz := by
    rcases Nat.eq_zero_or_pos sz with h | h
    ·subst h; omega
    ·exact h
   have hi : k / sz < n := by rw [Nat.div_lt_iff_lt_mul hpos]; omega
   have hj : k % sz < sz := Nat.mod_lt _ hpos
   have he : es[k / sz]? = some es[k / sz] := List.getElem?_eq_getElem (by omega)
   have hjl : k % sz < (es[k / sz]).cells.length := by have := (hel _ _ he).1; omega
   have hx : (es[k / sz]).cells[k % sz]? = some ((es[k / sz]).cells[k % sz]'hjl) := List.getElem?_eq_getElem hjl
   obtain ⟨u, hu, _⟩ := hcell' _ _ _ _ he hx
   have : k / sz * sz + k % sz = k := by rw [Nat.mul_comm]; exact Nat.div_add_mod k sz
   rw [this] at hu
   simp [f, hu]
  refine ⟨(List.range (n * sz)).map f, by simp, ?_, fun i e j x hi he hx => ?_⟩
  ·intro w' hw'
   simp only [Builtin.firstCells]
   exact run_loadCells w' _ _ f fun j hj => by rw [Addr.add_none, cell_congr (w := w) (by rw [hw'])]; exact hf j hj
  ·obtain ⟨u, hu, hr⟩ := hcell' i e j x he hx
   have hj : j < sz := by have := (List.getElem?_eq_some_iff.1 hx).1; have := (hel i e he).1; omega
   have hlt : i * sz + j < n * sz := by
    have : (i + 1) * sz ≤ n * sz := Nat.mul_le_mul_right _ hi
    rw [Nat.succ_mul] at this
    omega
   refine ⟨u, ?_, hr⟩
   simp [hlt, f, hu]
theorem byte_cells (b : UInt8) : (AVal.byte b).cells = [AVal.byte b] := rfl
theorem src_text (l : List UInt8) : Src P ι S T w (.string ⟨l.toArray⟩) (l.map .byte) 1 := by
 refine ⟨by simp [Builtin.lenOf, ByteArray.size], fun i e he => ?_, fun n hn => ?_⟩
 ·simp at he
  obtain ⟨b, _, rfl⟩ := he
  exact ⟨rfl, rfl⟩
 ·refine ⟨(l.take n).map fun b => .int .u8 b.toNat, by simp at hn ⊢; omega, ?_, fun i e j x hi he hx => ?_⟩
  ·intro w' _
   simp only [Builtin.firstCells, slice_text]
   simp
  ·simp at he
   obtain ⟨b, hb, rfl⟩ := he
   have hj : j = 0 := by
    have := (List.getElem?_eq_some_iff.1 hx).1
    simp [byte_cells] at this; omega
   subst hj
   simp [byte_cells] at hx
   subst hx
   refine ⟨.int .u8 b.toNat, ?_, .int _ _⟩
   simp [hi, hb]
theorem appended_sound (hi : Inv ι S T h w next) {x : AVal} {v : Value} {xs : List AVal} {sz : Nat} (hx : Rep ι S T w x v) (hz : szIs sz x = true) (ha : appended h x = some xs) : Src P ι S T w v xs sz := by
 unfold appended at ha
 split at ha
 ·rename_i s
  simp at ha; subst ha
  simp [szIs] at hz
  subst hz
  rw [hx.str_inv]
  exact src_text s
 ·rename_i z es clip
  split at ha <;> simp at ha
  subst ha
  rename_i hall
  have hsh := elems_sound (es := es) hi hx rfl
  refine src_slice hsh fun i e he => ?_
  simp [szIs] at hz; subst hz
  obtain ⟨_, _, _, _, _, _, _, _, _, _, h1, h2, _⟩ := hx.view_inv
  exact ⟨h1 i e he, List.all_eq_true.1 hall e (List.mem_of_getElem? he)⟩
 ·rename_i x hns hnt
  have hsh := elems_sound hi hx ha
  refine src_slice hsh ?_
  unfold elems at ha
  split at ha
  ·rename_i tmp
   simp at ha; subst ha
   simp [szIs] at hz; subst hz
   cases tmp with
   | true => exact absurd rfl (hnt _ _ _)
   | false =>
    obtain ⟨_, _, _, _, _, _, _, _, _, _, h1, h2, _⟩ := hx.view_inv
    exact fun i e he => ⟨h1 i e he, h2 i e he⟩
  ·simp at ha; subst ha; simp
  ·rename_i id z off len clip
   simp [szIs] at hz; subst hz
   split at ha <;> try (simp at ha; done)
   rename_i es s hg
   split at ha <;> simp at ha
   subst ha
   obtain ⟨L, c, o', hv, hL, hsz, _⟩ := hx.own_inv
   obtain ⟨L', hL', _, _, hn⟩ := hi.get hg
   rw [hL] at hL'; cases hL'
   have hs : L.sz = s := hn.1
   intro i e he
   obtain ⟨he', _⟩ := nth_take_drop he
   obtain ⟨r1, r2, _⟩ := row_cell hn he'
   exact ⟨by omega, r2⟩
  ·simp at ha
theorem two_rows {es xs : List AVal} {sz : Nat} {us vs : List Value} (hl : us.length = es.length * sz)
  (h1 : ∀ (i : Nat) (e : AVal) (j : Nat) (x : AVal), es[i]? = some e → e.cells[j]? = some x → ∃ u, us[i * sz + j]? = some u ∧ Rep ι S T w x u)
  (h2 : ∀ (i : Nat) (e : AVal) (j : Nat) (x : AVal), xs[i]? = some e → e.cells[j]? = some x → ∃ u, vs[i * sz + j]? = some u ∧ Rep ι S T w x u) (rest : List Value) :
  ∀ (i : Nat) (e : AVal) (j : Nat) (x : AVal), (es ++ xs)[i]? = some e → e.cells[j]? = some x → ∃ u, (us ++ vs ++ rest)[i * sz + j]? = some u ∧ Rep ι S T w x u := by
 intro i e j x he hx
 by_cases hi : i < es.length
 ·rw [List.getElem?_append_left hi] at he
  obtain ⟨u, hu, hr⟩ := h1 i e j x he hx
  refine ⟨u, ?_, hr⟩
  have := (List.getElem?_eq_some_iff.1 hu).1
  rw [List.append_assoc, List.getElem?_append_left this, hu]
 ·rw [List.getElem?_append_right (by omega)] at he
  obtain ⟨u, hu, hr⟩ := h2 _ e j x he hx
  refine ⟨u, ?_, hr⟩
  have hlt := (List.getElem?_eq_some_iff.1 hu).1
  have hi' : i * sz + j - us.length = (i - es.length) * sz + j := by
   rw [hl, Nat.sub_mul]
   have := Nat.mul_le_mul_right sz (show es.length ≤ i by omega)
   omega
  have hle : us.length ≤ i * sz + j := by
   rw [hl]
   have := Nat.mul_le_mul_right sz (show es.length ≤ i by omega)
   omega
  rw [List.append_assoc, List.getElem?_append_right hle, hi', List.getElem?_append_left hlt, hu]
structure App (P : Program) (ι : Emb) (S T : Nat → Prop) (w : World) (argTypes : Array TypeId) (x : Value) (xs : List AVal) (sz : Nat) (e : TypeId) (bytes : Nat) (zero : Value) : Prop where
 elem : ∀ (i : Nat) (e : AVal), xs[i]? = some e → e.cells.length = sz ∧ e.closed = true
 empty : xs = [] → ∀ ad n c, n ≤ c → (Builtin.append_ argTypes 0 #[.slice ad n c, x]).run P w = .ok (.slice ad n c) w
 run : ∃ us : List Value, us.length = xs.length * sz ∧ (∀ u ∈ us, u.oneCell' = true) ∧
  (∀ (i : Nat) (e : AVal) (j : Nat) (x : AVal), xs[i]? = some e → e.cells[j]? = some x → ∃ u, us[i * sz + j]? = some u ∧ Rep ι S T w x u) ∧
  (∀ g n c, n + xs.length ≤ c → ∀ (cur : Array Value) ty, w.heap[g]? = some (.cells cur ty (0, 0)) → n * sz + us.length ≤ cur.size → ∀ ad, ad = ⟨g, 0, none⟩ →
   (Builtin.append_ argTypes 0 #[.slice (some ad) n c, x]).run P w = .ok (.slice (some ad) (n + xs.length) c) (w.setRow g (cur.toList.take (n * sz) ++ us ++ cur.toList.drop (n * sz + us.length)).toArray)) ∧
  (∀ (old : Option Addr) n c (olds : List Value), n ≤ c → c < n + xs.length → olds.length = n * sz → (∀ w' : World, w'.heap = w.heap → (Builtin.firstCells sz n (.slice old n c)).run P w' = .ok olds.toArray w') → (n + xs.length) * bytes ≤ roomMax → n + xs.length ≤ maxLen → ∃ cap, n + xs.length ≤ cap ∧ cap ≤ maxLen ∧
   (Builtin.append_ argTypes 0 #[.slice old n c, x]).run P w = .ok (.slice (some ⟨w.heap.size, 0, none⟩) (n + xs.length) cap) (w.drew.alloc (.cells (olds.toArray ++ us.toArray ++ Builtin.zeroCells zero.cells (cap - (n + xs.length))) e)))
set_option maxHeartbeats 1000000 in
theorem app_slice {st xt e : TypeId} {i : TypeInfo} {zero : Value} {v : Value} {xs : List AVal} (hst : P.underlying st = some (.slice e)) (hxt : P.underlying xt = some .string ∨ ∃ e', P.underlying xt = some (.slice e')) (hinf : P.info? e = some i) (hz : i.zero = some zero) (hs : Src P ι S T w v xs i.size) :
  App P ι S T w #[st, xt] v xs i.size e i.bytes zero := by
 obtain ⟨us, u1, u2, u3⟩ := hs.cells xs.length (Nat.le_refl _)
 have u3' : ∀ (i' : Nat) (e : AVal) (j : Nat) (x : AVal), xs[i']? = some e → e.cells[j]? = some x → ∃ u, us[i' * i.size + j]? = some u ∧ Rep ι S T w x u :=
  fun i' e j x he hx => u3 i' e j x (List.getElem?_eq_some_iff.1 he).1 he hx
 have hone := hs.one (Nat.le_refl _) u1 u3
 refine ⟨hs.elem, ?_, us, u1, hone, u3', ?_, ?_⟩
 ·rintro rfl ad n c hnc
  have hus : us = [] := List.eq_nil_of_length_eq_zero (by simpa using u1)
  subst hus
  have hf := u2 w rfl
  have hlen := hs.len
  simp only [List.length_nil] at hf hlen
  rcases hxt with hd | ⟨e', hd⟩ <;> cases ad <;> simp [Builtin.append_, run_underlying' hst, run_underlying' hd, sizeOf, typeInfo, hinf, hlen, hnc, hf, storeCells]
 ·rintro g n c hle cur ty hg hfit ad rfl
  have hst' := run_storeCells_at P g (n * i.size) ty us 0 cur w hg (by simpa using hfit) hone
  simp only [Nat.add_zero] at hst'
  rcases hxt with hd | ⟨e', hd⟩ <;> simp [Builtin.append_, run_underlying' hst, run_underlying' hd, sizeOf, typeInfo, hinf, hs.len, hle, u2 w rfl, Addr.add_none, hst']
 ·intro old n c olds hnc hlt holds hfirst hbytes hmax
  have hn : ¬ (n + xs.length ≤ c) := by omega
  have h48' : ¬ (281474976710656 < Builtin.nextslicecap (n + xs.length) c * i.bytes) := by
   have := growslice_fits (need := n + xs.length) (old := c) (bytes := i.bytes) hlt hbytes
   omega
  have f1 := hfirst w.drew rfl
  have f2 := u2 w.drew rfl
  have h63' : ¬ (9223372036854775807 < ((n : Int) + (xs.length : Int))) := by simp [maxLen] at hmax; omega
  refine ⟨grownCap w (n + xs.length) c e, grownCap_ge w _ _ _, grownCap_le_maxLen w _ _ _ hmax, ?_⟩
  rcases hxt with hd | ⟨e', hd⟩
  all_goals
   simp [Builtin.append_, run_underlying' hst, run_underlying' hd, sizeOf, typeInfo, hinf, hs.len, hn, h63', h48', Question.forced, f1, f2, newRow, grownCap, zeroValue, hz]
   congr 2
   apply Array.ext'
   simp [List.append_assoc]
theorem zeroCells_get {z : Array Value} {n i j : Nat} (hi : i < n) (hj : j < z.size) : (Builtin.zeroCells z n)[i * z.size + j]? = some z[j] := by
 have hlt : i * z.size + j < n * z.size := by
  have : (i + 1) * z.size ≤ n * z.size := Nat.mul_le_mul_right _ hi
  rw [Nat.succ_mul] at this
  omega
 have hm : (i * z.size + j) % z.size = j := by
  rw [Nat.add_comm, Nat.add_mul_mod_self_right, Nat.mod_eq_of_lt hj]
 simp [Builtin.zeroCells, hlt, hm, getElem!_pos, hj]
theorem zero_elem {z : AVal} {sz : Nat} (hsz : z.cells.length = sz) (hflat : z.cells.all AVal.flat = true) :
  (if sz = 1 then z.cells.headD .junk else AVal.agg z.cells).cells = z.cells ∧ (if sz = 1 then z.cells.headD .junk else AVal.agg z.cells).closed = true := by
 by_cases h1 : sz = 1
 ·simp only [h1, if_true]
  have : ∃ c, z.cells = [c] := by
   match hc : z.cells, (show z.cells.length = 1 by omega) with
   | [c], _ => exact ⟨c, rfl⟩
  obtain ⟨c, hc⟩ := this
  rw [hc] at hflat ⊢
  simp at hflat ⊢
  have := AVal.cells_of_leaf (AVal.flat_leaf hflat)
  exact ⟨this, by simp [AVal.closed, this, hflat]⟩
 ·simp only [h1, if_false]
  exact ⟨rfl, by simpa [AVal.closed, AVal.cells] using hflat⟩
set_option maxHeartbeats 1000000 in
theorem app_zeros {st xt e : TypeId} {i : TypeInfo} {zero : Value} {z : AVal} {n : Int} (hst : P.underlying st = some (.slice e)) (hxt : P.underlying xt = some (.int .i64)) (hinf : P.info? e = some i) (hz : i.zero = some zero) (hc : constOf zero = some z)
  (h0 : 0 ≤ n) (h63 : n ≤ 9223372036854775807) (hb : n.toNat * i.bytes ≤ roomMax) (hsz : z.cells.length = i.size) (hpos : 0 < i.size) (hflat : z.cells.all AVal.flat = true) :
  App P ι S T w #[st, xt] (.int .i64 n) (List.replicate n.toNat (if i.size = 1 then z.cells.headD .junk else .agg z.cells)) i.size e i.bytes zero := by
 obtain ⟨k, rfl⟩ := Int.eq_ofNat_of_zero_le h0
 simp only [Int.toNat_natCast] at hb ⊢
 obtain ⟨z1, z2⟩ := zero_elem hsz hflat
 obtain ⟨c1, c2⟩ := const_cells (ι := ι) (S := S) (T := T) (w := w) hc
 have hzs : zero.cells.size = i.size := by omega
 have wk : IntKind.i64.wrap (k : Int) = k := by rw [IntKind.wrap_i64]; omega
 have w0 : IntKind.i64.wrap 0 = 0 := by rw [IntKind.wrap_i64]; omega
 have n1 : ¬ ((k : Int) < 0) := by omega
 have n2 : ¬ (281474976710656 < (k : Int) * (i.bytes : Int)) := by
  have : ((k * i.bytes : Nat) : Int) ≤ roomMax := by omega
  simp [roomMax] at this
  omega
 have hels : ∀ (q : Nat) (e : AVal), (List.replicate k (if i.size = 1 then z.cells.headD .junk else AVal.agg z.cells))[q]? = some e → q < k ∧ e = (if i.size = 1 then z.cells.headD .junk else AVal.agg z.cells) := by
  intro q e he
  rw [List.getElem?_replicate] at he
  split at he
  ·rename_i hq
   exact ⟨hq, (Option.some.inj he).symm⟩
  ·cases he
 have hus : (Builtin.zeroCells zero.cells k).toList.length = k * i.size := by simp [Builtin.zeroCells, hzs]
 have hone : ∀ u ∈ (Builtin.zeroCells zero.cells k).toList, u.oneCell' = true := by
  intro u hu
  simp only [Builtin.zeroCells, Array.toList_map, List.mem_map] at hu
  obtain ⟨q, hq, rfl⟩ := hu
  have hlt : q % zero.cells.size < zero.cells.size := Nat.mod_lt _ (by omega)
  rw [getElem!_pos zero.cells _ hlt]
  have hx : z.cells[q % zero.cells.size]? = some (z.cells[q % zero.cells.size]'(by omega)) := List.getElem?_eq_getElem (by omega)
  exact (c2 _ _ _ hx (by simp [hlt])).oneCell (AVal.flat_leaf (List.all_eq_true.1 hflat _ (List.getElem_mem _)))
 refine ⟨fun q e he => ?_, ?_, (Builtin.zeroCells zero.cells k).toList, by simpa using hus, hone, fun q e j x he hx => ?_, ?_, ?_⟩
 ·obtain ⟨_, rfl⟩ := hels q e he
  exact ⟨by rw [z1]; exact hsz, z2⟩
 ·intro hnil ad n c hnc
  have hk0 : k = 0 := by simpa using hnil
  subst hk0
  cases ad <;> simp [Builtin.append_, run_underlying' hst, run_underlying' hxt, sizeOf, typeInfo, hinf, asInt, asIntOf, w0, hnc, storeCells]
 ·obtain ⟨hq, rfl⟩ := hels q e he
  rw [z1] at hx
  have hj : j < zero.cells.size := by have := (List.getElem?_eq_some_iff.1 hx).1; omega
  refine ⟨zero.cells[j], ?_, c2 j x _ hx (by simp [hj])⟩
  rw [← hzs, Array.getElem?_toList]
  exact zeroCells_get hq hj
 ·rintro g n c hle cur ty hg hfit ad rfl
  simp only [List.length_replicate] at hle ⊢
  have hst' := run_storeCells_at P g (n * i.size) ty (Builtin.zeroCells zero.cells k).toList 0 cur w hg (by simpa using hfit) hone
  simp only [Nat.add_zero] at hst'
  by_cases hk0 : k * i.size = 0
  ·have hk : k = 0 := by rcases Nat.mul_eq_zero.1 hk0 with h | h <;> omega
   subst hk
   have hz0 : Builtin.zeroCells zero.cells 0 = #[] := by simp [Builtin.zeroCells]
   rw [hz0] at hst'
   simp [Builtin.append_, run_underlying' hst, run_underlying' hxt, sizeOf, typeInfo, hinf, asInt, asIntOf, w0, show n ≤ c from by simpa using hle, Addr.add_none, hz0] at hst' ⊢
   simp [hst']
  ·simp [Builtin.append_, run_underlying' hst, run_underlying' hxt, sizeOf, typeInfo, hinf, asInt, asIntOf, wk, n1, n2, hle, hk0, zeroValue, hz, Addr.add_none, hst']
 ·intro old n c olds hnc hlt holds hfirst hbytes hmax
  simp only [List.length_replicate] at hlt hbytes hmax ⊢
  have hn : ¬ (n + k ≤ c) := by omega
  have h48' : ¬ (281474976710656 < Builtin.nextslicecap (n + k) c * i.bytes) := by
   have := growslice_fits (need := n + k) (old := c) (bytes := i.bytes) hlt hbytes
   omega
  have f1 := hfirst w.drew rfl
  have h63' : ¬ (9223372036854775807 < ((n : Int) + (k : Int))) := by simp [maxLen] at hmax; omega
  refine ⟨grownCap w (n + k) c e, grownCap_ge w _ _ _, grownCap_le_maxLen w _ _ _ hmax, ?_⟩
  by_cases hk0 : k * i.size = 0
  ·have hk : k = 0 := by rcases Nat.mul_eq_zero.1 hk0 with h | h <;> omega
   omega
  ·simp [Builtin.append_, run_underlying' hst, run_underlying' hxt, sizeOf, typeInfo, hinf, asInt, asIntOf, wk, n1, n2, hn, h63', h48', hk0, Question.forced, f1, newRow, grownCap, zeroValue, hz]
def Made (P : Program) (s : Sem Value) (w : World) (ι : Emb) (S T : Nat → Prop) (h : Heap) (next : Free) (r : AVal) (h' : Heap) : Prop :=
 ∃ v' w' ι' S', s.run P w = .ok v' w' ∧ Rep ι' S' T w' r v' ∧ Inv ι' S' T h' w' next ∧ Step ι S T h w ι' S' h' w'
theorem Made.good {s : Sem Value} {next' : Free} (hm : Made P s w ι S T h next' r h') (he : ∀ v w', s.run P w = .ok v w' → (execOp a.eval o).run P w = .ok (.value v) w') : Good P o a w ι S T h next' r h' := by
 obtain ⟨v', w', ι', S', h1, h2, h3, h4⟩ := hm
 exact ⟨_, v', w', ι', S', he _ _ h1, .inl rfl, h2, h3, h4⟩
theorem made_same {s : Sem Value} {v : Value} {next' : Free} (hi : Inv ι S T h w next) (hn : ∀ id, next' id → next id) (he : s.run P w = .ok v w) (hr : Rep ι S T w r v) : Made P s w ι S T h next' r h :=
 ⟨v, w, ι, S, he, hr, hi.mono hn, .refl ..⟩
theorem new_row (hi : Inv ι S T h w next) (hn : next nid) {es : List AVal} {sz cap : Nat} {arr : Array Value} {e : TypeId} {w' : World} (hw : w'.heap = w.heap.push (.cells arr e)) (hos : w'.os = w.os) (htape : w'.tape = w.tape) (hout : w'.output = w.output)
  (hpos : 0 < sz) (hle : es.length ≤ cap) (hmax : cap ≤ maxLen) (hsize : arr.size = cap * sz) (hel : ∀ (i : Nat) (e : AVal), es[i]? = some e → e.cells.length = sz ∧ e.closed = true)
  (hc : ∀ (i : Nat) (e : AVal) (j : Nat) (x : AVal), es[i]? = some e → e.cells[j]? = some x → ∃ u, arr[i * sz + j]? = some u ∧ Rep ι S T w x u) :
  ∃ ι', ι' nid = some ⟨w.heap.size, sz, cap⟩ ∧ Inv ι' S T (h ++ [(nid, .row es sz)]) w' (next.but nid) ∧ Step ι S T h w ι' S (h ++ [(nid, .row es sz)]) w' ∧ Rep ι' S T w' (.own nid sz 0 es.length false) (.slice (some ⟨w.heap.size, 0, none⟩) es.length cap) := by
 obtain ⟨ι', h1, h2, h3⟩ := hi.new hn (.cells arr e) ⟨w.heap.size, sz, cap⟩ (.row es sz) rfl hw hos htape hout (by
  intro ι' _ _ hm
  refine ⟨rfl, hpos, hle, hmax, arr, e, push_new w _ hw, hsize, fun i e he => ⟨(hel i e he).1, (hel i e he).2, fun j x hx => ?_⟩⟩
  obtain ⟨u, hu, hr⟩ := hc i e j x he hx
  exact ⟨u, hu, hm _ _ hr⟩)
 exact ⟨ι', h1, h2, h3, .own nid sz 0 es.length false ⟨w.heap.size, sz, cap⟩ cap 0 h1 rfl hle (by simp) (by simp) (by simp) (by simp)⟩
theorem made_row (hi : Inv ι S T h w next) (hn : next nid) {s : Sem Value} {es : List AVal} {sz cap : Nat} {arr : Array Value} {e : TypeId} {w' : World} (hrun : s.run P w = .ok (.slice (some ⟨w.heap.size, 0, none⟩) es.length cap) w')
  (hw : w'.heap = w.heap.push (.cells arr e)) (hos : w'.os = w.os) (htape : w'.tape = w.tape) (hout : w'.output = w.output)
  (hpos : 0 < sz) (hle : es.length ≤ cap) (hmax : cap ≤ maxLen) (hsize : arr.size = cap * sz) (hel : ∀ (i : Nat) (e : AVal), es[i]? = some e → e.cells.length = sz ∧ e.closed = true)
  (hc : ∀ (i : Nat) (e : AVal) (j : Nat) (x : AVal), es[i]? = some e → e.cells[j]? = some x → ∃ u, arr[i * sz + j]? = some u ∧ Rep ι S T w x u) :
  Made P s w ι S T h (next.but nid) (.own nid sz 0 es.length false) (h ++ [(nid, .row es sz)]) := by
 obtain ⟨ι', _, h2, h3, h4⟩ := new_row hi hn hw hos htape hout hpos hle hmax hsize hel hc
 exact ⟨_, w', ι', S, hrun, h4, h2, h3⟩
theorem nodeRep_lt {L : Loc} {n : Node} (h : NodeRep ι S T w L n) : L.block < w.heap.size := by
 cases n with
 | var cs =>
  obtain ⟨arr, ty, h1, _⟩ := h
  exact (Array.getElem?_eq_some_iff.1 h1).1
 | row es sz =>
  obtain ⟨_, _, _, _, arr, ty, h1, _⟩ := h
  exact (Array.getElem?_eq_some_iff.1 h1).1
 | map es =>
  obtain ⟨mes, clock, h1, _⟩ := h
  exact (Array.getElem?_eq_some_iff.1 h1).1
 | iter l pos => exact (Array.getElem?_eq_some_iff.1 (show w.heap[L.block]? = some _ from h)).1
theorem made_tview (hi : Inv ι S T h w next) {s : Sem Value} {es : List AVal} {sz : Nat} {arr : Array Value} {e : TypeId} {w' : World} (hrun : s.run P w = .ok (.slice (some ⟨w.heap.size, 0, none⟩) es.length es.length) w')
  (hw : w'.heap = w.heap.push (.cells arr e)) (hos : w'.os = w.os) (htape : w'.tape = w.tape) (hout : w'.output = w.output)
  (hsz : ∀ (i : Nat) (e : AVal), es[i]? = some e → e.cells.length = sz) (hcl : ∀ (i : Nat) (e : AVal), es[i]? = some e → e.closedT = true)
  (hc : ∀ (i : Nat) (e : AVal) (j : Nat) (x : AVal), es[i]? = some e → e.cells[j]? = some x → ∃ u, arr[i * sz + j]? = some u ∧ Rep ι S T w x u) :
  Made P s w ι S T h next (.view sz es true true) h := by
 have hold : ∀ b, b < w.heap.size → w'.heap[b]? = w.heap[b]? := by
  intro b hb
  rw [hw, Array.getElem?_push_lt hb, Array.getElem?_eq_getElem hb]
 have hnew : w'.heap[w.heap.size]? = some (.cells arr e) := by
  rw [hw, Array.getElem?_push_size]
 have hsz' : w'.heap.size = w.heap.size + 1 := by rw [hw, Array.size_push]
 have hrm : ∀ {x v}, Rep ι S T w x v → Rep ι (fun b => S b ∨ b = w.heap.size) T w' x v := fun h => h.mono (fun _ _ h => h) (fun _ h => .inl h) (fun _ h => h) fun b hb => hold b (hb.elim (hi.s_lt b) (hi.t_lt b))
 refine ⟨_, w', ι, fun b => S b ∨ b = w.heap.size, hrun, ?_, ?_, ?_⟩
 ·have hex : ∀ (i : Nat) (e : AVal) (j : Nat) (x : AVal), es[i]? = some e → e.cells[j]? = some x → arr[i * sz + j]? = some (arr[i * sz + j]?.getD undef) := by
   intro i e j x he hx
   obtain ⟨u, hu, _⟩ := hc i e j x he hx
   rw [hu]
   rfl
  refine .view sz es true true w.heap.size 0 es.length none (fun i j => arr[i * sz + j]?.getD undef) (.inl rfl) (Nat.le_refl _) (fun _ => rfl) (fun i e he => .inr (.inr rfl)) hsz (fun i e he => hcl i e he) (fun i e j x he hx => ?_) (fun i e j x he hx => ?_)
  ·have := hex i e j x he hx
   simp only [World.cell?, hnew, Nat.zero_add]
   exact this
  ·obtain ⟨u, hu, hr⟩ := hc i e j x he hx
   show Rep _ _ _ _ _ (arr[i * sz + j]?.getD undef)
   rw [hu]
   exact hrm hr
 ·refine ⟨hi.nodup, fun id n hm => ?_, hi.inj, hi.fresh, fun b hb => ?_, fun b hb => by have := hi.t_lt b hb; omega⟩
  ·obtain ⟨L, h1, h2, h3, h4⟩ := hi.node id n hm
   have hlt := nodeRep_lt h4
   refine ⟨L, h1, fun h => h.elim h2 (fun h => by omega), h3, h4.mono (fun _ _ h => h) (fun _ h => .inl h) (fun _ h => h) (fun b hb => hold b (hb.elim (hi.s_lt b) (hi.t_lt b))) (hold _ hlt)⟩
  ·rcases hb with h | h
   ·have := hi.s_lt b h; omega
   ·omega
 ·exact ⟨fun _ _ h => h, fun _ h => .inl h, fun b hb _ => hold b hb, by omega, fun b h => .inr h, fun b h => h.elim .inl (fun h => .inr (.inl (by omega))), hos, htape, hout⟩
theorem Made.weak {s : Sem Value} {next' : Free} (hm : Made P s w ι S T h next r h') (hn : ∀ id, next' id → next id) : Made P s w ι S T h next' r h' := by
 obtain ⟨v', w', ι', S', e1, e2, e3, e4⟩ := hm
 exact ⟨v', w', ι', S', e1, e2, e3.mono hn, e4⟩
theorem append_el {es xs : List AVal} {sz : Nat} (h1 : ∀ (i : Nat) (e : AVal), es[i]? = some e → e.cells.length = sz ∧ e.closed = true) (h2 : ∀ (i : Nat) (e : AVal), xs[i]? = some e → e.cells.length = sz ∧ e.closed = true) :
  ∀ (i : Nat) (e : AVal), (es ++ xs)[i]? = some e → e.cells.length = sz ∧ e.closed = true := by
 intro i e he
 by_cases hi : i < es.length
 ·rw [List.getElem?_append_left hi] at he; exact h1 i e he
 ·rw [List.getElem?_append_right (by omega)] at he; exact h2 _ e he
theorem room_max {n : Nat} (h : n < roomMax) : n ≤ maxLen := by simp [roomMax, maxLen] at *; omega
theorem made_grow (hi : Inv ι S T h w next) (hn : next nid) {ats : Array TypeId} {x : Value} {es xs : List AVal} {sz bytes n c : Nat} {e : TypeId} {zero : Value} {old : Option Addr} (ha : App P ι S T w ats x xs sz e bytes zero) (hsrc : Src P ι S T w (.slice old n c) es sz)
  (hpos : 0 < sz) (hzs : zero.cells.size = sz) (hen : es.length = n) (hnc : n ≤ c) (hlt : c < n + xs.length) (hb : (n + xs.length) * bytes ≤ roomMax) (hr : n + xs.length < roomMax) :
  Made P (Builtin.append_ ats 0 #[.slice old n c, x]) w ι S T h (next.but nid) (.own nid sz 0 (n + xs.length) false) (h ++ [(nid, .row (es ++ xs) sz)]) := by
 obtain ⟨us, u1, u2, u3, _, ugrow⟩ := ha.run
 obtain ⟨olds, o1, o2, o3⟩ := hsrc.cells es.length (Nat.le_refl _)
 rw [hen] at o1 o2
 obtain ⟨cap, c1, c2, c3⟩ := ugrow old n c olds hnc hlt o1 o2 hb (room_max hr)
 have hl : (es ++ xs).length = n + xs.length := by simp [hen]
 have := made_row (P := P) (w' := w.drew.alloc (.cells (olds.toArray ++ us.toArray ++ Builtin.zeroCells zero.cells (cap - (n + xs.length))) e)) (es := es ++ xs) (sz := sz) (cap := cap) (h := h) hi hn (s := Builtin.append_ ats 0 #[.slice old n c, x]) (by rw [c3, hl]) rfl rfl rfl rfl hpos (by omega) c2
  (by
   have : n * sz + xs.length * sz + (cap - (n + xs.length)) * sz = cap * sz := by rw [← Nat.add_mul, ← Nat.add_mul]; congr 1; omega
   simp only [Array.size_append, List.size_toArray, size_zeroCells, hzs, o1, u1]
   exact this)
  (append_el hsrc.elem ha.elem)
  (fun i e j x he hx => by
   obtain ⟨u, hu, hr⟩ := two_rows (ι := ι) (S := S) (T := T) (w := w) (us := olds) (vs := us) (by rw [o1, hen]) (fun i e j x he hx => o3 i e j x (List.getElem?_eq_some_iff.1 he).1 he hx) u3 (Builtin.zeroCells zero.cells (cap - (n + xs.length))).toList i e j x he hx
   refine ⟨u, ?_, hr⟩
   rw [← hu, ← Array.getElem?_toList]
   simp)
 rwa [hl] at this
end
end Go.Abs
