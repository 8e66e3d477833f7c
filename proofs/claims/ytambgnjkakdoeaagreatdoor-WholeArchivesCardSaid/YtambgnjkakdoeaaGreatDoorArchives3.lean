import Derived.Test.YtambgnjkakdoeaaGreatDoorArchives2
import Derived.Lib.ConvBytes
/- PART OF A PROOF (texts joined by a program): S10 S11 S12 S13 S14 S15. -/
set_option linter.unusedVariables false
set_option linter.unusedSimpArgs false
set_option linter.unusedSectionVars false
namespace Go.Abs
section
variable {gl : Globs} {P : Program} {ι : Emb} {S T : Nat → Prop} {w : World} {h h' : Heap} {next : Free} {o : Oper} {a : Act} {env : List AVal} {r : AVal} {nid : Nat} {ts : List TypeId} {op : AOp}
theorem Made.trans {s : Sem Value} {ι1 : Emb} {S1 : Nat → Prop} {h1 : Heap} {next' : Free} (st : Step ι S T h w ι1 S1 h1 w) (hm : Made P s w ι1 S1 T h1 next' r h') : Made P s w ι S T h next' r h' := by
 obtain ⟨v', w', ι', S', e1, e2, e3, e4⟩ := hm
 exact ⟨v', w', ι', S', e1, e2, e3, st.trans e4⟩
set_option maxHeartbeats 400000 in
theorem appendTo_sound {ats : Array TypeId} {x v : Value} {s : AVal} {xs : List AVal} {sz bytes : Nat} {e : TypeId} {zero : Value} (ha : App P ι S T w ats x xs sz e bytes zero) (hs : Rep ι S T w s v) (hi : Inv ι S T h w next) (hn : next nid)
  (hpos : 0 < sz) (hzs : zero.cells.size = sz) (hr : appendTo bytes sz s xs nid h = some (r, h')) : Made P (Builtin.append_ ats 0 #[v, x]) w ι S T h (next.but nid) r h' := by
 unfold appendTo at hr
 split at hr
 ·-- nil
  have hv := hs.lit_inv
  subst hv
  split at hr
  ·rename_i hx
   simp at hr
   obtain ⟨rfl, rfl⟩ := hr
   exact made_same hi (fun _ h => h.1) (ha.empty (by simpa using hx) none 0 0 (Nat.le_refl _)) (.lit _)
  ·rename_i hx
   split at hr <;> simp at hr
   rename_i hc
   obtain ⟨rfl, rfl⟩ := hr
   have hsrc : Src P ι S T w (.slice none 0 0) [] sz := src_slice .nil (by simp)
   have hxp : 0 < xs.length := by
    rcases Nat.eq_zero_or_pos xs.length with h0 | h0
    ·exact absurd (List.eq_nil_of_length_eq_zero h0) (by simpa using hx)
    ·exact h0
   have := made_grow hi hn ha hsrc hpos hzs rfl (Nat.le_refl _) (by omega) (by simpa using hc.1) (by simpa using hc.2)
   simpa using this
 ·-- a view, its capacity its length
  rename_i z es tmp
  obtain ⟨b, off, c, sp, vs, hv, hsp, hc, hclip, hS, hsz, hcl, hcell, hrep⟩ := hs.view_inv
  subst hv
  have hce : c = es.length := hclip rfl
  subst hce
  split at hr
  ·rename_i hx
   simp at hr
   obtain ⟨rfl, rfl⟩ := hr
   exact made_same hi (fun _ h => h.1) (ha.empty (by simpa using hx) _ _ _ (Nat.le_refl _)) hs
  ·rename_i hx
   split at hr <;> simp at hr
   rename_i hcnd
   obtain ⟨rfl, rfl⟩ := hr
   obtain ⟨rfl, hb1, hb2, htc⟩ := hcnd
   have hsrc : Src P ι S T w (.slice (some ⟨b, off, sp⟩) es.length es.length) es z := by
    refine src_slice ?_ fun i e he => ⟨hsz i e he, ?_⟩
    case refine_2 =>
     have hc1 := hcl i e he
     cases tmp with
     | false => exact hc1
     | true => exact List.all_eq_true.1 (htc.resolve_left (by simp)) e (List.mem_of_getElem? he)
    rcases hsp with rfl | h0
    ·exact .some b off _ z es hc hsz fun i e j y he hy => ⟨_, hcell i e j y he hy, hrep i e j y he hy⟩
    ·obtain rfl : es = [] := List.eq_nil_of_length_eq_zero h0
     exact .empty _
   have hxp : 0 < xs.length := by
    rcases Nat.eq_zero_or_pos xs.length with h0 | h0
    ·exact absurd (List.eq_nil_of_length_eq_zero h0) (by simpa using hx)
    ·exact h0
   exact made_grow hi hn ha hsrc hpos hzs rfl (Nat.le_refl _) (by omega) hb1 hb2
 ·-- owned
  rename_i id z len clip
  split at hr <;> try (simp at hr; done)
  rename_i es s hg
  split at hr <;> try (simp at hr; done)
  rename_i hcnd
  obtain ⟨rfl, hle, hb1, hb2⟩ := hcnd
  obtain ⟨L, c, off, hv, hL, hLs, hlc, hcap, hclip, hnc, ho⟩ := hs.own_inv
  subst hv
  obtain ⟨L', hL', hnS, hnT, hnode⟩ := hi.get hg
  rw [hL] at hL'; cases hL'
  have hss : s = z := by rw [← hnode.1, hLs]
  subst hss
  have hel : ∀ (i : Nat) (e : AVal), (es.take len)[i]? = some e → es[i]? = some e := by
   intro i e he
   rw [List.getElem?_take] at he
   split at he
   ·exact he
   ·cases he
  have hlen : (es.take len).length = len := by simp; omega
  have hshow : Shows ι S T w (.slice (some ⟨L.block, off, none⟩) len c) (es.take len) := by
   have := elems_sound (h := h) (es := es.take len) hi hs (by simp [elems, hg, hle])
   exact this
  have hsrc : Src P ι S T w (.slice (some ⟨L.block, off, none⟩) len c) (es.take len) s :=
   src_slice hshow fun i e he => ⟨(row_cell hnode (hel i e he)).1, (row_cell hnode (hel i e he)).2.1⟩
  split at hr
  ·-- clipped
   rename_i hct
   subst hct
   have hcl : c = len := hclip rfl
   subst hcl
   split at hr
   ·rename_i hx
    simp at hr
    obtain ⟨rfl, rfl⟩ := hr
    exact made_same hi (fun _ h => h.1) (ha.empty (by simpa using hx) _ _ _ (Nat.le_refl _)) hs
   ·rename_i hx
    simp at hr
    obtain ⟨rfl, rfl⟩ := hr
    have hxp : 0 < xs.length := by
     rcases Nat.eq_zero_or_pos xs.length with h0 | h0
     ·exact absurd (List.eq_nil_of_length_eq_zero h0) (by simpa using hx)
     ·exact h0
    exact made_grow hi hn ha hsrc hpos hzs hlen (Nat.le_refl _) (by omega) hb1 hb2
  ·rename_i hcf
   have hcf : clip = false := by simpa using hcf
   subst hcf
   simp at hr
   obtain ⟨rfl, rfl⟩ := hr
   have hcc : c = L.cap := by have := hnc rfl; omega
   by_cases hroom : len + xs.length ≤ c
   ·obtain ⟨n0, npos, n1, n2, arr, ty, n3, n4, n5⟩ := hnode
    obtain ⟨us, u1, u2, u3, uroom, _⟩ := ha.run
    have hxsnil : c = 0 → xs = [] := fun h0 => List.eq_nil_of_length_eq_zero (by omega)
    by_cases hc0 : c = 0
    ·-- nothing there, nothing comes
     have hx := hxsnil hc0
     subst hx
     have hl0 : len = 0 := by omega
     subst hl0
     obtain ⟨ι', h1, h2, h3⟩ := hi.renew hn (w' := w) (n := .row (es.take 0 ++ []) s) (Heap.get_mem hg) hL (fun _ _ => rfl) rfl rfl rfl rfl (by
      intro ι' hι hm
      exact ⟨n0, npos, by simp, n2, arr, ty, n3, n4, by simp⟩)
     refine ⟨_, w, ι', S, ha.empty rfl _ _ _ (by omega), ?_, h2, h3⟩
     exact .own nid s 0 _ false L c off h1 hLs (by simp) (by omega) (by simp) (by intro _; omega) (by omega)
    ·have hoff : off = 0 := by rw [ho (by omega)]; simp
     subst hoff
     have hfit : len * s + us.length ≤ arr.size := by
      rw [u1, n4, ← Nat.add_mul]
      exact Nat.mul_le_mul_right _ (by omega)
     have hrun := uroom L.block len c hroom arr ty n3 hfit _ rfl
     obtain ⟨ι', h1, h2, h3⟩ := hi.renew hn (w' := w.setRow L.block (arr.toList.take (len * s) ++ us ++ arr.toList.drop (len * s + us.length)).toArray) (n := .row (es.take len ++ xs) s) (Heap.get_mem hg) hL
      (fun b hb => setRow_other' w _ b _ hb) (by simp) rfl rfl rfl (by
       intro ι' hι hm
       refine ⟨n0, npos, by simp; omega, n2, _, ty, setRow_heap w _ _ _ ty (0, 0) n3, by simp; omega, fun i e he => ?_⟩
       have h1 := append_el (es := es.take len) (xs := xs) hsrc.elem ha.elem i e he
       refine ⟨h1.1, h1.2, fun j x hx => ?_⟩
       have hrow := two_rows (ι := ι) (S := S) (T := T) (w := w) (es := es.take len) (xs := xs) (us := arr.toList.take (len * s)) (vs := us) (sz := s) (by rw [hlen]; simp; rw [n4]; exact Nat.min_eq_left (Nat.mul_le_mul_right _ (by omega))) (fun i e j x he hx => by
        obtain ⟨q1, q2, q3⟩ := n5 i e (hel i e he)
        obtain ⟨u, hu, hr⟩ := q3 j x hx
        refine ⟨u, ?_, hr⟩
        have hi' : i < len := by have := (List.getElem?_eq_some_iff.1 he).1; omega
        have hj : j < s := by have := (List.getElem?_eq_some_iff.1 hx).1; omega
        have : (i + 1) * s ≤ len * s := Nat.mul_le_mul_right _ hi'
        rw [Nat.succ_mul] at this
        rw [List.getElem?_take, if_pos (by omega)]
        simpa using hu) u3 (arr.toList.drop (len * s + us.length)) i e j x he hx
       obtain ⟨u, hu, hr⟩ := hrow
       exact ⟨u, by simpa using hu, hm _ _ hr⟩)
     refine ⟨_, _, ι', S, hrun, ?_, h2, h3⟩
     exact .own nid s 0 _ false L c 0 h1 hLs hroom (by omega) (by simp) (by intro _; omega) (by intro _; simp)
   ·obtain ⟨d1, d2⟩ := hi.del id
    exact (made_grow d1 hn ha hsrc hpos hzs hlen hlc (by omega) hb1 hb2).trans d2
 ·simp at hr
theorem append_run {x y : Operand} {ats : Array TypeId} {v : Value} {w' : World} (ho : o.op = .call { callee := .builtin .append, args := #[x, y], argTypes := ats })
  (hr : (Builtin.append_ ats 0 #[a.eval x, a.eval y]).run P w = .ok v w') : (execOp a.eval o).run P w = .ok (.value v) w' := by
 have e : Builtin.append_ ats o.type #[a.eval x, a.eval y] = Builtin.append_ ats 0 #[a.eval x, a.eval y] := rfl
 simp [execOp, ho, resolve, invoke, builtin, e, hr]
theorem good_app {x y : Operand} {st xt e : TypeId} {x' y' : AOpd} {i : TypeInfo} {zero : Value} (ho : o.op = .call { callee := .builtin .append, args := #[x, y], argTypes := #[st, xt] }) (hx : trOpd gl x = some x') (hy : trOpd gl y = some y')
  (hst : P.underlying st = some (.slice e)) (hxt : P.underlying xt = some .string ∨ ∃ e', P.underlying xt = some (.slice e')) (hinf : P.info? e = some i) (hz : i.zero = some zero) (hzs : zero.cells.size = i.size)
  (hi : Inv ι S T h w next) (hn : next nid) (henv : EnvRep gl ι S T w env a.tmps)
  (hr : aop (.app i.bytes i.size x' y') env nid h = some (r, h')) : Good P o a w ι S T h (next.but nid) r h' := by
 simp only [aop] at hr
 split at hr <;> try (simp at hr; done)
 rename_i hc
 split at hr <;> try (simp at hr; done)
 rename_i xs hxs
 have hsrc := appended_sound (P := P) hi (opd_rep henv hy) hc.1 hxs
 exact (appendTo_sound (app_slice hst hxt hinf hz hsrc) (opd_rep henv hx) hi hn hc.2 hzs hr).good fun v w' hv => append_run ho hv
theorem good_appz {x y : Operand} {st xt e : TypeId} {x' y' : AOpd} {i : TypeInfo} {zero : Value} {z : AVal} (ho : o.op = .call { callee := .builtin .append, args := #[x, y], argTypes := #[st, xt] }) (hx : trOpd gl x = some x') (hy : trOpd gl y = some y')
  (hst : P.underlying st = some (.slice e)) (hxt : P.underlying xt = some (.int .i64)) (hinf : P.info? e = some i) (hz : i.zero = some zero) (hcz : constOf zero = some z)
  (hi : Inv ι S T h w next) (hn : next nid) (henv : EnvRep gl ι S T w env a.tmps)
  (hr : aop (.appz i.bytes i.size z.cells x' y') env nid h = some (r, h')) : Good P o a w ι S T h (next.but nid) r h' := by
 simp only [aop] at hr
 split at hr <;> try (simp at hr; done)
 rename_i n hb
 split at hr <;> try (simp at hr; done)
 rename_i hc
 obtain ⟨h0, h63, hby, hsz, hpos, hflat⟩ := hc
 have h1 := opd_rep henv hy
 rw [hb] at h1
 have hv := h1.int_inv
 obtain ⟨c1, _⟩ := const_cells (ι := ι) (S := S) (T := T) (w := w) hcz
 have := appendTo_sound (app_zeros (P := P) (ι := ι) (S := S) (T := T) (w := w) hst hxt hinf hz hcz h0 h63 hby hsz hpos hflat) (opd_rep henv hx) hi hn hpos (by omega) hr
 rw [← hv] at this
 exact this.good fun v w' hv => append_run ho hv
theorem good_mksl {t e : TypeId} {n c : Operand} {n' c' : AOpd} {i : TypeInfo} {zero : Value} {z : AVal} (ho : o.op = .makeSlice t n c) (hnn : trOpd gl n = some n') (hcc : trOpd gl c = some c') (hu : P.underlying t = some (.slice e)) (hinf : P.info? e = some i) (hz : i.zero = some zero) (hcz : constOf zero = some z)
  (hi : Inv ι S T h w next) (hn : next nid) (henv : EnvRep gl ι S T w env a.tmps)
  (hr : aop (.mksl i.bytes i.size z.cells n' c') env nid h = some (r, h')) : Good P o a w ι S T h (next.but nid) r h' := by
 have h1 := opd_rep henv hnn
 have h2 := opd_rep henv hcc
 simp only [aop] at hr
 split at hr
 ·rename_i l k hb1 hb2
  split at hr <;> simp only [Option.some.injEq, Prod.mk.injEq, reduceCtorEq] at hr
  rename_i hc
  obtain ⟨rfl, rfl⟩ := hr
  obtain ⟨h0, hlk, hby, h63, hsz, hpos, hflat, hleaf⟩ := hc
  rw [hb1] at h1
  rw [hb2] at h2
  obtain ⟨z1, z2⟩ := zero_elem hsz hflat
  obtain ⟨c1, c2⟩ := const_cells (ι := ι) (S := S) (T := T) (w := w) hcz
  obtain ⟨q, rfl⟩ := Int.eq_ofNat_of_zero_le h0
  obtain ⟨p, rfl⟩ := Int.eq_ofNat_of_zero_le (show 0 ≤ k by omega)
  simp only [Int.toNat_natCast] at hby ⊢
  have hby' : (i.bytes : Int) * (p : Int) ≤ 281474976710656 := by
   have : ((p * i.bytes : Nat) : Int) ≤ roomMax := by omega
   simp [roomMax] at this
   rw [Int.mul_comm]; omega
  have hrun := run_make (P := P) w t e i zero hu hinf hz .i64 .i64 q p h0 hlk hby' (by omega)
  simp only [Int.toNat_natCast] at hrun
  have hel : ∀ (j : Nat) (e : AVal), (List.replicate q (if i.size = 1 then z.cells.headD .junk else AVal.agg z.cells))[j]? = some e → j < q ∧ e = (if i.size = 1 then z.cells.headD .junk else AVal.agg z.cells) := by
   intro j e he
   rw [List.getElem?_replicate] at he
   split at he
   ·rename_i hq
    exact ⟨hq, (Option.some.inj he).symm⟩
   ·cases he
  have := made_row (P := P) (s := Instr.makeSlice t (.int .i64 q) (.int .i64 p)) (w' := w.alloc (.cells (madeCells zero.cells (p * i.size)) e)) (es := List.replicate q (if i.size = 1 then z.cells.headD .junk else AVal.agg z.cells)) (sz := i.size) (cap := p) hi hn (by simpa using hrun) rfl rfl rfl rfl hpos (by simp; omega) (by simp [maxLen]; omega) (by simp [madeCells])
   (fun j e he => by obtain ⟨_, rfl⟩ := hel j e he; exact ⟨by rw [z1]; exact hsz, z2⟩)
   (fun j e k x he hx => by
    obtain ⟨hj, rfl⟩ := hel j e he
    rw [z1] at hx
    have hk : k < zero.cells.size := by have := (List.getElem?_eq_some_iff.1 hx).1; omega
    refine ⟨zero.cells[k], ?_, c2 k x _ hx (by simp [hk])⟩
    have hzs : zero.cells.size = i.size := by omega
    have hlt : j * i.size + k < p * i.size := by
     have : (j + 1) * i.size ≤ p * i.size := Nat.mul_le_mul_right _ (by omega)
     rw [Nat.succ_mul] at this
     omega
    have hm : (j * i.size + k) % zero.cells.size = k := by
     rw [hzs, Nat.add_comm, Nat.add_mul_mod_self_right, Nat.mod_eq_of_lt (by omega)]
    simp [madeCells, hlt, hm, getElem!_pos, hk])
  simp only [List.length_replicate] at this
  rw [← h1.int_inv, ← h2.int_inv] at this
  exact this.good fun v w' hv => by simp [execOp, ho, hv]
 ·simp at hr
theorem good_cvsb {s d e : TypeId} {x : Operand} {x' : AOpd} (ho : o.op = .convert s d x) (hx : trOpd gl x = some x') (hs : P.underlying s = some .string) (hd : P.underlying d = some (.slice e)) (he : P.underlying e = some (.int .u8)) (hi : Inv ι S T h w next) (hn : next nid) (henv : EnvRep gl ι S T w env a.tmps)
  (hr : aop (.cvsb x') env nid h = some (r, h')) : Good P o a w ι S T h (next.but nid) r h' := by
 have h1 := opd_rep henv hx
 simp only [aop] at hr
 split at hr <;> simp at hr
 rename_i l hb
 obtain ⟨rfl, rfl⟩ := hr
 rw [hb] at h1
 have hv := h1.str_inv
 have hsz : (⟨l.toArray⟩ : ByteArray).size = l.length := by simp [ByteArray.size]
 have hrun := Lib.run_convert_string_bytes (P := P) w s d e ⟨l.toArray⟩ hs hd he
 obtain ⟨i1, i2⟩ := hi.more (w' := Lib.bytesWorld w e ⟨l.toArray⟩) (fun b hb => Lib.bytesWorld_at_old w e _ b hb) (Lib.bytesWorld_size w e _) (by simp only [Lib.bytesWorld, World.freeze]; rw [if_neg (by decide)]; rfl) (by simp only [Lib.bytesWorld, World.freeze]; rw [if_neg (by decide)]; rfl) (by simp only [Lib.bytesWorld, World.freeze]; rw [if_neg (by decide)]; rfl)
 have hel : ∀ (i : Nat) (e : AVal), (l.map AVal.byte)[i]? = some e → ∃ b, l[i]? = some b ∧ e = .byte b := by
  intro i e he
  simp at he
  obtain ⟨b, hb, rfl⟩ := he
  exact ⟨b, hb, rfl⟩
 refine ⟨.value (.slice (some ⟨w.heap.size, 0, none⟩) l.length (grownCap w l.length 0 e)), _, Lib.bytesWorld w e ⟨l.toArray⟩, ι, _, ?_, .inl rfl, ?_, i1.mono (fun _ h => h.1), i2⟩
 ·rw [hsz] at hrun
  simp only [execOp, ho, hv, Sem.run_bind, hrun, Result.andThen_ok, Sem.run_pure]
 ·have := Rep.view (ι := ι) (S := fun b => S b ∨ b = w.heap.size) (T := T) (w := Lib.bytesWorld w e ⟨l.toArray⟩) 1 (l.map .byte) false false w.heap.size 0 (grownCap w l.length 0 e) none (fun i _ => .int .u8 (l.getD i 0).toNat) (.inl rfl)
   (by have := grownCap_ge w l.length 0 e; simpa using this) (by simp) (by intro i e he; simp) (fun i e he => by obtain ⟨b, _, rfl⟩ := hel i e he; rfl) (fun i e he => by obtain ⟨b, _, rfl⟩ := hel i e he; rfl)
   (fun i e' j x he hx => by
    obtain ⟨b, hb, rfl⟩ := hel i e' he
    have hj : j = 0 := by
     have := (List.getElem?_eq_some_iff.1 hx).1
     simp [byte_cells] at this; omega
    subst hj
    have hlt := (List.getElem?_eq_some_iff.1 hb).1
    have := Lib.bytesWorld_cell w e ⟨l.toArray⟩ i (by omega)
    simpa using this)
   (fun i e' j x he hx => by
    obtain ⟨b, hb, rfl⟩ := hel i e' he
    have hj : j = 0 := by
     have := (List.getElem?_eq_some_iff.1 hx).1
     simp [byte_cells] at this; omega
    subst hj
    simp [byte_cells] at hx
    subst hx
    have : l.getD i 0 = b := by simp [List.getD, hb]
    rw [this]
    exact .int _ _)
  simpa using this
theorem view_of_own' {S' T' : Nat → Prop} {w' : World} (tmp : Bool) (hT : ∀ b, T b → T' b) (hi : Inv ι S T h w next) {id z off len : Nat} {clip : Bool} {v : Value} {es : List AVal} {s : Nat} (hx : Rep ι S T w (.own id z off len clip) v) (hg : h.get id = some (.row es s)) (hle : off + len ≤ es.length)
  (hS : ∀ b, S b → S' b) {L : Loc} (hL : ι id = some L) (hSL : if tmp = true then T' L.block else S' L.block) (hst : ∀ b, S b ∨ T b → w'.heap[b]? = w.heap[b]?) (hcell : ∀ k, w'.cell? ⟨L.block, k, none⟩ = w.cell? ⟨L.block, k, none⟩) : Rep ι S' T' w' (.view z ((es.drop off).take len) clip tmp) v := by
 obtain ⟨L', c, o, hv, hL', hz, hc, hcap, hclip, hnc, ho⟩ := hx.own_inv
 rw [hL] at hL'; cases hL'
 subst hv
 obtain ⟨L', hL', _, _, hn⟩ := hi.get hg
 rw [hL] at hL'; cases hL'
 have hsz : s = z := by rw [← hn.1, hz]
 subst hsz
 have hlen : ((es.drop off).take len).length = len := by simp; omega
 have key := fun (i : Nat) (e : AVal) (he : ((es.drop off).take len)[i]? = some e) => row_cell hn (nth_take_drop he).1
 have cellAt : ∀ (i : Nat) (e : AVal) (j : Nat) (x : AVal), ((es.drop off).take len)[i]? = some e → e.cells[j]? = some x → ∃ u, w.cell? ⟨L.block, o + i * s + j, none⟩ = some u ∧ Rep ι S T w x u := by
  intro i e j x he hx
  obtain ⟨u, hu, hr⟩ := (key i e he).2.2 j x hx
  have hi' := (nth_take_drop he).2
  refine ⟨u, ?_, hr⟩
  rw [← hu, ho (by omega)]
  congr 2
  rw [Nat.add_mul]
 have := Rep.view (ι := ι) (S := S') (T := T') (w := w') s ((es.drop off).take len) clip tmp L.block o c none (fun i j => (w.cell? ⟨L.block, o + i * s + j, none⟩).getD undef) (.inl rfl)
  (by omega) (by intro h; rw [hlen]; exact hclip h) (fun i e he => by
   cases tmp with
   | false => exact hSL
   | true => exact .inl hSL) (fun i e he => (key i e he).1) (fun i e he => by
   have := (key i e he).2.1
   cases tmp with
   | false => exact this
   | true => exact List.all_eq_true.2 fun y hy => AVal.flat_T (List.all_eq_true.1 this y hy))
  (fun i e j x he hx => by
   obtain ⟨u, hu, _⟩ := cellAt i e j x he hx
   rw [hcell]; simp [hu])
  (fun i e j x he hx => by
   obtain ⟨u, hu, hr⟩ := cellAt i e j x he hx
   simp only [hu, Option.getD_some]
   exact hr.mono (fun _ _ h => h) hS hT hst)
 rwa [hlen] at this
theorem view_of_own {S' : Nat → Prop} {w' : World} (hi : Inv ι S T h w next) {id z off len : Nat} {clip : Bool} {v : Value} {es : List AVal} {s : Nat} (hx : Rep ι S T w (.own id z off len clip) v) (hg : h.get id = some (.row es s)) (hle : off + len ≤ es.length)
  (hS : ∀ b, S b → S' b) {L : Loc} (hL : ι id = some L) (hSL : S' L.block) (hst : ∀ b, S b ∨ T b → w'.heap[b]? = w.heap[b]?) (hcell : ∀ k, w'.cell? ⟨L.block, k, none⟩ = w.cell? ⟨L.block, k, none⟩) : Rep ι S' T w' (.view z ((es.drop off).take len) clip false) v :=
 view_of_own' false (fun _ h => h) hi hx hg hle hS hL (by simpa using hSL) hst hcell
theorem good_cvb {t e : TypeId} {x : Operand} {x' : AOpd} (ho : o.op = .convert t t x) (hx : trOpd gl x = some x') (hu : P.underlying t = some (.slice e)) (he : P.underlying e = some (.int .u8)) (hi : Inv ι S T h w next) (hn : next nid) (henv : EnvRep gl ι S T w env a.tmps)
  (hr : aop (.cvb x') env nid h = some (r, h')) : Good P o a w ι S T h (next.but nid) r h' := by
 have h1 := opd_rep henv hx
 simp only [aop] at hr
 split at hr <;> try (simp at hr; done)
 rename_i id z off len clip hb
 split at hr <;> try (simp at hr; done)
 rename_i es s hg
 split at hr <;> simp at hr
 rename_i hc
 obtain ⟨rfl, rfl⟩ := hr
 rw [hb] at h1
 obtain ⟨L, c, o', hv, hL, _⟩ := h1.own_inv
 obtain ⟨L', hL', _, _, hnode⟩ := hi.get hg
 rw [hL] at hL'; cases hL'
 obtain ⟨n0, npos, n1, n2, arr, ty, n3, n4, n5⟩ := hnode
 have hsh : w.shape? L.block = some (ty, arr.size) := by simp [World.shape?, n3]
 let w' : World := w.freeze ⟨L.block, arr.size, none⟩ 1
 have hblt := hi.block_lt (Heap.get_mem hg) hL
 have hw' : ∀ b, b ≠ L.block → w'.heap[b]? = w.heap[b]? := by
  intro b hb
  simp [w', World.freeze, Array.getElem?_modify, Ne.symm hb]
 have hat : w'.heap[L.block]? = some (.cells arr ty (arr.size, arr.size + 1)) := by
  simp [w', World.freeze, Array.getElem?_modify, n3]
 have hsz : w'.heap.size = w.heap.size := by simp [w', World.freeze]
 obtain ⟨i1, i2⟩ := hi.freeze (w' := w') (Heap.get_mem hg) hL hw' hsz (by simp [w', World.freeze]) (by simp [w', World.freeze]) (by simp [w', World.freeze])
 refine ⟨.value (a.eval x), _, w', ι, _, ?_, .inl rfl, ?_, i1.mono (fun _ h => h.1), i2⟩
 ·simp [execOp, ho, hv, convert, run_underlying' hu, run_underlying' he, markStringish, hsh, w']
 ·exact view_of_own (S' := fun b => S b ∨ b = L.block) hi h1 hg hc.1 (fun _ h => .inl h) hL (.inr rfl) (hi.stable i2) (fun k => by simp [World.cell?, hat, n3])
theorem consume1_sound (hi : Inv ι S T h w next) {x y : AVal} {v : Value} {h1 : Heap} (hx : Rep ι S T w x v) (hc : consume1 h x = some (y, h1)) :
  ∃ S', Inv ι S' T h1 w next ∧ Step ι S T h w ι S' h1 w ∧ Rep ι S' T w y v := by
 unfold consume1 at hc
 split at hc
 ·rename_i id z off len clip
  split at hc <;> try (simp at hc; done)
  rename_i es s hg
  split at hc <;> simp at hc
  rename_i hle
  obtain ⟨rfl, rfl⟩ := hc
  obtain ⟨L, c, o', hv, hL, _⟩ := hx.own_inv
  obtain ⟨i1, i2⟩ := hi.freeze (w' := w) (Heap.get_mem hg) hL (fun _ _ => rfl) rfl rfl rfl rfl
  exact ⟨_, i1, i2, view_of_own (S' := fun b => S b ∨ b = L.block) hi hx hg hle (fun _ h => .inl h) hL (.inr rfl) (fun _ _ => rfl) (fun _ => rfl)⟩
 ·simp at hc
  obtain ⟨rfl, rfl⟩ := hc
  exact ⟨S, hi, .refl .., hx⟩
theorem consumeCs_sound {cs : List AVal} : ∀ {h : Heap} {S : Nat → Prop} (_ : Inv ι S T h w next) {ys : List AVal} {h1 : Heap} {vs : List Value} (_ : cs.length = vs.length) (_ : ∀ (i : Nat) (c : AVal) (v : Value), cs[i]? = some c → vs[i]? = some v → Rep ι S T w c v) (_ : consumeCs h cs = some (ys, h1)),
  ∃ S', Inv ι S' T h1 w next ∧ Step ι S T h w ι S' h1 w ∧ ys.length = vs.length ∧ ∀ (i : Nat) (c : AVal) (v : Value), ys[i]? = some c → vs[i]? = some v → Rep ι S' T w c v := by
 induction cs with
 | nil =>
  intro h S hi ys h1 vs hl hx hc
  simp [consumeCs] at hc
  obtain ⟨rfl, rfl⟩ := hc
  exact ⟨S, hi, .refl .., by simpa using hl, by simp⟩
 | cons c r ih =>
  intro h S hi ys h1 vs hl hx hc
  cases vs with
  | nil => simp at hl
  | cons v vr =>
   simp only [consumeCs, Option.bind_eq_bind, Option.bind_eq_some_iff] at hc
   obtain ⟨⟨c', h2⟩, e1, ⟨r', h3⟩, e2, e3⟩ := hc
   simp at e3
   obtain ⟨rfl, rfl⟩ := e3
   obtain ⟨S1, i1, s1, r1⟩ := consume1_sound hi (hx 0 c v rfl rfl) e1
   obtain ⟨S2, i2, s2, l2, r2⟩ := ih i1 (by simpa using hl) (fun i c v hc hv => (hx (i + 1) c v (by simpa using hc) (by simpa using hv)).step hi s1) e2
   refine ⟨S2, i2, s1.trans s2, by simp [l2], fun i q u hq hu => ?_⟩
   cases i with
   | zero => simp at hq hu; subst hq; subst hu; exact r1.step i1 s2
   | succ i => simp at hq hu; exact r2 i q u hq hu
theorem consume_sound (hi : Inv ι S T h w next) {x y : AVal} {v : Value} {h1 : Heap} (hx : Rep ι S T w x v) (hc : consume h x = some (y, h1)) :
  ∃ S', Inv ι S' T h1 w next ∧ Step ι S T h w ι S' h1 w ∧ Rep ι S' T w y v := by
 unfold consume at hc
 split at hc
 ·rename_i cs
  simp only [Option.map_eq_some_iff] at hc
  obtain ⟨⟨ys, h2⟩, e1, e2⟩ := hc
  simp at e2
  obtain ⟨rfl, rfl⟩ := e2
  obtain ⟨arr, rfl, hl, hh⟩ := hx.agg_inv
  obtain ⟨S', i1, s1, l1, r1⟩ := consumeCs_sound hi (vs := arr.toList) (by simpa using hl) (by simpa using hh) e1
  exact ⟨S', i1, s1, .agg _ _ (by simpa using l1) (by simpa using r1)⟩
 ·exact consume1_sound hi hx hc
theorem consumeL_sound {cs : List AVal} : ∀ {h : Heap} {S : Nat → Prop} (_ : Inv ι S T h w next) {ys : List AVal} {h1 : Heap} {vs : List Value} (_ : cs.length = vs.length) (_ : ∀ (i : Nat) (c : AVal) (v : Value), cs[i]? = some c → vs[i]? = some v → Rep ι S T w c v) (_ : consumeL h cs = some (ys, h1)),
  ∃ S', Inv ι S' T h1 w next ∧ Step ι S T h w ι S' h1 w ∧ ys.length = vs.length ∧ ∀ (i : Nat) (c : AVal) (v : Value), ys[i]? = some c → vs[i]? = some v → Rep ι S' T w c v := by
 induction cs with
 | nil =>
  intro h S hi ys h1 vs hl hx hc
  simp [consumeL] at hc
  obtain ⟨rfl, rfl⟩ := hc
  exact ⟨S, hi, .refl .., by simpa using hl, by simp⟩
 | cons c r ih =>
  intro h S hi ys h1 vs hl hx hc
  cases vs with
  | nil => simp at hl
  | cons v vr =>
   simp only [consumeL, Option.bind_eq_bind, Option.bind_eq_some_iff] at hc
   obtain ⟨⟨c', h2⟩, e1, ⟨r', h3⟩, e2, e3⟩ := hc
   simp at e3
   obtain ⟨rfl, rfl⟩ := e3
   obtain ⟨S1, i1, s1, r1⟩ := consume_sound hi (hx 0 c v rfl rfl) e1
   obtain ⟨S2, i2, s2, l2, r2⟩ := ih i1 (by simpa using hl) (fun i c v hc hv => (hx (i + 1) c v (by simpa using hc) (by simpa using hv)).step hi s1) e2
   refine ⟨S2, i2, s1.trans s2, by simp [l2], fun i q u hq hu => ?_⟩
   cases i with
   | zero => simp at hq hu; subst hq; subst hu; exact r1.step i1 s2
   | succ i => simp at hq hu; exact r2 i q u hq hu
end
end Go.Abs
namespace Go.Abs
section
variable {gl : Globs} {P : Program} {ι : Emb} {S T : Nat → Prop} {w : World} {h h' : Heap} {next : Free} {o : Oper} {a : Act} {env : List AVal} {r : AVal} {nid : Nat} {ts : List TypeId} {op : AOp}
theorem flat_get {l : List (List Value)} {sz : Nat} (hl : ∀ x ∈ l, x.length = sz) {i j : Nat} {x : List Value} (hx : l[i]? = some x) (hj : j < sz) : l.flatten[i * sz + j]? = x[j]? := by
 induction l generalizing i with
 | nil => simp at hx
 | cons y r ih =>
  have hy : y.length = sz := hl y (by simp)
  cases i with
  | zero =>
   simp at hx; subst hx
   simp only [List.flatten_cons, Nat.zero_mul, Nat.zero_add]
   rw [List.getElem?_append_left (by omega)]
  | succ i =>
   simp at hx
   simp only [List.flatten_cons]
   rw [Nat.succ_mul, List.getElem?_append_right (by omega)]
   have : i * sz + sz + j - y.length = i * sz + j := by omega
   rw [this]
   exact ih (fun z hz => hl z (by simp [hz])) hx
theorem flat_len {l : List (List Value)} {sz : Nat} (hl : ∀ x ∈ l, x.length = sz) : l.flatten.length = l.length * sz := by
 induction l with
 | nil => simp
 | cons y r ih =>
  rw [List.flatten_cons, List.length_append, ih fun z hz => hl z (by simp [hz]), hl y (by simp), List.length_cons, Nat.succ_mul]
  omega
theorem fill_row {size : Nat} : ∀ (l : List (Nat × Operand)) (ps : List AOpd) (n : Nat) (arr : Array Value), trRow gl n l = some ps → (∀ p ∈ l, (a.eval p.2).cells.size = size) → (n + l.length) * size ≤ arr.size →
  ∃ arr', Instr.fill (fun i => some (i * size, size)) arr (l.map fun (i, x) => (i, a.eval x)) = some arr' ∧ arr'.toList = arr.toList.take (n * size) ++ (l.map fun p => (a.eval p.2).cells.toList).flatten ++ arr.toList.drop ((n + l.length) * size) := by
 intro l
 induction l with
 | nil =>
  intro ps n arr _ _ _
  exact ⟨arr, rfl, by simp⟩
 | cons p r ih =>
  obtain ⟨i, x⟩ := p
  intro ps n arr hp hs hle
  simp only [trRow] at hp
  split at hp <;> try (simp at hp; done)
  rename_i hin
  subst hin
  split at hp <;> simp at hp
  rename_i x' r' hx hr
  have hsz : (a.eval x).cells.size = size := hs (i, x) (by simp)
  have hstep : (i + 1) * size ≤ (i + (r.length + 1)) * size := Nat.mul_le_mul_right _ (by omega)
  rw [Nat.succ_mul] at hstep
  simp only [List.length_cons] at hle
  have hfold := foldl_set (i * size) (a.eval x).cells.toList 0 arr (by simp; omega)
  simp only [Nat.add_zero] at hfold
  have hfe : (a.eval x).cells.zipIdx.foldl (fun (cs : Array Value) (c, j) => cs.setIfInBounds (i * size + j) c) arr = ((a.eval x).cells.toList.zipIdx).foldl (fun (cs : Array Value) (c, j) => cs.setIfInBounds (i * size + j) c) arr := by
   rw [← Array.foldl_toList, Array.toList_zipIdx]
  generalize hq : ((a.eval x).cells.toList.zipIdx).foldl (fun (cs : Array Value) (c, j) => cs.setIfInBounds (i * size + j) c) arr = arr1 at *
  have hsize : arr1.size = arr.size := by
   have := congrArg List.length hfold
   simp at this
   omega
  obtain ⟨arr', g1, g2⟩ := ih r' (i + 1) arr1 hr (fun p hp => hs p (by simp [hp])) (by rw [hsize, show i + 1 + r.length = i + (r.length + 1) by omega]; exact hle)
  refine ⟨arr', ?_, ?_⟩
  ·simp only [List.map_cons, Instr.fill]
   rw [if_neg (by simp; omega), hfe]
   exact g1
  ·rw [g2, hfold]
   have e1 : ((i + 1) * size) = i * size + (a.eval x).cells.toList.length := by rw [Nat.succ_mul]; simp [hsz]
   have hlen1 : (arr.toList.take (i * size)).length = i * size := by
    have : i * size ≤ arr.size := Nat.le_trans (Nat.mul_le_mul_right _ (by omega)) hle
    simp; omega
   have t1 : (arr.toList.take (i * size) ++ (a.eval x).cells.toList ++ arr.toList.drop (i * size + (a.eval x).cells.toList.length)).take ((i + 1) * size) = arr.toList.take (i * size) ++ (a.eval x).cells.toList := by
    rw [e1, List.take_append_of_le_length (by rw [List.length_append, hlen1]; omega), List.take_of_length_le (by rw [List.length_append, hlen1]; omega)]
   have t2 : (arr.toList.take (i * size) ++ (a.eval x).cells.toList ++ arr.toList.drop (i * size + (a.eval x).cells.toList.length)).drop ((i + 1 + r.length) * size) = arr.toList.drop ((i + (r.length + 1)) * size) := by
    have e2 : i + 1 + r.length = i + (r.length + 1) := by omega
    rw [e2, List.drop_append, List.drop_eq_nil_of_le (by rw [List.length_append, hlen1]; simp only [Array.length_toList]; omega), List.nil_append, List.drop_drop]
    congr 1
    rw [List.length_append, hlen1]
    simp only [Array.length_toList]
    omega
   rw [t1, t2]
   simp
theorem trRow_opds {l : List (Nat × Operand)} : ∀ {n : Nat} {ps : List AOpd}, trRow gl n l = some ps → trOpds gl (l.map (·.2)) = some ps := by
 induction l with
 | nil => intro n ps h; simpa [trRow, trOpds] using h
 | cons p r ih =>
  obtain ⟨i, x⟩ := p
  intro n ps h
  simp only [trRow] at h
  split at h <;> try (simp at h; done)
  split at h <;> simp at h
  rename_i x' r' hx hr
  subst h
  simp [trOpds, hx, ih hr]
theorem good_bslice {t e : TypeId} {len : Nat} {parts : Array (Nat × Operand)} {ps : List AOpd} {i : TypeInfo} {zero : Value} {z : AVal} (ho : o.op = .buildSlice t len parts) (hu : P.underlying t = some (.slice e)) (hinf : P.info? e = some i) (hz : i.zero = some zero) (hcz : constOf zero = some z) (hp : trRow gl 0 parts.toList = some ps)
  (hi : Inv ι S T h w next) (hn : next nid) (henv : EnvRep gl ι S T w env a.tmps)
  (hr : aop (.bslice i.size len z.cells ps) env nid h = some (r, h')) : Good P o a w ι S T h (next.but nid) r h' := by
 simp only [aop] at hr
 split at hr <;> try (simp at hr; done)
 rename_i vs h1 hcon
 have hcc : ∃ tm, (if tm = true then (vs.all AVal.closedT = true ∧ r = .view i.size vs true true ∧ h' = h1) else (vs.all AVal.closed = true ∧ r = .own nid i.size 0 len false ∧ h' = h1 ++ [(nid, .row vs i.size)])) ∧ vs.length = len ∧ allSz i.size vs = true ∧ 0 < i.size ∧ z.cells.length = i.size ∧ len * i.size ≤ 16777216 := by
  by_cases hcf : vs.all AVal.closed = false
  ·rw [if_pos hcf] at hr
   split at hr <;> simp only [Option.some.injEq, Prod.mk.injEq, reduceCtorEq] at hr
   rename_i hc
   obtain ⟨rfl, rfl⟩ := hr
   exact ⟨true, by rw [if_pos rfl]; exact ⟨hc.2.2.1, rfl, rfl⟩, hc.1, hc.2.1, hc.2.2.2⟩
  ·rw [if_neg hcf] at hr
   split at hr <;> simp only [Option.some.injEq, Prod.mk.injEq, reduceCtorEq] at hr
   rename_i hc
   obtain ⟨rfl, rfl⟩ := hr
   exact ⟨false, by rw [if_neg (by simp)]; exact ⟨hc.2.2.1, rfl, rfl⟩, hc.1, hc.2.1, hc.2.2.2⟩
 obtain ⟨tm, hcase, hlen, hall, hpos, hzl, hmax⟩ := hcc
 have hclosed : vs.all AVal.closedT = true := by
  cases tm with
  | true => exact hcase.1
  | false =>
   have h2 := hcase.1
   refine List.all_eq_true.2 fun x hx => List.all_eq_true.2 fun y hy => ?_
   exact AVal.flat_T (List.all_eq_true.1 (List.all_eq_true.1 h2 x hx) y hy)
 have hops := trRow_opds hp
 obtain ⟨l1, l2⟩ := opds_rep henv hops
 obtain ⟨S1, i1, s1, m1, m2⟩ := consumeL_sound hi (vs := (parts.toList.map (·.2)).map a.eval) (by simp at l1 ⊢; omega) l2 hcon
 simp only [List.length_map] at m1
 have hpl : parts.toList.length = len := by omega
 have hcs : ∀ (q : Nat) (x : AVal) (u : Value), vs[q]? = some x → ((parts.toList.map (·.2)).map a.eval)[q]? = some u → x.cells.length = i.size ∧ x.closedT = true ∧ u.cells.size = i.size ∧ ∀ (j : Nat) (c : AVal) (y : Value), x.cells[j]? = some c → u.cells[j]? = some y → Rep ι S1 T w c y := by
  intro q x u hx hu
  have hmem := List.mem_of_getElem? hx
  have hsz : x.cells.length = i.size := by
   have := List.all_eq_true.1 hall x hmem
   simpa using this
  have hcl : x.closedT = true := List.all_eq_true.1 hclosed x hmem
  have hleaf : x.cells.all AVal.leaf = true := List.all_eq_true.2 fun c hc => AVal.flatT_leaf (List.all_eq_true.1 hcl c hc)
  obtain ⟨d1, d2, _⟩ := (m2 q x u hx hu).cells' hleaf
  exact ⟨hsz, hcl, by omega, d2⟩
 have hsz : ∀ p ∈ parts.toList, (a.eval p.2).cells.size = i.size := by
  intro p hp
  obtain ⟨q, hq⟩ := List.mem_iff_getElem?.1 hp
  have hlt := (List.getElem?_eq_some_iff.1 hq).1
  have hx : vs[q]? = some vs[q] := List.getElem?_eq_getElem (by omega)
  exact (hcs q _ (a.eval p.2) hx (by rw [List.getElem?_map, List.getElem?_map, hq]; rfl)).2.2.1
 let zs : Array Value := (Array.range (len * i.size)).map (zero.cells[· % zero.cells.size]!)
 have hzsz : zs.size = len * i.size := by simp [zs]
 obtain ⟨arr', g1, g2⟩ := fill_row (a := a) (size := i.size) parts.toList ps 0 zs hp hsz (by rw [hzsz, hpl]; simp)
 simp only [Nat.zero_mul, List.take_zero, List.nil_append, Nat.zero_add, hpl] at g2
 have hdrop : zs.toList.drop (len * i.size) = [] := List.drop_eq_nil_of_le (by simp [hzsz])
 rw [hdrop, List.append_nil] at g2
 have hflat : ∀ x ∈ (parts.toList.map fun p => (a.eval p.2).cells.toList), x.length = i.size := by
  intro x hx
  obtain ⟨p, hp, rfl⟩ := List.mem_map.1 hx
  simpa using hsz p hp
 have hasz : arr'.size = len * i.size := by
  have := congrArg List.length g2
  rw [flat_len hflat] at this
  simpa [hpl] using this
 have hmap : (parts.map fun (i, x) => (i, a.eval x)).toList = parts.toList.map fun (i, x) => (i, a.eval x) := by simp
 have hrun : (Instr.buildSlice t len (parts.map fun (i, x) => (i, a.eval x))).run P w = .ok (.slice (some ⟨w.heap.size, 0, none⟩) len len) (w.alloc (.cells arr' e)) := by
  have hn16 : ¬ (16777216 < len * i.size) := by omega
  by_cases h0 : len * i.size = 0
  ·have hl0 : len = 0 := by rcases Nat.mul_eq_zero.1 h0 with h | h <;> omega
   subst hl0
   have hpe : parts.toList = [] := List.eq_nil_of_length_eq_zero (by omega)
   have hae : arr' = #[] := Array.eq_empty_of_size_eq_zero (by omega)
   have hpe' : parts = #[] := by simpa using hpe
   subst hae; subst hpe'
   have hr0 : Array.range 0 = #[] := rfl
   simp [Instr.buildSlice, run_underlying' hu, sizeOf, typeInfo, hinf, Instr.fill, newRow, hr0]
  ·simp only [Instr.buildSlice, Sem.run_bind, run_underlying' hu, Result.andThen_ok, sizeOf, typeInfo, run_program, hinf, Sem.run_pure]
   rw [if_neg (by simpa using hn16)]
   simp only [h0, if_false, Sem.run_bind, zeroValue, typeInfo, run_program, hinf, hz, Sem.run_pure, Result.andThen_ok, hmap]
   have : Instr.fill (fun j => some (j * i.size, i.size)) ((Array.range (len * i.size)).map fun x => zero.cells[x % zero.cells.size]!) (parts.toList.map fun (i, x) => (i, a.eval x)) = some arr' := g1
   rw [this]
   simp [newRow]
 have hcells : ∀ (q : Nat) (x : AVal) (j : Nat) (c : AVal), vs[q]? = some x → x.cells[j]? = some c → ∃ u, arr'[q * i.size + j]? = some u ∧ Rep ι S1 T w c u := by
  intro q x j c hx hcj
  have hlt := (List.getElem?_eq_some_iff.1 hx).1
  have hpq : parts.toList[q]? = some (parts.toList[q]'(by omega)) := List.getElem?_eq_getElem (by omega)
  generalize parts.toList[q]'(by omega) = p at hpq
  have hu : ((parts.toList.map (·.2)).map a.eval)[q]? = some (a.eval p.2) := by simp [hpq]
  obtain ⟨b1, b2, b3, b4⟩ := hcs q x _ hx hu
  have hj : j < i.size := by have := (List.getElem?_eq_some_iff.1 hcj).1; omega
  have hul : ((parts.toList.map fun p => (a.eval p.2).cells.toList))[q]? = some (a.eval p.2).cells.toList := by simp [hpq]
  have hfg := flat_get hflat hul hj
  refine ⟨(a.eval p.2).cells[j]'(by omega), ?_, b4 j c _ hcj (by simp [b3, hj])⟩
  rw [← Array.getElem?_toList, g2, hfg]
  simp [b3, hj]
 have hszv : ∀ (q : Nat) (x : AVal), vs[q]? = some x → x.cells.length = i.size := by
  intro q x hx
  have hlt := (List.getElem?_eq_some_iff.1 hx).1
  have hlq : q < ((parts.toList.map (·.2)).map a.eval).length := by rw [List.length_map, List.length_map]; omega
  exact (hcs q x _ hx (List.getElem?_eq_getElem hlq)).1
 cases tm with
 | true =>
  obtain ⟨hcT, rfl, rfl⟩ := hcase
  have hm := made_tview (P := P) (s := Instr.buildSlice t len (parts.map fun (i, x) => (i, a.eval x))) (w' := w.alloc (.cells arr' e)) (es := vs) (sz := i.size) i1 (by rw [hlen]; exact hrun) rfl rfl rfl rfl hszv (fun q x hx => List.all_eq_true.1 hcT x (List.mem_of_getElem? hx)) hcells
  have hm' : Made P (Instr.buildSlice t len (parts.map fun (i, x) => (i, a.eval x))) w ι S T h (next.but nid) (.view i.size vs true true) h' := (hm.trans s1).weak fun _ h => h.1
  exact hm'.good fun v w' hv => by simp [execOp, ho, hv]
 | false =>
 obtain ⟨hcF, rfl, rfl⟩ := hcase
 have hm := made_row (P := P) (s := Instr.buildSlice t len (parts.map fun (i, x) => (i, a.eval x))) (w' := w.alloc (.cells arr' e)) (es := vs) (sz := i.size) (cap := len) (h := h1) (nid := nid) i1 hn (by rw [hlen]; exact hrun) rfl rfl rfl rfl hpos (by omega) (by
   have : len ≤ len * i.size := Nat.le_mul_of_pos_right _ hpos
   simp [maxLen]; omega) hasz
  (fun q x hx => by
   have hlt := (List.getElem?_eq_some_iff.1 hx).1
   have hlq : q < ((parts.toList.map (·.2)).map a.eval).length := by rw [List.length_map, List.length_map]; omega
   have hu : ((parts.toList.map (·.2)).map a.eval)[q]? = some (((parts.toList.map (·.2)).map a.eval)[q]'hlq) := List.getElem?_eq_getElem hlq
   exact ⟨(hcs q x _ hx hu).1, List.all_eq_true.1 hcF x (List.mem_of_getElem? hx)⟩)
  (fun q x j c hx hcj => by
   have hlt := (List.getElem?_eq_some_iff.1 hx).1
   have hpq : parts.toList[q]? = some (parts.toList[q]'(by omega)) := List.getElem?_eq_getElem (by omega)
   generalize parts.toList[q]'(by omega) = p at hpq
   have hu : ((parts.toList.map (·.2)).map a.eval)[q]? = some (a.eval p.2) := by simp [hpq]
   obtain ⟨b1, b2, b3, b4⟩ := hcs q x _ hx hu
   have hj : j < i.size := by have := (List.getElem?_eq_some_iff.1 hcj).1; omega
   have hul : ((parts.toList.map fun p => (a.eval p.2).cells.toList))[q]? = some (a.eval p.2).cells.toList := by simp [hpq]
   have hfg := flat_get hflat hul hj
   refine ⟨(a.eval p.2).cells[j]'(by omega), ?_, b4 j c _ hcj (by simp [b3, hj])⟩
   rw [← Array.getElem?_toList, g2, hfg]
   simp [b3, hj])
 rw [hlen] at hm
 have hm' : Made P (Instr.buildSlice t len (parts.map fun (i, x) => (i, a.eval x))) w ι S T h (next.but nid) (.own nid i.size 0 len false) (h1 ++ [(nid, .row vs i.size)]) := hm.trans s1
 exact hm'.good fun v w' hv => by simp [execOp, ho, hv]
theorem copy_run {d s : Operand} {ats : Array TypeId} {v : Value} {w' : World} (ho : o.op = .call { callee := .builtin .copy, args := #[d, s], argTypes := ats })
  (hr : (Builtin.copy_ ats 0 #[a.eval d, a.eval s]).run P w = .ok v w') : (execOp a.eval o).run P w = .ok (.value v) w' := by
 have e : Builtin.copy_ ats o.type #[a.eval d, a.eval s] = Builtin.copy_ ats 0 #[a.eval d, a.eval s] := rfl
 simp [execOp, ho, resolve, invoke, builtin, e, hr]
theorem good_copy {d s : Operand} {dt xt e : TypeId} {d' s' : AOpd} {i : TypeInfo} (ho : o.op = .call { callee := .builtin .copy, args := #[d, s], argTypes := #[dt, xt] }) (hd : trOpd gl d = some d') (hs : trOpd gl s = some s')
  (hu : P.underlying dt = some (.slice e)) (hinf : P.info? e = some i) (hi : Inv ι S T h w next) (hn : next nid) (henv : EnvRep gl ι S T w env a.tmps)
  (hr : aop (.copy i.size d' s') env nid h = some (r, h')) : Good P o a w ι S T h (next.but nid) r h' := by
 have h1 := opd_rep henv hd
 have h2 := opd_rep henv hs
 simp only [aop] at hr
 split at hr <;> try (simp at hr; done)
 rename_i hz
 split at hr <;> try (simp at hr; done)
 rename_i xs id z off len clip hxs hdd
 split at hr <;> try (simp at hr; done)
 rename_i es sz hg
 split at hr <;> simp at hr
 rename_i hc
 obtain ⟨rfl, hle⟩ := hc
 obtain ⟨rfl, rfl⟩ := hr
 have hsrc := appended_sound (P := P) hi h2 hz hxs
 rw [hdd] at h1
 obtain ⟨L, c, ofs, hv, hL, hLs, hlc, hcap, _, _, hofs⟩ := h1.own_inv
 obtain ⟨L', hL', hns, hnt, hnode⟩ := hi.get hg
 rw [hL] at hL'; cases hL'
 obtain ⟨n0, npos, n1, n2, arr, ty, n3, n4, n5⟩ := hnode
 have hse : sz = i.size := by omega
 subst hse
 generalize hnn : min xs.length len = n
 have hnx : n ≤ xs.length := by omega
 have hnl : n ≤ len := by omega
 obtain ⟨us, u1, u2, u3⟩ := hsrc.cells n hnx
 have hone := hsrc.one hnx u1 u3
 have hmulle : (off + n) * i.size ≤ L.cap * i.size := Nat.mul_le_mul_right _ (by omega)
 rw [Nat.add_mul] at hmulle
 have hrun : (execOp a.eval o).run P w = .ok (.value (.int .i64 n)) (w.setRow L.block (arr.toList.take (off * i.size) ++ us ++ arr.toList.drop (off * i.size + us.length)).toArray) := by
  have hlen := hsrc.len
  have hmin : Nat.min xs.length len = n := hnn
  have hst : (storeCells ⟨L.block, ofs, none⟩ us).run P w = .ok () (w.setRow L.block (arr.toList.take (off * i.size) ++ us ++ arr.toList.drop (off * i.size + us.length)).toArray) := by
   rcases Nat.eq_zero_or_pos n with h0 | h0
   ·have hus : us = [] := List.eq_nil_of_length_eq_zero (by rw [u1, h0]; simp)
    subst hus
    simp only [storeCells, List.append_nil, List.length_nil, Nat.add_zero, List.take_append_drop, Array.toArray_toList]
    rw [setRow_self w L.block arr ty (0, 0) n3]
    rfl
   ·have := hofs (by omega)
    subst this
    have := run_storeCells_at P L.block (off * i.size) ty us 0 arr w n3 (by omega) hone
    simpa only [Nat.add_zero] using this
  refine copy_run ho ?_
  rw [hv]
  simp only [Builtin.copy_, List.getElem?_toArray, List.getElem?_cons_zero, List.getElem?_cons_succ, Sem.run_bind, run_underlying' hu, Result.andThen_ok, hlen, hmin, sizeOf, typeInfo, run_program, hinf, Sem.run_pure, u2 w rfl, hst, goInt]
 obtain ⟨i1, i2⟩ := hi.set (w' := w.setRow L.block (arr.toList.take (off * i.size) ++ us ++ arr.toList.drop (off * i.size + us.length)).toArray)
   (n := .row (es.take off ++ (xs.take n ++ es.drop (off + n))) i.size) (Heap.get_mem hg) hL (fun b hb => setRow_other' w _ b _ hb) (by simp) rfl rfl rfl (fun hm => by
  have hxn : (xs.take n).length = n := by simp; omega
  have hsegq : ∀ z, (arr.toList.take (off * i.size) ++ us ++ arr.toList.drop (off * i.size + us.length)).toArray[z]? =
    if off * i.size ≤ z ∧ z < off * i.size + n * i.size then us[z - off * i.size]? else arr[z]? := by
   intro z
   have := seg_get (q := z) (arr := arr.toList) (us := us) (p := off * i.size) (by simp; omega)
   rw [List.getElem?_toArray, this, u1]
   simp
  refine ⟨n0, npos, by simp; omega, n2, _, ty, setRow_heap w _ _ _ ty (0, 0) n3, by simp; omega, fun q y hy => ?_⟩
  have hsg := seg_get (q := q) (arr := es) (us := xs.take n) (p := off) (by omega)
  rw [hxn] at hsg
  rw [← List.append_assoc, hsg] at hy
  by_cases hin : off ≤ q ∧ q < off + n
  ·rw [if_pos hin, List.getElem?_take, if_pos (by omega)] at hy
   obtain ⟨f1, f2⟩ := hsrc.elem _ _ hy
   refine ⟨f1, f2, fun j x hx => ?_⟩
   obtain ⟨u, hu, hrp⟩ := u3 _ _ j x (by omega) hy hx
   refine ⟨u, ?_, hm _ _ hrp⟩
   have hj : j < i.size := by have := (List.getElem?_eq_some_iff.1 hx).1; omega
   have e1 : off * i.size ≤ q * i.size := Nat.mul_le_mul_right _ hin.1
   have e2 : (q + 1) * i.size ≤ (off + n) * i.size := Nat.mul_le_mul_right _ hin.2
   rw [Nat.succ_mul, Nat.add_mul] at e2
   rw [hsegq, if_pos (by omega), ← hu]
   congr 1
   rw [Nat.sub_mul]; omega
  ·rw [if_neg hin] at hy
   obtain ⟨f1, f2, f3⟩ := n5 q y hy
   refine ⟨f1, f2, fun j x hx => ?_⟩
   obtain ⟨u, hu, hrp⟩ := f3 j x hx
   refine ⟨u, ?_, hm _ _ hrp⟩
   have hj : j < i.size := by have := (List.getElem?_eq_some_iff.1 hx).1; omega
   rw [hsegq, if_neg ?_]
   ·exact hu
   ·rintro ⟨z1, z2⟩
    rcases Nat.lt_or_ge q off with hlt | hlt
    ·have : (q + 1) * i.size ≤ off * i.size := Nat.mul_le_mul_right _ hlt
     rw [Nat.succ_mul] at this
     omega
    ·have : (off + n) * i.size ≤ q * i.size := Nat.mul_le_mul_right _ (by omega)
     rw [Nat.add_mul] at this
     omega)
 exact ⟨_, _, _, ι, S, hrun, .inl rfl, .int _ _, i1.mono (fun _ h => h.1), i2⟩
theorem key_same {kk : Nat} {k k' : AVal} {v v' : Value} (hok : keyOk kk k = true) (hk : Rep ι S T w k v) (hk' : Rep ι S T w k' v') (he : keyEq k k' = some true) (n : Nat) : Instr.sameBits (n + 1) v' v = true := by
 unfold keyEq at he
 split at he
 ·rename_i k1 a k2 b
  split at he <;> simp at he
  rename_i hkk
  subst hkk; subst he
  rw [hk.int_inv, hk'.int_inv]
  simp [Instr.sameBits]
 ·simp at he; subst he
  rw [hk.str_inv, hk'.str_inv]
  simp only [Instr.sameBits, text_beq]
  simp
 ·simp at he; subst he
  rw [hk.bool_inv, hk'.bool_inv]
  simp [Instr.sameBits]
 ·simp at he
theorem key_eq {kk : Nat} {k k' : AVal} {v v' : Value} (hk : Rep ι S T w k v) (hk' : Rep ι S T w k' v') (he : keyEq k k' = some true) : v' = v := by
 unfold keyEq at he
 split at he
 ·split at he <;> simp at he
  rename_i hkk
  subst hkk; subst he
  rw [hk.int_inv, hk'.int_inv]
 ·simp at he; subst he
  rw [hk.str_inv, hk'.str_inv]
 ·simp at he; subst he
  rw [hk.bool_inv, hk'.bool_inv]
 ·simp at he
theorem keyOk_flat {kk : Nat} {k : AVal} (h : keyOk kk k = true) : k.flat = true := by
 unfold keyOk at h
 split at h <;> simp_all [AVal.flat]
theorem setVal_len (es : List (AVal × AVal)) (i : Nat) (v : AVal) : (setVal es i v).length = es.length := by
 induction es generalizing i with
 | nil => rfl
 | cons e r ih =>
  obtain ⟨k, u⟩ := e
  cases i with
  | zero => rfl
  | succ i => simp [setVal, ih]
theorem setVal_get {es : List (AVal × AVal)} {i : Nat} {v : AVal} {q : Nat} {k y : AVal} (h : (setVal es i v)[q]? = some (k, y)) : (q = i ∧ y = v ∧ ∃ u, es[q]? = some (k, u)) ∨ (q ≠ i ∧ es[q]? = some (k, y)) := by
 induction es generalizing i q with
 | nil => simp [setVal] at h
 | cons e r ih =>
  obtain ⟨k', u⟩ := e
  cases i with
  | zero =>
   cases q with
   | zero => simp [setVal] at h; exact .inl ⟨rfl, h.2.symm, u, by simp [h.1]⟩
   | succ q => exact .inr ⟨by omega, by simpa [setVal] using h⟩
  | succ i =>
   cases q with
   | zero => exact .inr ⟨by omega, by simpa [setVal] using h⟩
   | succ q =>
    rcases ih (i := i) (q := q) (by simpa [setVal] using h) with ⟨a, b, c⟩ | ⟨a, b⟩
    ·exact .inl ⟨by omega, b, by simpa using c⟩
    ·exact .inr ⟨by omega, by simpa using b⟩
theorem good_mupd {t kt0 et : TypeId} {kt : TypeDesc} {kk : Nat} {m k v : Operand} {m' k' v' : AOpd} (ho : o.op = .mapUpdate t m k v) (hm : trOpd gl m = some m') (hk : trOpd gl k = some k') (hvv : trOpd gl v = some v') (hu : P.underlying t = some (.map kt0 et)) (hkt : KindOf kk kt) (hku : P.underlying kt0 = some kt)
  (hi : Inv ι S T h w next) (hn : next nid) (henv : EnvRep gl ι S T w env a.tmps)
  (hr : aop (.mupd kk m' k' v') env nid h = some (r, h')) : Good P o a w ι S T h (next.but nid) r h' := by
 have h1 := opd_rep henv hm
 have h2 := opd_rep henv hk
 have h3 := opd_rep henv hvv
 simp only [aop] at hr
 split at hr <;> try (simp at hr; done)
 rename_i id hb
 split at hr <;> try (simp at hr; done)
 rename_i es hg
 split at hr <;> try (simp at hr; done)
 rename_i hc
 obtain ⟨hflat, hok⟩ := hc
 rw [hb] at h1
 obtain ⟨L, hv, hL⟩ := h1.mapr_inv
 obtain ⟨L', hL', _, _, hnode⟩ := hi.get hg
 rw [hL] at hL'; cases hL'
 obtain ⟨mes, clock, n1, n2, n3⟩ := hnode
 have hblt := hi.block_lt (Heap.get_mem hg) hL
 have hck := checkKey_run (P := P) (w := w) (e := false) (n := 9999) hkt hku (a.eval k)
 have fk := findKey_sound hkt hok h2 es mes.toList 0
 have hn3 : ∀ (i : Nat) (x y : AVal), es[i]? = some (x, y) → ∃ me, mes.toList[i]? = some me ∧ Rep ι S T w x me.key ∧ Rep ι S T w y me.val := fun i x y hxy => by
  obtain ⟨me, b1, b2, b3, _⟩ := n3 i x y hxy
  exact ⟨me, by simpa using b1, b2, b3⟩
 have hother : ∀ ob b, b ≠ L.block → (World.heap { w with heap := w.heap.setIfInBounds L.block ob })[b]? = w.heap[b]? := fun ob b hb => by simp [Ne.symm hb]
 split at hr <;> try (simp at hr; done)
 ·rename_i i y hf
  simp at hr
  obtain ⟨rfl, rfl⟩ := hr
  rcases fk _ (by simpa using n2) hn3 hf with ⟨c1, _⟩ | ⟨i', x, y', me, c1, c2, c3, c4, c5, c6⟩
  ·simp at c1
  ·simp at c1
   obtain ⟨rfl, rfl⟩ := c1
   obtain ⟨me2, d1, d2, _⟩ := hn3 _ _ _ c3
   rw [c2] at d1; cases d1
   have hsame : me.key = a.eval k := key_eq (kk := kk) h2 d2 c5
   have hbits : Instr.sameBits 10000 me.key (a.eval k) = true := key_same hok h2 d2 c5 9999
   have c2' : mes[i]? = some me := by simpa using c2
   simp only [Nat.zero_add] at c6
   let ob : Obj := .map (mes.modify i fun e => { e with key := a.eval k, val := a.eval v }) clock
   obtain ⟨i1, i2⟩ := hi.set (w' := { w with heap := w.heap.setIfInBounds L.block ob }) (n := .map (setVal es i (v'.ev env))) (Heap.get_mem hg) hL (hother ob) (by simp) rfl rfl rfl (fun hm => by
    refine ⟨_, clock, by simp [ob, hblt]; rfl, by simp [setVal_len, n2], fun q x z hq => ?_⟩
    rcases setVal_get hq with ⟨rfl, rfl, u, hu⟩ | ⟨hne, hq⟩
    ·rw [c3] at hu
     simp at hu
     obtain ⟨rfl, rfl⟩ := hu
     obtain ⟨_, _, _, _, _, hkf⟩ := n3 _ _ _ c3
     refine ⟨{ me with key := a.eval k, val := a.eval v }, by simp [Array.getElem?_modify, c2'], ?_, hm _ _ h3, hflat, hkf⟩
     rw [← hsame]; exact hm _ _ d2
    ·obtain ⟨me', b1, b2, b3, b4⟩ := n3 _ _ _ hq
     exact ⟨me', by simp [Array.getElem?_modify, Ne.symm hne, b1], hm _ _ b2, hm _ _ b3, b4⟩)
   refine ⟨_, undef, _, ι, S, ?_, .inr ⟨rfl, rfl⟩, .lit _, i1.mono (fun _ h => h.1), i2⟩
   have hlt : i < mes.size := (Array.getElem?_eq_some_iff.1 c2').1
   have hkt : (Instr.keyThatStays me.key (a.eval k)).run P w = .ok (a.eval k) w := by simp [Instr.keyThatStays, hbits]
   simp [execOp, ho, hv, Instr.mapUpdate, run_underlying' hu, getObj, setObj, Sem.run, n1, hck, Instr.findKey, run_underlying' hku, c6, c2', hkt, ob]
 ·rename_i hf
  simp at hr
  obtain ⟨rfl, rfl⟩ := hr
  rcases fk _ (by simpa using n2) hn3 hf with ⟨_, c1⟩ | ⟨i', x, y', me, c1, _⟩
  ·let ob : Obj := .map (mes.push { key := a.eval k, val := a.eval v, born := clock }) (clock + 1)
   obtain ⟨i1, i2⟩ := hi.set (w' := { w with heap := w.heap.setIfInBounds L.block ob }) (n := .map (es ++ [(k'.ev env, v'.ev env)])) (Heap.get_mem hg) hL (hother ob) (by simp) rfl rfl rfl (fun hm => by
    refine ⟨_, clock + 1, by simp [ob, hblt]; rfl, by simp [n2], fun q x z hq => ?_⟩
    by_cases hlt : q < es.length
    ·rw [List.getElem?_append_left hlt] at hq
     obtain ⟨me', b1, b2, b3, b4⟩ := n3 _ _ _ hq
     have hq' := (Array.getElem?_eq_some_iff.1 b1).1
     exact ⟨me', by rw [Array.getElem?_push, if_neg (by omega), b1], hm _ _ b2, hm _ _ b3, b4⟩
    ·rw [List.getElem?_append_right (by omega)] at hq
     have hq0 : q = es.length := by
      have := (List.getElem?_eq_some_iff.1 hq).1
      simp at this; omega
     subst hq0
     simp at hq
     obtain ⟨rfl, rfl⟩ := hq
     exact ⟨_, by rw [n2]; simp; rfl, hm _ _ h2, hm _ _ h3, hflat, keyOk_flat hok⟩)
   refine ⟨_, undef, _, ι, S, ?_, .inr ⟨rfl, rfl⟩, .lit _, i1.mono (fun _ h => h.1), i2⟩
   simp [execOp, ho, hv, Instr.mapUpdate, run_underlying' hu, getObj, setObj, Sem.run, n1, hck, Instr.findKey, run_underlying' hku, c1, ob]
  ·simp at c1
end
end Go.Abs
namespace Go.Abs
section
variable {gl : Globs} {P : Program} {ι : Emb} {S T : Nat → Prop} {w : World} {h h' : Heap} {next : Free} {o : Oper} {a : Act} {env : List AVal} {r : AVal} {nid : Nat} {ts : List TypeId} {op : AOp}
def AOp.isCall : AOp → Bool
 | .call _ _ => true
 | _ => false
theorem map_some {α β : Type} {x : Option α} {f : α → β} {y : β} (h : x.map f = some y) : ∃ z, x = some z ∧ f z = y := by
 cases x <;> simp_all
theorem array_eq {α : Type} {x : Array α} {l : List α} (h : x.toList = l) : x = l.toArray := by
 subst h; simp
theorem builtin_good {b : Builtin} {ats : Array TypeId} {args : Array Operand} (ho : o.op = .call { callee := .builtin b, args, argTypes := ats }) (ht : trBuiltin gl P b ats.toList args.toList = some op)
  (hi : Inv ι S T h w next) (hn : next nid) (henv : EnvRep gl ι S T w env a.tmps) (hr : aop op env nid h = some (r, h')) : Good P o a w ι S T h (next.but nid) r h' := by
 unfold trBuiltin at ht
 split at ht <;> try (simp at ht; done)
 ·-- len
  rename_i t x hats hargs
  have e1 := array_eq hats
  have e2 := array_eq hargs
  subst e1; subst e2
  split at ht <;> try (simp at ht; done)
  all_goals
   rename_i hu
   obtain ⟨x', hx, rfl⟩ := map_some ht
  ·exact good_len ho rfl hx hu (.inl ⟨rfl, rfl⟩) hi hn henv hr
  ·exact good_len ho rfl hx hu (.inr (.inl ⟨rfl, _, rfl⟩)) hi hn henv hr
  ·exact good_len ho rfl hx hu (.inr (.inr ⟨rfl, _, _, rfl⟩)) hi hn henv hr
 ·-- append
  rename_i st xt s x hats hargs
  have e1 := array_eq hats
  have e2 := array_eq hargs
  subst e1; subst e2
  split at ht <;> try (simp at ht; done)
  rename_i s' x' hs hx
  split at ht <;> try (simp at ht; done)
  ·rename_i e hst hxt
   split at ht <;> simp at ht
   subst ht
   rename_i i z hinf hz
   obtain ⟨ti, zv, z1, z2, z3⟩ := tzero_rep hz
   rw [hinf] at z1; cases z1
   exact good_appz ho hs hx hst hxt hinf z2 z3 hi hn henv hr
  ·rename_i e e' hst hxt
   split at ht <;> try (simp at ht; done)
   rename_i i z hinf hz
   split at ht <;> simp at ht
   subst ht
   rename_i hc
   obtain ⟨ti, zv, z1, z2, z3⟩ := tzero_rep hz
   rw [hinf] at z1; cases z1
   obtain ⟨c1, _⟩ := const_cells (ι := ι) (S := S) (T := T) (w := w) z3
   exact good_app ho hs hx hst (.inr ⟨_, hxt⟩) hinf z2 (by omega) hi hn henv hr
  ·rename_i e hst hxt
   split at ht <;> try (simp at ht; done)
   rename_i i z hinf hz
   split at ht <;> simp at ht
   subst ht
   rename_i hc
   obtain ⟨ti, zv, z1, z2, z3⟩ := tzero_rep hz
   rw [hinf] at z1; cases z1
   obtain ⟨c1, _⟩ := const_cells (ι := ι) (S := S) (T := T) (w := w) z3
   exact good_app ho hs hx hst (.inl hxt) hinf z2 (by omega) hi hn henv hr
 ·-- copy
  rename_i dt xt d s hats hargs
  have e1 := array_eq hats
  have e2 := array_eq hargs
  subst e1; subst e2
  split at ht <;> try (simp at ht; done)
  rename_i d' s' hd hs
  split at ht <;> try (simp at ht; done)
  all_goals
   rename_i hu _
   split at ht <;> try (simp at ht; done)
   rename_i i hinf
   split at ht <;> simp at ht
   subst ht
   exact good_copy ho hd hs hu hinf hi hn henv hr
 ·rename_i x y hargs
  have e2 := array_eq hargs
  subst e2
  split at ht <;> simp at ht
  subst ht
  rename_i x' y' hx hy
  exact good_minmax (mx := false) ho hx hy hi hn henv hr
 ·rename_i x y hargs
  have e2 := array_eq hargs
  subst e2
  split at ht <;> simp at ht
  subst ht
  rename_i x' y' hx hy
  exact good_minmax (mx := true) ho hx hy hi hn henv hr
set_option maxHeartbeats 1000000 in
theorem aop_good (ht : trOp gl P ts o = some op) (hnc : op.isCall = false) (hi : Inv ι S T h w next) (hn : next nid) (henv : EnvRep gl ι S T w env a.tmps) (hr : aop op env nid h = some (r, h')) : Good P o a w ι S T h (next.but nid) r h' := by
 unfold trOp at ht
 split at ht <;> try (simp at ht; done)
 ·rename_i x ho
  obtain ⟨x', hx, rfl⟩ := map_some ht
  exact good_mov (.inl ho) hx hi hn henv hr
 ·rename_i x ho
  obtain ⟨x', hx, rfl⟩ := map_some ht
  exact good_mov (.inr ho) hx hi hn henv hr
 ·rename_i c x y ho
  split at ht <;> simp at ht
  subst ht
  rename_i hc hx hy
  exact good_pick ho hc hx hy hi hn henv hr
 ·rename_i bop t x y t' ho
  split at ht <;> simp at ht
  subst ht
  rename_i hx hy
  exact good_bin ho hx hy hi hn henv hr
 ·rename_i bop t x ho
  obtain ⟨x', hx, rfl⟩ := map_some ht
  exact good_un ho hx hi hn henv hr
 ·rename_i src dst x ho
  split at ht <;> try (simp at ht; done)
  ·rename_i hs hd hx
   simp at ht; subst ht
   exact good_cvi ho hx hs hd hi hn henv hr
  ·rename_i hs hd hx
   simp at ht; subst ht
   exact good_cvs ho hx hs hd hi hn henv hr
  ·rename_i hs hd hx
   split at ht <;> try (simp at ht; done)
   rename_i he hinf
   split at ht <;> simp at ht
   subst ht
   exact good_cvsb ho hx hs hd he hi hn henv hr
  ·rename_i hs hd hx
   split at ht <;> try (simp at ht; done)
   rename_i he hinf
   split at ht <;> simp at ht
   subst ht
   rename_i hc
   obtain ⟨_, rfl⟩ := hc
   exact good_cvb ho hx hd he hi hn henv hr
  ·rename_i hs hd hx
   split at ht <;> try (simp at ht; done)
   rename_i he hinf
   split at ht <;> simp at ht
   subst ht
   exact good_cvbs ho hx hs he hd hi hn henv hr
 ·rename_i t x ho
  split at ht <;> try (simp at ht; done)
  simp at ht; subst ht
  rename_i hni hu hx
  exact good_mkif ho hx hu (fun ms hm => by subst hm; exact hni _ rfl) hi hn henv hr
 ·rename_i x xt t ok ho
  split at ht <;> try (simp at ht; done)
  simp at ht; subst ht
  rename_i hni hu hx hz
  exact good_tass ho hx hu (fun ms hm => by subst hm; exact hni _ rfl) hz hi hn henv hr
 ·rename_i t ho
  split at ht <;> simp at ht
  subst ht
  rename_i hz
  exact good_alloc ho hz hi hn hr
 ·rename_i t x ho
  obtain ⟨x', hx, rfl⟩ := map_some ht
  exact good_box ho hx hi hn henv hr
 ·rename_i t parts ho
  split at ht <;> try (simp at ht; done)
  rename_i hu hz
  split at ht <;> try (simp at ht; done)
  rename_i hp
  split at ht <;> simp at ht
  subst ht
  rename_i hall
  refine good_build ho hu hz hp (fun i f hf => ?_) hi hn henv hr
  have := List.all_eq_true.1 hall f (List.mem_of_getElem? (by simpa using hf))
  exact Option.isSome_iff_exists.1 this
 ·rename_i t len parts ho
  split at ht <;> try (simp at ht; done)
  rename_i hu
  split at ht <;> simp at ht
  subst ht
  rename_i hinf hz hp
  obtain ⟨ti, zv, z1, z2, z3⟩ := tzero_rep hz
  rw [hinf] at z1; cases z1
  exact good_bslice ho hu hinf z2 z3 hp hi hn henv hr
 ·rename_i t x ho
  split at ht <;> simp at ht
  subst ht
  rename_i hsz hx
  exact good_ld ho hx hsz hi hn henv hr
 ·rename_i t x v ho
  split at ht <;> simp at ht
  subst ht
  rename_i hinf hx hv
  exact good_st ho hinf hx hv hi hn henv hr
 ·rename_i st x f ho
  split at ht <;> try (simp at ht; done)
  rename_i hu hx
  split at ht <;> try (simp at ht; done)
  rename_i hf
  split at ht <;> try (simp at ht; done)
  rename_i hfi
  split at ht <;> simp at ht
  subst ht
  rename_i hz
  exact good_fa ho hx hu hf hfi hz hi hn henv hr
 ·rename_i st x f ho
  split at ht <;> try (simp at ht; done)
  rename_i hu hx
  split at ht <;> try (simp at ht; done)
  rename_i hf
  split at ht <;> simp at ht
  subst ht
  rename_i hsz
  exact good_fld ho hx hu hf hsz hi hn henv hr
 ·rename_i t x i ho
  split at ht <;> try (simp at ht; done)
  ·rename_i hu hx hii
   split at ht <;> try (simp at ht; done)
   rename_i hei
   split at ht <;> simp at ht
   subst ht
   exact good_ixa ho hx hii hu hei hi hn henv hr
  ·rename_i hu hx hii
   split at ht <;> try (simp at ht; done)
   rename_i hei
   split at ht <;> simp at ht
   subst ht
   exact good_ixp ho hx hii hu hei hi hn henv hr
 ·rename_i t x i ho
  split at ht <;> simp at ht
  subst ht
  rename_i hu hx hii
  exact good_ixs ho hx hii hu hi hn henv hr
 ·rename_i t x lo hi' mx ho
  split at ht <;> try (simp at ht; done)
  ·simp at ht; subst ht
   rename_i hu hx hlo hhi hmx
   have : mx = none := by
    cases mx with
    | none => rfl
    | some m => simp [oneOpt] at hmx
   subst this
   exact good_slct ho hx hlo hhi hu hi hn henv hr
  ·rename_i hu hx hlo hhi hmx
   split at ht <;> try (simp at ht; done)
   rename_i hinf
   split at ht <;> simp at ht
   subst ht
   rename_i hm
   exact good_slc ho hx hlo hhi hmx hu hinf (by simpa using hm) hi hn henv hr
 ·rename_i t n c ho
  split at ht <;> try (simp at ht; done)
  rename_i hu hnn hcc
  split at ht <;> simp at ht
  subst ht
  rename_i hinf hz
  obtain ⟨ti, zv, z1, z2, z3⟩ := tzero_rep hz
  rw [hinf] at z1; cases z1
  exact good_mksl ho hnn hcc hu hinf z2 z3 hi hn henv hr
 ·rename_i x ho
  obtain ⟨x', hx, rfl⟩ := map_some ht
  exact good_nilck ho hx hi hn henv hr
 ·rename_i x i ho
  obtain ⟨x', hx, rfl⟩ := map_some ht
  exact good_extract ho hx hi hn henv hr
 ·rename_i fn first captured ho
  split at ht <;> try (simp at ht; done)
  rename_i hf
  obtain ⟨cs, hc, rfl⟩ := map_some ht
  exact good_mkfn ho hf hc hi hn henv hr
 ·rename_i t ho
  simp at ht; subst ht
  exact good_mkmap ho hi hn hr
 ·rename_i t m k ok ho
  split at ht <;> try (simp at ht; done)
  rename_i hu hm hk
  split at ht <;> simp at ht
  all_goals
   subst ht
   rename_i hku hz
  ·exact good_look ho hm hk hu (.inl ⟨rfl, rfl⟩) hku hz hi hn henv hr
  ·exact good_look ho hm hk hu (.inr (.inl ⟨rfl, _, rfl⟩)) hku hz hi hn henv hr
  ·exact good_look ho hm hk hu (.inr (.inr ⟨rfl, rfl⟩)) hku hz hi hn henv hr
 ·rename_i t m k v ho
  split at ht <;> try (simp at ht; done)
  rename_i hu hm hk hv
  split at ht <;> simp at ht
  all_goals
   subst ht
   rename_i hku
  ·exact good_mupd ho hm hk hv hu (.inl ⟨rfl, rfl⟩) hku hi hn henv hr
  ·exact good_mupd ho hm hk hv hu (.inr (.inl ⟨rfl, _, rfl⟩)) hku hi hn henv hr
  ·exact good_mupd ho hm hk hv hu (.inr (.inr ⟨rfl, rfl⟩)) hku hi hn henv hr
 ·rename_i t x ho
  split at ht <;> try (simp at ht; done)
  rename_i hu
  obtain ⟨x', hx, rfl⟩ := map_some ht
  exact good_range ho hu hx hi hn henv hr
 ·rename_i x ho
  obtain ⟨x', hx, rfl⟩ := map_some ht
  exact good_next ho hx hi hn henv hr
 ·rename_i c ho
  obtain ⟨callee, args, ats⟩ := c
  simp only at ht
  split at ht
  ·split at ht <;> simp at ht
   subst ht
   simp [AOp.isCall] at hnc
  ·exact builtin_good ho ht hi hn henv hr
  ·simp at ht
end
end Go.Abs
namespace Go.Abs
section
variable {gl : Globs} {P : Program} {ι ι' : Emb} {S T T' : Nat → Prop} {w : World} {h h' : Heap} {next : Free} {f : Nat → Option Nat}
theorem renL_length (cs : List AVal) : (renL f cs).length = cs.length := by
 induction cs with
 | nil => rfl
 | cons c r ih => simp [renL, ih]
theorem renL_get (cs : List AVal) (i : Nat) : (renL f cs)[i]? = (cs[i]?).map (·.ren f) := by
 induction cs generalizing i with
 | nil => simp [renL]
 | cons c r ih =>
  cases i with
  | zero => simp [renL]
  | succ i => simp [renL, ih]
theorem ren_flat {x : AVal} (h : x.flat = true) : x.ren f = x := by
 cases x <;> first | rfl | simp [AVal.flat] at h
theorem ren_of_get {cs : List AVal} {i : Nat} {c : AVal} (h : (renL f cs)[i]? = some c) : ∃ c0, cs[i]? = some c0 ∧ c = c0.ren f := by
 rw [renL_get] at h
 obtain ⟨c0, h0, rfl⟩ := map_some h
 exact ⟨c0, h0, rfl⟩
theorem ren_flatT {x : AVal} (h : x.flatT = true) : x.ren f = x := by
 cases x <;> first | rfl | exact ren_flat h
theorem closedT_flatT {e : AVal} (h : e.closedT = true) {j : Nat} {x : AVal} (hx : e.cells[j]? = some x) : x.flatT = true :=
 List.all_eq_true.1 h _ (List.mem_of_getElem? hx)
theorem closed_flat {e : AVal} (h : e.closed = true) {j : Nat} {x : AVal} (hx : e.cells[j]? = some x) : x.flat = true :=
 List.all_eq_true.1 h _ (List.mem_of_getElem? hx)
theorem Rep.ren (hf : ∀ id k L, f id = some k → ι id = some L → ι' k = some L) {x : AVal} {v : Value} (h : Rep ι S T w x v) : Rep ι' S T w (x.ren f) v := by
 induction h with
 | bool b => exact .bool b
 | int k n => exact .int k n
 | str l => exact .str l
 | lit v => exact .lit v
 | agg cs arr hl _ ih =>
  refine .agg _ _ (by rw [renL_length, hl]) fun i c v hc hv => ?_
  obtain ⟨c0, h0, rfl⟩ := ren_of_get hc
  exact ih i c0 v h0 hv
 | tuple cs arr hl _ ih =>
  refine .tuple _ _ (by rw [renL_length, hl]) fun i c v hc hv => ?_
  obtain ⟨c0, h0, rfl⟩ := ren_of_get hc
  exact ih i c0 v h0 hv
 | iface t x v _ ih => exact .iface t _ v ih
 | func fn cs arr hl _ ih =>
  refine .func fn _ _ (by rw [renL_length, hl]) fun i c v hc hv => ?_
  obtain ⟨c0, h0, rfl⟩ := ren_of_get hc
  exact ih i c0 v h0 hv
 | view sz es clip tmp b o c sp vs hsp hc hclip hS hsz hcl hcell _ ih =>
  refine .view sz es clip tmp b o c sp vs hsp hc hclip hS hsz hcl hcell fun i e j x he hx => ?_
  have := ih i e j x he hx
  have hc := hcl i e he
  cases tmp with
  | false => rwa [ren_flat (closed_flat hc hx)] at this
  | true => rwa [ren_flatT (closedT_flatT hc hx)] at this
 | rptr cs tmp b o vs hS hcell _ ih =>
  refine .rptr _ tmp b o vs (fun j x hx => ?_) (fun j x hx => ?_) (fun j x hx => ?_)
  all_goals obtain ⟨c0, h0, rfl⟩ := ren_of_get hx
  ·exact hS j c0 h0
  ·exact hcell j c0 h0
  ·exact ih j c0 h0
 | own id sz off len clip L c o hL hsz hc hcap hclip hnc ho =>
  simp only [AVal.ren]
  split
  ·rename_i k hk
   exact .own k sz off len clip L c o (hf _ _ _ hk hL) hsz hc hcap hclip hnc ho
  ·exact .junk _
 | ptr id off L hL =>
  simp only [AVal.ren]
  split
  ·rename_i k hk
   exact .ptr k off L (hf _ _ _ hk hL)
  ·exact .junk _
 | eptr id i off L hL =>
  simp only [AVal.ren]
  split
  ·rename_i k hk
   exact .eptr k i off L (hf _ _ _ hk hL)
  ·exact .junk _
 | mapr id L hL =>
  simp only [AVal.ren]
  split
  ·rename_i k hk
   exact .mapr k L (hf _ _ _ hk hL)
  ·exact .junk _
 | junk v => exact .junk v
theorem NodeRep.ren (hf : ∀ id k L, f id = some k → ι id = some L → ι' k = some L) {L : Loc} {n : Node} (h : NodeRep ι S T w L n) : NodeRep ι' S T w L (n.ren f) := by
 cases n with
 | var cs =>
  obtain ⟨arr, ty, h1, h2, h3⟩ := h
  refine ⟨arr, ty, h1, by rw [renL_length, h2], fun i c v hc hv => ?_⟩
  obtain ⟨c0, h0, rfl⟩ := ren_of_get hc
  exact (h3 i c0 v h0 hv).ren hf
 | row es sz =>
  obtain ⟨h0, h1, h2, h3, arr, ty, h4, h5, h6⟩ := h
  refine ⟨h0, h1, h2, h3, arr, ty, h4, h5, fun i e he => ?_⟩
  obtain ⟨a, b, c⟩ := h6 i e he
  refine ⟨a, b, fun j x hx => ?_⟩
  obtain ⟨v, hv, hr⟩ := c j x hx
  have := hr.ren (ι' := ι') hf
  rw [ren_flat (closed_flat b hx)] at this
  exact ⟨v, hv, this⟩
 | map es =>
  obtain ⟨mes, clock, h1, h2, h3⟩ := h
  refine ⟨mes, clock, h1, h2, fun i k v hv => ?_⟩
  obtain ⟨me, a, b, c, d, e⟩ := h3 i k v hv
  have hb := b.ren (ι' := ι') hf
  have hc := c.ren (ι' := ι') hf
  rw [ren_flat e] at hb
  rw [ren_flat d] at hc
  exact ⟨me, a, hb, hc, d, e⟩
 | iter l pos => exact h
theorem place_get : ∀ {l : List Nat} {n id k : Nat}, place l n id = some k → n ≤ k ∧ l[k - n]? = some id
 | [], _, _, _, h => by simp [place] at h
 | x :: r, n, id, k, h => by
  simp only [place] at h
  split at h
  ·rename_i hx
   simp at h
   subst h; subst hx
   simp
  ·obtain ⟨h1, h2⟩ := place_get h
   refine ⟨by omega, ?_⟩
   have : k - n = (k - (n + 1)) + 1 := by omega
   rw [this]
   simpa using h2
theorem place_get0 {l : List Nat} {id k : Nat} (h : place l 0 id = some k) : l[k]? = some id := by
 simpa using (place_get h).2
theorem place_some : ∀ {l : List Nat} {n id : Nat}, id ∈ l → ∃ k, place l n id = some k
 | [], _, _, h => by simp at h
 | x :: r, n, id, h => by
  simp only [place]
  split
  ·exact ⟨n, rfl⟩
  ·rename_i hx
   refine place_some ?_
   rcases List.mem_cons.1 h with h | h
   ·exact absurd h.symm hx
   ·exact h
theorem mem_pick : ∀ {l : List Nat} {k : Nat} {m : Node}, (k, m) ∈ pickNodes h f l → ∃ id n, id ∈ l ∧ h.get id = some n ∧ f id = some k ∧ m = n.ren f
 | [], _, _, hm => by simp [pickNodes] at hm
 | id :: r, k, m, hm => by
  simp only [pickNodes] at hm
  split at hm
  ·rename_i n k' hg hf
   rcases List.mem_cons.1 hm with hm | hm
   ·simp at hm
    obtain ⟨rfl, rfl⟩ := hm
    exact ⟨id, n, by simp, hg, hf, rfl⟩
   ·obtain ⟨id', n', a, b, c, d⟩ := mem_pick hm
    exact ⟨id', n', by simp [a], b, c, d⟩
  ·obtain ⟨id', n', a, b, c, d⟩ := mem_pick hm
   exact ⟨id', n', by simp [a], b, c, d⟩
theorem pick_nodup (hinj : ∀ id id' k, f id = some k → f id' = some k → id = id') : ∀ {l : List Nat}, l.Nodup → ((pickNodes h f l).map (·.1)).Nodup
 | [], _ => by simp [pickNodes]
 | id :: r, hl => by
  simp only [List.nodup_cons] at hl
  simp only [pickNodes]
  split
  ·rename_i n k hg hf
   simp only [List.map_cons, List.nodup_cons]
   refine ⟨fun hc => ?_, pick_nodup hinj hl.2⟩
   obtain ⟨e, he, hk⟩ := List.mem_map.1 hc
   obtain ⟨id', n', a, b, c, d⟩ := mem_pick (show (e.1, e.2) ∈ _ from he)
   rw [hk] at c
   have := hinj _ _ _ hf c
   subst this
   exact hl.1 a
  ·exact pick_nodup hinj hl.2
theorem Inv.pick (hi : Inv ι S T h w next) {l : List Nat} (hl : l.Nodup) (hT : ∀ b, T b → T' b) (hlt : ∀ b, T' b → b < w.heap.size) (hT' : ∀ id n L, id ∈ l → (id, n) ∈ h → ι id = some L → ¬ T' L.block) :
  Inv (fun k => (l[k]?).bind ι) S T' (pickNodes h (place l 0) l) w (Free.above l.length) := by
 have hf : ∀ id k L, place l 0 id = some k → ι id = some L → (fun k => (l[k]?).bind ι) k = some L := by
  intro id k L hp hL
  simp [place_get0 hp, hL]
 refine ⟨pick_nodup (fun id id' k h1 h2 => ?_) hl, fun k m hm => ?_, fun k m k' m' L L' hm hm' hL hL' hb => ?_, fun k hk => ?_, hi.s_lt, hlt⟩
 ·have h1 := place_get0 h1
  rw [place_get0 h2] at h1
  simpa using h1.symm
 ·obtain ⟨id, n, a, b, c, rfl⟩ := mem_pick hm
  obtain ⟨L, hL, h1, h2, h3⟩ := hi.get b
  refine ⟨L, hf _ _ _ c hL, h1, hT' _ _ _ a (Heap.get_mem b) hL, ?_⟩
  exact (h3.mono (fun _ _ h => h) (fun _ h => h) hT (fun _ _ => rfl) rfl).ren hf
 ·obtain ⟨id, n, a, b, c, _⟩ := mem_pick hm
  obtain ⟨id', n', a', b', c', _⟩ := mem_pick hm'
  simp [place_get0 c] at hL
  simp [place_get0 c'] at hL'
  have := hi.inj _ _ _ _ _ _ (Heap.get_mem b) (Heap.get_mem b') hL hL' hb
  subst this
  rw [c] at c'
  simpa using c'
 ·have hk : l.length ≤ k := hk
  simp [List.getElem?_eq_none hk]
theorem reach_nodup : ∀ (k : Nat) (l acc : List Nat), acc.Nodup → (reach h k l acc).Nodup
 | 0, _, acc, ha => by simpa [reach] using ha
 | _ + 1, [], acc, ha => by simpa [reach] using ha
 | k + 1, id :: r, acc, ha => by
  simp only [reach]
  split
  ·exact reach_nodup k r acc ha
  ·rename_i hc
   have hn : (acc ++ [id]).Nodup := by
    rw [List.nodup_append]
    refine ⟨ha, by simp, fun a ha' b hb => ?_⟩
    simp at hb
    subst hb
    rintro rfl
    exact hc (by simpa using ha')
   split
   ·exact reach_nodup k r _ hn
   ·exact reach_nodup k _ _ hn
theorem present_nodup {l : List Nat} (hl : l.Nodup) : (present h l).Nodup := hl.sublist List.filter_sublist
theorem gcList_nodup (m : Nat) (roots : List Nat) : (gcList m h roots).Nodup := by
 unfold gcList
 rw [List.nodup_append]
 refine ⟨List.nodup_range, (present_nodup (reach_nodup _ _ _ List.nodup_nil)).sublist List.filter_sublist, fun a ha b hb => ?_⟩
 simp at ha hb
 omega
theorem gcList_low {m : Nat} {roots : List Nat} {i : Nat} (hi : i < m) : (gcList m h roots)[i]? = some i := by
 unfold gcList
 rw [List.getElem?_append_left (by simpa using hi)]
 simp [hi]
theorem mask_get (live : List Nat) : ∀ (env : List AVal) (n i : Nat) (c : AVal), (mask live n env)[i]? = some c → ∃ c0, env[i]? = some c0 ∧ (c = c0 ∨ c = .junk)
 | [], _, _, _, h => by simp [mask] at h
 | v :: r, n, i, c, h => by
  cases i with
  | zero =>
   simp [mask] at h
   refine ⟨v, rfl, ?_⟩
   split at h
   ·exact .inl h.symm
   ·exact .inr h.symm
  | succ i =>
   simp [mask] at h
   simpa using mask_get live r (n + 1) i c h
theorem mask_length (live : List Nat) : ∀ (env : List AVal) (n : Nat), (mask live n env).length = env.length
 | [], _ => rfl
 | v :: r, n => by simp [mask, mask_length live r]
theorem gc_sound {m : Nat} {roots : List AVal} (hi : Inv ι S T h w next) {ι0 : Emb} {S0 : Nat → Prop} {h0 : Heap} {w0 : World} (hst : Step ι0 S0 T h0 w0 ι S h w) (hfresh : ∀ id, m ≤ id → ι0 id = none) :
  ∃ ι', Inv ι' S T (gc m h roots).2 w (Free.above (gcList m h (idsL roots)).length) ∧ Step ι0 S0 T h0 w0 ι' S (gc m h roots).2 w ∧
   (∀ (x : AVal) (v : Value), Rep ι S T w x v → Rep ι' S T w (x.ren (place (gcList m h (idsL roots)) 0)) v) := by
 have hl := gcList_nodup (h := h) m (idsL roots)
 have hlow := fun i (hi : i < m) => gcList_low (h := h) (roots := idsL roots) hi
 simp only [gc]
 generalize gcList m h (idsL roots) = l at *
 have hp := hi.pick hl (fun _ h => h) hi.t_lt (fun id n L _ hm hL => by
  obtain ⟨L', hL', _, h2, _⟩ := hi.node _ _ hm
  rw [hL] at hL'; cases hL'
  exact h2)
 refine ⟨_, hp, ⟨fun id L hL => ?_, hst.s, hst.frame, hst.size, ?_, hst.sown, hst.os, hst.tape, hst.output⟩, fun x v hr => hr.ren fun id k L hk hL => by simp [place_get0 hk, hL]⟩
 ·have : id < m := by
   rcases Nat.lt_or_ge id m with h | h
   ·exact h
   ·rw [hfresh id h] at hL; cases hL
  simp [hlow id this, hst.iota _ _ hL]
 ·rintro b ⟨e, he, L, hL, rfl⟩
  obtain ⟨id, n, _, b, c, _⟩ := mem_pick (show (e.1, e.2) ∈ _ from he)
  simp [place_get0 c] at hL
  exact hst.own _ ⟨(id, n), Heap.get_mem b, L, hL, rfl⟩
end
end Go.Abs
namespace Go.Abs
section
variable {gl : Globs} {P : Program} {ι ι' : Emb} {S T T' S' : Nat → Prop} {w w' : World} {h h' sub : Heap} {next next' : Free} {nid : Nat} {f : Nat → Option Nat}
theorem flat_noTmp {x : AVal} (h : x.flat = true) : x.noTmp = true := by
 cases x <;> first | rfl | simp [AVal.flat] at h | skip
 rename_i sz es clip tmp
 cases tmp <;> simp_all [AVal.flat, AVal.noTmp]
theorem noTmpL_get : ∀ {cs : List AVal} {i : Nat} {c : AVal}, noTmpL cs = true → cs[i]? = some c → c.noTmp = true
 | [], _, _, _, h => by simp at h
 | x :: r, i, c, hn, h => by
  simp only [noTmpL, Bool.and_eq_true] at hn
  cases i with
  | zero => simp at h; subst h; exact hn.1
  | succ i => exact noTmpL_get hn.2 (by simpa using h)
theorem Rep.noTmp {x : AVal} {v : Value} (h : Rep ι S T w x v) : x.noTmp = true → Rep ι S T' w x v := by
 induction h with
 | bool b => exact fun _ => .bool b
 | int k n => exact fun _ => .int k n
 | str l => exact fun _ => .str l
 | lit v => exact fun _ => .lit v
 | agg cs arr hl _ ih => exact fun hn => .agg cs arr hl fun i c v hc hv => ih i c v hc hv (noTmpL_get (by simpa [AVal.noTmp] using hn) hc)
 | tuple cs arr hl _ ih => exact fun hn => .tuple cs arr hl fun i c v hc hv => ih i c v hc hv (noTmpL_get (by simpa [AVal.noTmp] using hn) hc)
 | iface t x v _ ih => exact fun hn => .iface t x v (ih (by simpa [AVal.noTmp] using hn))
 | func fn cs arr hl _ ih => exact fun hn => .func fn cs arr hl fun i c v hc hv => ih i c v hc hv (noTmpL_get (by simpa [AVal.noTmp] using hn) hc)
 | view sz es clip tmp b o c sp vs hsp hc hclip hS hsz hcl hcell _ ih =>
  intro hn
  simp [AVal.noTmp] at hn
  subst hn
  exact .view sz es clip false b o c sp vs hsp hc hclip hS hsz hcl hcell fun i e j x he hx => ih i e j x he hx (flat_noTmp (closed_flat (hcl i e he) hx))
 | rptr cs tmp b o vs hS hcell _ ih =>
  intro hn
  simp [AVal.noTmp] at hn
  obtain ⟨rfl, hn⟩ := hn
  exact .rptr cs false b o vs hS hcell fun j x hx => ih j x hx (noTmpL_get hn hx)
 | own id sz off len clip L c o hL hsz hc hcap hclip hnc ho => exact fun _ => .own id sz off len clip L c o hL hsz hc hcap hclip hnc ho
 | ptr id off L hL => exact fun _ => .ptr id off L hL
 | eptr id i off L hL => exact fun _ => .eptr id i off L hL
 | mapr id L hL => exact fun _ => .mapr id L hL
 | junk v => exact fun _ => .junk v
theorem NodeRep.noTmp {L : Loc} {n : Node} (h : NodeRep ι S T w L n) (hn : n.noTmp = true) : NodeRep ι S T' w L n := by
 cases n with
 | var cs =>
  obtain ⟨arr, ty, h1, h2, h3⟩ := h
  exact ⟨arr, ty, h1, h2, fun i c v hc hv => (h3 i c v hc hv).noTmp (noTmpL_get (by simpa [Node.noTmp] using hn) hc)⟩
 | row es sz =>
  obtain ⟨h0, h1, h2, h3, arr, ty, h4, h5, h6⟩ := h
  refine ⟨h0, h1, h2, h3, arr, ty, h4, h5, fun i e he => ?_⟩
  obtain ⟨a, b, c⟩ := h6 i e he
  refine ⟨a, b, fun j x hx => ?_⟩
  obtain ⟨v, hv, hr⟩ := c j x hx
  exact ⟨v, hv, hr.noTmp (flat_noTmp (closed_flat b hx))⟩
 | map es =>
  obtain ⟨mes, clock, h1, h2, h3⟩ := h
  refine ⟨mes, clock, h1, h2, fun i k v hv => ?_⟩
  obtain ⟨me, a, b, c, d, e⟩ := h3 i k v hv
  exact ⟨me, a, b.noTmp (flat_noTmp e), c.noTmp (flat_noTmp d), d, e⟩
 | iter l pos => exact h
theorem drop_keys : ∀ (l : List Nat) (h : Heap), ((dropNodes h l).map (·.1)).Sublist (h.map (·.1))
 | [], h => by simp [dropNodes]
 | id :: r, h => (drop_keys r (h.del id)).trans Heap.keys_del
theorem mem_drop : ∀ {l : List Nat} {h : Heap} (_ : (h.map (·.1)).Nodup) {k : Nat} {m : Node}, (k, m) ∈ dropNodes h l → (k, m) ∈ h ∧ k ∉ l
 | [], h, _, k, m, hm => by simpa [dropNodes] using hm
 | id :: r, h, hd, k, m, hm => by
  obtain ⟨h1, h2⟩ := mem_drop (hd.sublist Heap.keys_del) (show (k, m) ∈ dropNodes (h.del id) r from hm)
  obtain ⟨h3, h4⟩ := Heap.mem_del hd h1
  exact ⟨h4, by simp [h3, h2]⟩
theorem pick_owned {mv : List Nat} {b : Nat} (ho : Owned (fun k => (mv[k]?).bind ι) (pickNodes h (place mv 0) mv) b) : ∃ id n L, id ∈ mv ∧ (id, n) ∈ h ∧ ι id = some L ∧ L.block = b := by
 obtain ⟨e, he, L, hL, rfl⟩ := ho
 obtain ⟨id, n, a, b, c, _⟩ := mem_pick (show (e.1, e.2) ∈ _ from he)
 simp [place_get0 c] at hL
 exact ⟨id, n, L, a, Heap.get_mem b, hL, rfl⟩
def backOf (mv : List Nat) (nid : Nat) : Nat → Option Nat :=
 fun i => if i < mv.length then mv[i]? else if i < mv.length + stride then some (nid + (i - mv.length)) else none
theorem nodup_map_on {α β : Type} {g : α → β} : ∀ {l : List α}, (∀ a ∈ l, ∀ b ∈ l, g a = g b → a = b) → l.Nodup → (l.map g).Nodup
 | [], _, _ => by simp
 | x :: r, hg, hl => by
  simp only [List.nodup_cons] at hl
  simp only [List.map_cons, List.nodup_cons, List.mem_map, not_exists, not_and]
  refine ⟨fun y hy he => ?_, nodup_map_on (fun a ha b hb => hg a (by simp [ha]) b (by simp [hb])) hl.2⟩
  have := hg y (by simp [hy]) x (by simp) he
  subst this
  exact hl.1 hy
theorem call_back (hi : Inv ι S T h w next) (hn : ∀ id, nid ≤ id → id < nid + stride → next id) {mv : List Nat} (hm : mv.Nodup) (hp : ∀ id ∈ mv, (h.get id).isSome = true) (hi' : Inv ι' S' T' sub w' next') (hT : ∀ b, T b → T' b)
  (st : Step (fun k => (mv[k]?).bind ι) S T' (pickNodes h (place mv 0) mv) w ι' S' sub w') (hsub : ∀ e ∈ sub, e.1 < mv.length + stride)
  (hnt : ∀ e ∈ sub, ∀ L, NodeRep ι' S' T' w' L e.2 → NodeRep ι' S' T w' L e.2) :
  ∃ ι2, (∀ id k L, backOf mv nid id = some k → ι' id = some L → ι2 k = some L) ∧
   Inv ι2 S' T (dropNodes h mv ++ sub.map fun e => ((backOf mv nid e.1).getD 0, e.2.ren (backOf mv nid))) w' (next.buts nid) ∧
   Step ι S T h w ι2 S' (dropNodes h mv ++ sub.map fun e => ((backOf mv nid e.1).getD 0, e.2.ren (backOf mv nid))) w' := by
 have out : ∀ id L, ι id = some L → ¬ (nid ≤ id ∧ id < nid + stride) := by
  rintro id L hL ⟨h1, h2⟩
  rw [hi.fresh id (hn id h1 h2)] at hL; cases hL
 let ι2 : Emb := fun id => if nid ≤ id ∧ id < nid + stride then ι' (id - nid + mv.length) else ι id
 have hold : ∀ id L, ι id = some L → ι2 id = some L := by
  intro id L hL
  simp only [ι2, out id L hL, if_false, hL]
 have mvat : ∀ i k, mv[i]? = some k → ∃ L n, (k, n) ∈ h ∧ ι k = some L ∧ ι' i = some L := by
  intro i k hk
  have hk' : k ∈ mv := List.mem_of_getElem? hk
  obtain ⟨n, hg⟩ := Option.isSome_iff_exists.1 (hp k hk')
  obtain ⟨L, hL, _⟩ := hi.get hg
  exact ⟨L, n, Heap.get_mem hg, hL, st.iota i L (by simp [hk, hL])⟩
 have hback : ∀ id k L, backOf mv nid id = some k → ι' id = some L → ι2 k = some L := by
  intro id k L hb hL
  unfold backOf at hb
  split at hb
  ·obtain ⟨L0, n, _, h1, h2⟩ := mvat id k hb
   rw [hL] at h2; cases h2
   exact hold _ _ h1
  ·split at hb <;> simp at hb
   rename_i h1 h2
   subst hb
   have e1 : nid ≤ nid + (id - mv.length) ∧ nid + (id - mv.length) < nid + stride := ⟨by omega, by omega⟩
   have e3 : nid + (id - mv.length) - nid + mv.length = id := by omega
   simp only [ι2, e1, e3, and_self, if_true, hL]
 have backSome : ∀ i, i < mv.length + stride → ∃ k, backOf mv nid i = some k ∧ ((i < mv.length ∧ k ∈ mv) ∨ (mv.length ≤ i ∧ k = nid + (i - mv.length))) := by
  intro i hlt
  unfold backOf
  by_cases h1 : i < mv.length
  ·exact ⟨mv[i], by simp [h1], .inl ⟨h1, by simp⟩⟩
  ·exact ⟨nid + (i - mv.length), by simp [h1, hlt], .inr ⟨by omega, rfl⟩⟩
 have mvlt : ∀ k ∈ mv, ¬ (nid ≤ k ∧ k < nid + stride) := by
  intro k hk
  obtain ⟨i, hi'⟩ := List.mem_iff_getElem?.1 hk
  obtain ⟨L, _, _, hL, _⟩ := mvat i k hi'
  exact out _ _ hL
 have notpick : ∀ k m L, (k, m) ∈ dropNodes h mv → ι k = some L → ¬ Owned (fun k => (mv[k]?).bind ι) (pickNodes h (place mv 0) mv) L.block := by
  intro k m L hm hL ho
  obtain ⟨h1, h2⟩ := mem_drop hi.nodup hm
  obtain ⟨id, n, L', a, b, c, d⟩ := pick_owned ho
  exact h2 (hi.inj _ _ _ _ _ _ b h1 c hL d ▸ a)
 have pickOwned : ∀ b, Owned (fun k => (mv[k]?).bind ι) (pickNodes h (place mv 0) mv) b → Owned ι h b := by
  intro b ho
  obtain ⟨id, n, L, _, a, c, d⟩ := pick_owned ho
  exact ⟨(id, n), a, L, c, d⟩
 have hstable : ∀ b, S b ∨ T b → w'.heap[b]? = w.heap[b]? := by
  intro b hb
  refine st.frame b (hb.elim (hi.s_lt b) (hi.t_lt b)) fun ho => ?_
  obtain ⟨id, n, L, _, a, c, rfl⟩ := pick_owned ho
  obtain ⟨L', hL', h1, h2, _⟩ := hi.node _ _ a
  rw [c] at hL'; cases hL'
  exact hb.elim h1 h2
 -- what the two halves hold
 have left : ∀ k m, (k, m) ∈ dropNodes h mv → ∃ L, ι k = some L ∧ ι2 k = some L ∧ L.block < w.heap.size ∧ ¬ S' L.block ∧ ¬ T L.block ∧ NodeRep ι2 S' T w' L m := by
  intro k m hm
  obtain ⟨h1, h2⟩ := mem_drop hi.nodup hm
  obtain ⟨L, hL, g1, g2, g3⟩ := hi.node _ _ h1
  have hlt := hi.block_lt h1 hL
  have hnp := notpick k m L hm hL
  refine ⟨L, hL, hold _ _ hL, hlt, fun hs => ?_, g2, g3.mono hold st.s (fun _ h => h) hstable (st.frame _ hlt hnp)⟩
  rcases st.sown _ hs with h | h | h
  ·exact g1 h
  ·omega
  ·exact hnp h
 have right : ∀ k m, (k, m) ∈ (sub.map fun e => ((backOf mv nid e.1).getD 0, e.2.ren (backOf mv nid))) → ∃ i n L, (i, n) ∈ sub ∧ backOf mv nid i = some k ∧ m = n.ren (backOf mv nid) ∧ ι' i = some L ∧ ι2 k = some L ∧ ¬ S' L.block ∧ ¬ T L.block ∧ NodeRep ι2 S' T w' L m := by
  intro k m hm
  obtain ⟨⟨i, n⟩, he, hk⟩ := List.mem_map.1 hm
  obtain ⟨k', hk', _⟩ := backSome i (hsub _ he)
  simp [hk'] at hk
  obtain ⟨rfl, rfl⟩ := hk
  obtain ⟨L, hL, g1, g2, g3⟩ := hi'.node _ _ he
  exact ⟨i, n, L, he, hk', rfl, hL, hback _ _ _ hk' hL, g1, fun ht => g2 (hT _ ht), (hnt _ he L g3).ren hback⟩
 refine ⟨ι2, hback, ⟨?_, ?_, ?_, ?_, hi'.s_lt, fun b hb => hi'.t_lt b (hT b hb)⟩, ⟨hold, st.s, fun b hb hno => st.frame b hb fun ho => hno (pickOwned b ho), st.size, ?_, ?_, st.os, st.tape, st.output⟩⟩
 ·rw [List.map_append, List.nodup_append]
  refine ⟨hi.nodup.sublist (drop_keys _ _), ?_, ?_⟩
  ·have hcomp : (sub.map fun e => ((backOf mv nid e.1).getD 0, e.2.ren (backOf mv nid))).map (·.1) = (sub.map (·.1)).map fun i => (backOf mv nid i).getD 0 := by simp
   rw [hcomp]
   refine nodup_map_on (fun a ha b hb hab => ?_) hi'.nodup
   obtain ⟨ea, hea, rfl⟩ := List.mem_map.1 ha
   obtain ⟨eb, heb, rfl⟩ := List.mem_map.1 hb
   obtain ⟨ka, h1, h2⟩ := backSome ea.1 (hsub _ hea)
   obtain ⟨kb, h3, h4⟩ := backSome eb.1 (hsub _ heb)
   simp only [h1, h3, Option.getD_some] at hab
   subst hab
   rcases h2 with ⟨a1, a2⟩ | ⟨a1, a2⟩
   ·rcases h4 with ⟨b1, b2⟩ | ⟨b1, b2⟩
    ·unfold backOf at h1 h3
     rw [if_pos a1] at h1
     rw [if_pos b1] at h3
     exact (List.getElem?_inj a1 hm).1 (h1.trans h3.symm)
    ·have := mvlt _ a2
     have := hsub _ heb
     omega
   ·rcases h4 with ⟨b1, b2⟩ | ⟨b1, b2⟩
    ·have := mvlt _ b2
     have := hsub _ hea
     omega
    ·omega
  ·intro a ha b hb hab
   obtain ⟨⟨k, m⟩, he, rfl⟩ := List.mem_map.1 ha
   obtain ⟨⟨k', m'⟩, he', rfl⟩ := List.mem_map.1 hb
   obtain ⟨L, hL, _⟩ := left k m he
   obtain ⟨i, n, L', a1, a2, _⟩ := right k' m' he'
   obtain ⟨k2, c1, c2⟩ := backSome i (hsub _ a1)
   rw [a2] at c1; cases c1
   simp only at hab
   subst hab
   rcases c2 with ⟨d1, d2⟩ | ⟨d1, d2⟩
   ·exact (mem_drop hi.nodup he).2 d2
   ·have := out _ _ hL
    have := hsub _ a1
    omega
 ·intro k m hm
  rcases List.mem_append.1 hm with hm | hm
  ·obtain ⟨L, _, h2, _, h4, h5, h6⟩ := left k m hm
   exact ⟨L, h2, h4, h5, h6⟩
  ·obtain ⟨_, _, L, _, _, _, _, h2, h4, h5, h6⟩ := right k m hm
   exact ⟨L, h2, h4, h5, h6⟩
 ·have cross : ∀ k m k' m' L L', (k, m) ∈ dropNodes h mv → (k', m') ∈ (sub.map fun e => ((backOf mv nid e.1).getD 0, e.2.ren (backOf mv nid))) → ι2 k = some L → ι2 k' = some L' → L.block = L'.block → False := by
   intro k m k' m' L L' hm hm' hL hL' hb
   obtain ⟨L1, a1, a2, a3, _⟩ := left k m hm
   rw [hL] at a2; cases a2
   obtain ⟨i, n, L2, b1, b2, b3, b4, b5, _⟩ := right k' m' hm'
   rw [hL'] at b5; cases b5
   rcases st.own L'.block ⟨(i, n), b1, L', b4, rfl⟩ with h | h
   ·omega
   ·exact notpick k m L hm a1 (hb ▸ h)
  intro k m k' m' L L' hm hm' hL hL' hb
  rcases List.mem_append.1 hm with hm | hm
  ·rcases List.mem_append.1 hm' with hm' | hm'
   ·obtain ⟨L1, a1, a2, _⟩ := left k m hm
    obtain ⟨L2, b1, b2, _⟩ := left k' m' hm'
    rw [hL] at a2; cases a2
    rw [hL'] at b2; cases b2
    exact hi.inj _ _ _ _ _ _ (mem_drop hi.nodup hm).1 (mem_drop hi.nodup hm').1 a1 b1 hb
   ·exact (cross _ _ _ _ _ _ hm hm' hL hL' hb).elim
  ·rcases List.mem_append.1 hm' with hm' | hm'
   ·exact (cross _ _ _ _ _ _ hm' hm hL' hL hb.symm).elim
   ·obtain ⟨i, n, L1, a1, a2, a3, a4, a5, _⟩ := right k m hm
    obtain ⟨i', n', L2, b1, b2, b3, b4, b5, _⟩ := right k' m' hm'
    rw [hL] at a5; cases a5
    rw [hL'] at b5; cases b5
    have := hi'.inj _ _ _ _ _ _ a1 b1 a4 b4 hb
    subst this
    rw [a2] at b2
    simpa using b2
 ·intro id hid
  simp only [ι2, hid.2, if_false]
  exact hi.fresh id hid.1
 ·rintro b ⟨⟨k, m⟩, he, L, hL, rfl⟩
  rcases List.mem_append.1 he with hm | hm
  ·obtain ⟨L1, a1, a2, _⟩ := left k m hm
   rw [hL] at a2; cases a2
   exact .inr ⟨(k, m), (mem_drop hi.nodup hm).1, L, a1, rfl⟩
  ·obtain ⟨i, n, L1, a1, a2, a3, a4, a5, _⟩ := right k m hm
   rw [hL] at a5; cases a5
   exact (st.own _ ⟨(i, n), a1, L, a4, rfl⟩).imp_right (pickOwned _)
 ·intro b hb
  exact (st.sown b hb).imp_right (Or.imp_right (pickOwned _))
mutual
theorem lend_sound (hi : Inv ι S T h w next) (hT : ∀ b, T b → T' b) : ∀ (x : AVal) (v : Value) (y : AVal), Rep ι S T w x v → x.lend h = some y → (∀ id ∈ x.ownIds, ∀ n L, (id, n) ∈ h → ι id = some L → T' L.block) → Rep ι S T' w y v
 | .agg cs, v, y, hr, hl, ho => by
  obtain ⟨arr, rfl, h1, h2⟩ := hr.agg_inv
  simp only [AVal.lend] at hl
  obtain ⟨ys, hy, rfl⟩ := map_some hl
  obtain ⟨g1, g2⟩ := lendL_sound hi hT cs ys hy (by simpa [AVal.ownIds] using ho)
  refine .agg _ _ (by omega) fun i c u hc hu => ?_
  have hlt : i < cs.length := by have := (List.getElem?_eq_some_iff.1 hc).1; omega
  have hci : cs[i]? = some cs[i] := List.getElem?_eq_getElem hlt
  exact g2 i _ u c hci hc (h2 i _ u hci hu)
 | .own id z off len clip, v, y, hr, hl, ho => by
  simp only [AVal.lend] at hl
  split at hl <;> try (simp at hl; done)
  rename_i es s hg
  split at hl <;> simp at hl
  rename_i hle
  subst hl
  obtain ⟨L, _, _, _, hL, _⟩ := hr.own_inv
  exact view_of_own' true hT hi hr hg hle (fun _ h => h) hL (by simpa using ho id (by simp [AVal.ownIds]) _ L (Heap.get_mem hg) hL) (fun _ _ => rfl) (fun _ => rfl)
 | .bool b, v, y, hr, hl, _ | .int k b, v, y, hr, hl, _ | .str b, v, y, hr, hl, _ | .lit b, v, y, hr, hl, _ | .tuple b, v, y, hr, hl, _ | .iface k b, v, y, hr, hl, _ | .func k b, v, y, hr, hl, _
 | .view a b c d, v, y, hr, hl, _ | .rptr a b, v, y, hr, hl, _ | .ptr a b, v, y, hr, hl, _ | .eptr a b c, v, y, hr, hl, _ | .mapr b, v, y, hr, hl, _ | .junk, v, y, hr, hl, _ => by
  simp only [AVal.lend, Option.some.injEq] at hl
  subst hl
  exact hr.mono (fun _ _ h => h) (fun _ h => h) hT (fun _ _ => rfl)
theorem lendL_sound (hi : Inv ι S T h w next) (hT : ∀ b, T b → T' b) : ∀ (cs ys : List AVal), lendL h cs = some ys → (∀ id ∈ ownIdsL cs, ∀ n L, (id, n) ∈ h → ι id = some L → T' L.block) →
  ys.length = cs.length ∧ ∀ (i : Nat) (c : AVal) (v : Value) (y : AVal), cs[i]? = some c → ys[i]? = some y → Rep ι S T w c v → Rep ι S T' w y v
 | [], ys, hl, _ => by
  simp [lendL] at hl
  subst hl
  simp
 | c :: r, ys, hl, ho => by
  simp only [lendL, Option.bind_eq_bind, Option.bind_eq_some_iff] at hl
  obtain ⟨c', hc, r', hr', he⟩ := hl
  simp at he
  subst he
  obtain ⟨g1, g2⟩ := lendL_sound hi hT r r' hr' (fun id hid => ho id (by simp [ownIdsL, hid]))
  refine ⟨by simp [g1], fun i x v y hx hy hrep => ?_⟩
  cases i with
  | zero =>
   simp at hx hy
   subst hx; subst hy
   exact lend_sound hi hT c v c' hrep hc (fun id hid => ho id (by simp [ownIdsL, hid]))
  | succ i => exact g2 i x v y (by simpa using hx) (by simpa using hy) hrep
end
end
end Go.Abs
namespace Go.Abs
def CallOK (P : Program) (g : Nat) (vals : Array Value) (w : World) (R : Value → World → Prop) : Prop :=
 match (callFunc g vals).run P w with
 | .ok (.value v) w' => R v w'
 | .ok (.enter f args) w' => Go.Calls P f args w' fun | .returned v, w'' => R v w'' | _, _ => False
 | .ok (.row row args) w' => Rows P row args w' R
 | _ => False
theorem CallOK.mono {P : Program} {g : Nat} {vals : Array Value} {w : World} {R R' : Value → World → Prop} (h : CallOK P g vals w R) (hr : ∀ v w', R v w' → R' v w') : CallOK P g vals w R' := by
 unfold CallOK at *
 split at h
 ·exact hr _ _ h
 ·refine Go.Calls.mono h fun e w'' he => ?_
  cases e with
  | returned v => exact hr _ _ he
  | panicked c => exact he
  | outgrown => exact he
 ·exact Rows.mono h hr
 ·exact h.elim
def Back (ι : Emb) (S T : Nat → Prop) (h : Heap) (w : World) (r : AVal) (h' : Heap) (v : Value) (w' : World) : Prop :=
 ∃ ι' S' next', Rep ι' S' T w' r v ∧ Inv ι' S' T h' w' next' ∧ Step ι S T h w ι' S' h' w'
def Meets (P : Program) (G : (Nat → Prop) → World → Prop) (run : Nat → List AVal → Heap → Option (AVal × Heap)) : Prop :=
 ∀ g args h r h', run g args h = some (r, h') → ∀ ι S T w (vals : Array Value), G S w → Inv ι S T h w (Free.above h.length) → args.length = vals.size → (∀ (i : Nat) (c : AVal) (v : Value), args[i]? = some c → vals[i]? = some v → Rep ι S T w c v) →
  CallOK P g vals w (Back ι S T h w r h')
section
variable {gl : Globs} {P : Program} {ι ι' : Emb} {S T T' S' : Nat → Prop} {w w' : World} {h h' sub : Heap} {next next' : Free} {nid : Nat} {f : Nat → Option Nat} {C : Calls} {g : Nat} {r : AVal} {G : (Nat → Prop) → World → Prop}
theorem pick_length : ∀ {l : List Nat}, (∀ id ∈ l, (h.get id).isSome = true ∧ (f id).isSome = true) → (pickNodes h f l).length = l.length
 | [], _ => rfl
 | id :: r, hl => by
  obtain ⟨h1, h2⟩ := hl id (by simp)
  obtain ⟨n, h1⟩ := Option.isSome_iff_exists.1 h1
  obtain ⟨k, h2⟩ := Option.isSome_iff_exists.1 h2
  have ih := pick_length (l := r) fun id hid => hl id (by simp [hid])
  simp [pickNodes, h1, h2, ih]
theorem present_some {l : List Nat} {id : Nat} (hid : id ∈ present h l) : (h.get id).isSome = true := by
 unfold present at hid
 exact (List.mem_filter.1 hid).2
theorem call_core (hC : Meets P G C.run) (hG : G S w) (hi : Inv ι S T h w next) (hn : ∀ id, nid ≤ id → id < nid + stride → next id) (hT : ∀ b, T b → T' b) (hlt : ∀ b, T' b → b < w.heap.size) {mv : List Nat} (hm : mv.Nodup) (hp : ∀ id ∈ mv, (h.get id).isSome = true)
  (hT' : ∀ id n L, id ∈ mv → (id, n) ∈ h → ι id = some L → ¬ T' L.block) {args : List AVal} {vals : Array Value} (hl : args.length = vals.size) (hr : ∀ (i : Nat) (c : AVal) (v : Value), args[i]? = some c → vals[i]? = some v → Rep ι S T' w c v)
  {r0 : AVal} (hrun : C.run g (renL (place mv 0) args) (pickNodes h (place mv 0) mv) = some (r0, sub)) (hsub : ∀ e ∈ sub, e.1 < mv.length + stride) (hno : T' = T ∨ (r0.noTmp = true ∧ ∀ e ∈ sub, e.2.noTmp = true)) :
  CallOK P g vals w fun v w' => ∃ ι' S', Rep ι' S' T w' (r0.ren (backOf mv nid)) v ∧ Inv ι' S' T (dropNodes h mv ++ sub.map fun e => ((backOf mv nid e.1).getD 0, e.2.ren (backOf mv nid))) w' (next.buts nid) ∧
   Step ι S T h w ι' S' (dropNodes h mv ++ sub.map fun e => ((backOf mv nid e.1).getD 0, e.2.ren (backOf mv nid))) w' := by
 have hpi := hi.pick hm hT hlt hT'
 have hlen : (pickNodes h (place mv 0) mv).length = mv.length := pick_length fun id hid => ⟨hp id hid, by
  obtain ⟨k, hk⟩ := place_some (n := 0) hid
  simp [hk]⟩
 have hf : ∀ id k L, place mv 0 id = some k → ι id = some L → (fun k => (mv[k]?).bind ι) k = some L := fun id k L hk hL => by simp [place_get0 hk, hL]
 refine (hC g _ _ r0 sub hrun _ S T' w vals hG (by rw [hlen]; exact hpi) (by rw [renL_length, hl]) fun i c v hc hv => ?_).mono fun v w' hb => ?_
 ·obtain ⟨c0, h0, rfl⟩ := ren_of_get hc
  exact (hr i c0 v h0 hv).ren hf
 ·obtain ⟨ι1, S1, next1, b1, b2, b3⟩ := hb
  have hnt : ∀ e ∈ sub, ∀ L, NodeRep ι1 S1 T' w' L e.2 → NodeRep ι1 S1 T w' L e.2 := by
   intro e he L hn
   rcases hno with rfl | ⟨_, hn2⟩
   ·exact hn
   ·exact hn.noTmp (hn2 e he)
  obtain ⟨ι2, c1, c2, c3⟩ := call_back hi hn hm hp b2 hT b3 hsub hnt
  refine ⟨ι2, S1, ?_, c2, c3⟩
  have hb1 : Rep ι1 S1 T w' r0 v := by
   rcases hno with rfl | ⟨hn1, _⟩
   ·exact b1
   ·exact b1.noTmp hn1
  exact hb1.ren c1
theorem callStep0_sound (hC : Meets P G C.run) (hG : G S w) (hi : Inv ι S T h w next) (hn : ∀ id, nid ≤ id → id < nid + stride → next id) {fv : AVal} {fval : Value} {args : List AVal} {vals : Array Value} (hfv : Rep ι S T w fv fval) (hl : args.length = vals.size)
  (hr : ∀ (i : Nat) (c : AVal) (v : Value), args[i]? = some c → vals[i]? = some v → Rep ι S T w c v) (hs : callStep0 C fv args nid h = some (r, h')) :
  ∃ g caps, fval = .func (.func g) #[] caps ∧ CallOK P g (vals ++ caps) w fun v w' => ∃ ι' S', Rep ι' S' T w' r v ∧ Inv ι' S' T h' w' (next.buts nid) ∧ Step ι S T h w ι' S' h' w' := by
 unfold callStep0 at hs
 split at hs <;> try (simp at hs; done)
 rename_i g caps
 obtain ⟨arr, rfl, h1, h2⟩ := hfv.func_inv
 refine ⟨g, arr, rfl, ?_⟩
 have hl0 : (args ++ caps).length = (vals ++ arr).size := by simp; omega
 have hr0 : ∀ (i : Nat) (c : AVal) (v : Value), (args ++ caps)[i]? = some c → (vals ++ arr)[i]? = some v → Rep ι S T w c v := by
  intro i c v hc hv
  by_cases hlt : i < args.length
  ·rw [List.getElem?_append_left hlt] at hc
   rw [Array.getElem?_append_left (by omega)] at hv
   exact hr i c v hc hv
  ·rw [List.getElem?_append_right (by omega)] at hc
   rw [Array.getElem?_append_right (by omega)] at hv
   rw [hl] at hc
   exact h2 _ c v hc hv
 generalize args ++ caps = args0 at *
 generalize vals ++ arr = vals0 at *
 simp only at hs
 by_cases hlent : (!C.moves g && !(ownIdsL args0).isEmpty) = true
 ·simp only [hlent, if_true, Bool.true_and] at hs
  split at hs <;> try (simp at hs; done)
  rename_i args1 hlend
  generalize hmv : present h (reach h reachFuel (idsL args1) []) = mv at hs
  split at hs <;> try (simp at hs; done)
  rename_i hnot
  split at hs <;> try (simp at hs; done)
  rename_i r0 sub hrun
  split at hs <;> try (simp at hs; done)
  rename_i hno
  split at hs <;> simp at hs
  rename_i hall
  obtain ⟨rfl, rfl⟩ := hs
  have hmd : mv.Nodup := hmv ▸ present_nodup (reach_nodup _ _ _ List.nodup_nil)
  have hmp : ∀ id ∈ mv, (h.get id).isSome = true := fun id hid => present_some (l := reach h reachFuel (idsL args1) []) (hmv ▸ hid)
  let T' : Nat → Prop := fun b => T b ∨ ∃ id n L, (id, n) ∈ h ∧ id ∉ mv ∧ ι id = some L ∧ L.block = b
  have hT : ∀ b, T b → T' b := fun b hb => .inl hb
  obtain ⟨g1, g2⟩ := lendL_sound (T' := T') hi hT args0 args1 hlend (fun id hid n L hm hL => by
   refine .inr ⟨id, n, L, hm, fun hin => hnot ?_, hL, rfl⟩
   exact List.any_eq_true.2 ⟨id, hid, by simpa using hin⟩)
  refine call_core hC hG hi hn hT ?_ hmd hmp ?_ (by omega) (fun i c v hc hv => ?_) hrun (fun e he => ?_) (.inr ?_)
  ·rintro b (hb | ⟨id, n, L, hm, _, hL, rfl⟩)
   ·exact hi.t_lt b hb
   ·exact hi.block_lt hm hL
  ·rintro id n L hin hm hL (hb | ⟨id', n', L', hm', hno', hL', hbl⟩)
   ·obtain ⟨L0, hL0, _, h2, _⟩ := hi.node _ _ hm
    rw [hL] at hL0; cases hL0
    exact h2 hb
   ·exact hno' (hi.inj _ _ _ _ _ _ hm' hm hL' hL hbl ▸ hin)
  ·have hlt : i < args0.length := by have := (List.getElem?_eq_some_iff.1 hc).1; omega
   have hci : args0[i]? = some args0[i] := List.getElem?_eq_getElem hlt
   exact g2 i _ v c hci hc (hr0 i _ v hci hv)
  ·have := List.all_eq_true.1 hall _ he
   simpa using this
  ·have hno' : r0.noTmp = true ∧ (sub.all fun e => e.2.noTmp) = true := by simpa using hno
   exact ⟨hno'.1, fun e he => List.all_eq_true.1 hno'.2 e he⟩
 ·have hlf : (!C.moves g && !(ownIdsL args0).isEmpty) = false := by simpa using hlent
  simp only [hlf, Bool.false_and, Bool.false_eq_true, if_false] at hs
  generalize hmv : present h (reach h reachFuel (idsL args0) []) = mv at hs
  split at hs <;> try (simp at hs; done)
  rename_i r0 sub hrun
  split at hs <;> simp at hs
  rename_i hall
  obtain ⟨rfl, rfl⟩ := hs
  have hmd : mv.Nodup := hmv ▸ present_nodup (reach_nodup _ _ _ List.nodup_nil)
  have hmp : ∀ id ∈ mv, (h.get id).isSome = true := fun id hid => present_some (l := reach h reachFuel (idsL args0) []) (hmv ▸ hid)
  refine call_core (T' := T) hC hG hi hn (fun _ h => h) hi.t_lt hmd hmp ?_ hl0 hr0 hrun (fun e he => ?_) (.inl rfl)
  ·intro id n L _ hm hL
   obtain ⟨L0, hL0, _, h2, _⟩ := hi.node _ _ hm
   rw [hL] at hL0; cases hL0
   exact h2
  ·have := List.all_eq_true.1 hall _ he
   simpa using this
theorem callStep_some {C : Calls} {f : AVal} {args : List AVal} {nid : Nat} {h : Heap} {r : AVal × Heap} (hs : callStep C f args nid h = some r) : callStep0 C f args nid h = some r ∧ ¬ (roCall f && !roOk (callFp C f args h) h r.2) = true := by
 unfold callStep at hs
 split at hs
 ·rename_i x hx
  split at hs
  ·cases hs
  ·rename_i hn
   cases hs
   exact ⟨hx, hn⟩
 ·cases hs
theorem callStep_sound (hC : Meets P G C.run) (hG : G S w) (hi : Inv ι S T h w next) (hn : ∀ id, nid ≤ id → id < nid + stride → next id) {fv : AVal} {fval : Value} {args : List AVal} {vals : Array Value} (hfv : Rep ι S T w fv fval) (hl : args.length = vals.size)
  (hr : ∀ (i : Nat) (c : AVal) (v : Value), args[i]? = some c → vals[i]? = some v → Rep ι S T w c v) (hs : callStep C fv args nid h = some (r, h')) :
  ∃ g caps, fval = .func (.func g) #[] caps ∧ CallOK P g (vals ++ caps) w fun v w' => ∃ ι' S', Rep ι' S' T w' r v ∧ Inv ι' S' T h' w' (next.buts nid) ∧ Step ι S T h w ι' S' h' w' :=
 callStep0_sound hC hG hi hn hfv hl hr (callStep_some hs).1
end
end Go.Abs
