import Derived.Test.YtambgnjkakdoeaaGreatDoorArchives3
/- PART OF A PROOF (texts joined by a program): S16 D1 D2 D3 D4 D5 D6 D7 D8 S17. -/
set_option linter.unusedVariables false
set_option linter.unusedSimpArgs false
set_option linter.unusedSectionVars false
namespace Go.Abs
def Holds (gl : Globs) (ι0 : Emb) (S0 T : Nat → Prop) (h0 : Heap) (w0 : World) (env : List AVal) (heap : Heap) (next : Free) (a : Act) (w : World) : Prop :=
 ∃ ι S, Inv ι S T heap w next ∧ EnvRep gl ι S T w env a.tmps ∧ Step ι0 S0 T h0 w0 ι S heap w ∧ a.defers = []
section
variable {gl : Globs} {P : Program} {ι0 : Emb} {S0 T : Nat → Prop} {h0 : Heap} {w0 w w' : World} {C : Calls} {ts : List TypeId} {a : Act} {env : List AVal} {heap : Heap} {next next' : Free} {nid m : Nat} {Q : Exit → Act → World → Prop} {G : (Nat → Prop) → World → Prop}
theorem Holds.mono (h : Holds gl ι0 S0 T h0 w0 env heap next a w) (hn : ∀ id, next' id → next id) : Holds gl ι0 S0 T h0 w0 env heap next' a w := by
 obtain ⟨ι, S, h1, h2, h3, h4⟩ := h
 exact ⟨ι, S, h1.mono hn, h2, h3, h4⟩
theorem EnvRep.set {ι : Emb} {S : Nat → Prop} (h : EnvRep gl ι S T w env a.tmps) {d : Option Tmp} {r : AVal} {v : Value} (hr : Rep ι S T w r v) : EnvRep gl ι S T w (setAt d r env) (a.put d v).tmps := by
 cases d with
 | none => exact h
 | some d =>
  refine ⟨⟨h.1.1, by simp [setAt, Act.put, h.1.2]⟩, fun i c u hc hu => ?_⟩
  simp only [setAt, Act.put] at hc hu
  by_cases hid : d = i
  ·subst hid
   rw [List.getElem?_set] at hc
   rw [Array.getElem?_setIfInBounds] at hu
   simp at hc hu
   obtain ⟨_, rfl⟩ := hc
   obtain ⟨_, rfl⟩ := hu
   exact hr
  ·rw [List.getElem?_set_ne hid] at hc
   rw [Array.getElem?_setIfInBounds_ne hid] at hu
   exact h.2 i c u hc hu
theorem EnvRep.step {ι ι' : Emb} {S S' : Nat → Prop} {h h' : Heap} (hi : Inv ι S T h w next) (st : Step ι S T h w ι' S' h' w') {tmps : Array Value} (he : EnvRep gl ι S T w env tmps) : EnvRep gl ι' S' T w' env tmps :=
 ⟨⟨he.1.1.mono st.s fun b hb => hi.stable st b (.inl hb), he.1.2⟩, fun i c v hc hv => (he.2 i c v hc hv).step hi st⟩
theorem put_defers' (a : Act) (d : Option Tmp) (v : Value) : (a.put d v).defers = a.defers := by cases d <;> rfl
theorem call_run {o : Oper} {f : Operand} {args : Array Operand} {ats : Array TypeId} {g : Nat} {caps : Array Value} (ho : o.op = .call { callee := .value f, args, argTypes := ats }) (hf : a.eval f = .func (.func g) #[] caps) :
  (execOp a.eval o).run P w = (callFunc g (args.map a.eval ++ caps)).run P w := by
 simp [execOp, ho, resolve, hf, Deferred.ofValue, invoke]
theorem builtin_call {b : Builtin} {ats : List TypeId} {args : List Operand} {f : AOpd} {xs : List AOpd} : trBuiltin gl P b ats args ≠ some (.call f xs) := by
 intro ht
 unfold trBuiltin at ht
 repeat' split at ht
 all_goals (simp at ht; done)
theorem trOp_call {o : Oper} {f : AOpd} {args : List AOpd} (ht : trOp gl P ts o = some (.call f args)) : ∃ fo xs ats, o.op = .call { callee := .value fo, args := xs, argTypes := ats } ∧ trOpd gl fo = some f ∧ trOpds gl xs.toList = some args := by
 unfold trOp at ht
 split at ht
 case h_29 c ho =>
  obtain ⟨callee, xs, ats⟩ := c
  simp only at ht
  split at ht
  ·split at ht <;> simp at ht
   obtain ⟨rfl, rfl⟩ := ht
   rename_i hf hxs
   exact ⟨_, xs, ats, ho, hf, hxs⟩
  ·exact (builtin_call ht).elim
  ·simp at ht
 all_goals (repeat' split at ht)
 all_goals (simp at ht; done)
theorem go_sound (hC : Meets P G C.run) (hG : ∀ ι S h w, Step ι0 S0 T h0 w0 ι S h w → G S w) {o : Oper} {ao : AOper} (ht : ao.op = (trOp gl P ts o).getD .bad) (hd : ao.dst = o.dst) {r : AVal} {h1 : Heap}
  (hs : (match ao.op with
   | .call f args => callStep C (f.ev env) (args.map (·.ev env)) nid heap
   | op => aop op env nid heap) = some (r, h1))
  (hH : Holds gl ι0 S0 T h0 w0 env heap next a w) (hn : ∀ id, nid ≤ id → id < nid + stride → next id) {K : Act → World → Prop} (hK : ∀ a' w', Holds gl ι0 S0 T h0 w0 (setAt ao.dst r env) h1 (next.buts nid) a' w' → K a' w') : o.wp P a w K Q := by
 obtain ⟨ι, S, hi, henv, hst, hdf⟩ := hH
 have ht : trOp gl P ts o = some ao.op := by
  cases hto : trOp gl P ts o with
  | none =>
   rw [hto] at ht
   rw [ht] at hs
   simp [aop] at hs
  | some op => rw [hto] at ht; simp [ht]
 cases hcall : ao.op.isCall with
 | true =>
  obtain ⟨op, f, args, hop⟩ : ∃ op f args, ao.op = op ∧ op = .call f args := by
   cases hop : ao.op <;> simp [hop, AOp.isCall] at hcall
   exact ⟨_, _, _, rfl, rfl⟩
  obtain ⟨hop, rfl⟩ := hop
  rw [hop] at hs ht
  simp only at hs
  have hx := trOp_call ht
  obtain ⟨fo, xs, ats, ho, hfo, hxs⟩ := hx
  obtain ⟨l1, l2⟩ := opds_rep henv hxs
  obtain ⟨g, caps, hfv, hok⟩ := callStep_sound hC (hG _ _ _ _ hst) hi hn (opd_rep henv hfo) (vals := xs.map a.eval) (by simp; simpa using l1) (fun i c v hc hv => l2 i c v hc (by simpa using hv)) hs
  unfold Oper.wp
  rw [call_run ho hfv]
  unfold CallOK at hok
  have fin : ∀ v w', (∃ ι' S', Rep ι' S' T w' r v ∧ Inv ι' S' T h1 w' (next.buts nid) ∧ Step ι S T heap w ι' S' h1 w') → K (a.put o.dst v) w' := by
   rintro v w' ⟨ι', S', b1, b2, b3⟩
   refine hK _ _ ⟨ι', S', b2, ?_, hst.trans b3, by rw [put_defers', hdf]⟩
   rw [hd]
   exact (henv.step hi b3).set b1
  split at hok
  ·rename_i v w' hr
   rw [hr]
   exact fin _ _ hok
  ·rename_i f' args' w' hr
   rw [hr]
   refine Go.Calls.mono hok fun e w'' he => ?_
   cases e with
   | returned v => exact fin _ _ he
   | panicked c => exact he.elim
   | outgrown => exact he.elim
  ·rename_i row args' w' hr
   rw [hr]
   exact Rows.mono hok fun v w'' he => fin _ _ he
  ·exact hok.elim
 | false =>
  have hs' : aop ao.op env nid heap = some (r, h1) := by
   cases hop : ao.op <;> simp only [hop] at hs hcall ⊢ <;> first | exact hs | simp [AOp.isCall] at hcall
  obtain ⟨nx, v', w', ι', S', h1', h2, h3, h4, h5⟩ := aop_good (P := P) (o := o) (a := a) (w := w) ht hcall hi (hn nid (Nat.le_refl _) (by simp [stride])) henv hs'
  unfold Oper.wp
  rw [h1']
  have fin : K (a.put o.dst v') w' := by
   refine hK _ _ ⟨ι', S', h4.mono (fun id h => ⟨h.1, fun he => h.2 ⟨by omega, by simp [stride]; omega⟩⟩), ?_, hst.trans h5, by rw [put_defers', hdf]⟩
   rw [hd]
   exact (henv.step hi h5).set h3
  rcases h2 with rfl | ⟨rfl, rfl⟩
  ·exact fin
  ·exact fin
theorem guard_sound {ι : Emb} {S : Nat → Prop} {ops : Array Oper} {o : Oper} {g : Option (Nat × Bool)} (hg : trGuard ops o.guard = some g) (henv : EnvRep gl ι S T w env a.tmps) :
  (g = none → Region.wanted o (yielded ops a.tmps) = true) ∧
  (∀ d want b, g = some (d, want) → env.getD d .junk = .bool b → Region.wanted o (yielded ops a.tmps) = (b == want)) ∧
  (∀ d want arr, g = some (d, want) → env.getD d .junk = .lit (.tuple arr) → Region.wanted o (yielded ops a.tmps) = false) := by
 unfold Region.wanted
 cases ho : o.guard with
 | none =>
  rw [ho] at hg
  simp [trGuard] at hg
  subst hg
  simp
 | some jw =>
  obtain ⟨j, want⟩ := jw
  rw [ho] at hg
  simp only [trGuard] at hg
  split at hg <;> simp at hg
  rename_i d hd
  subst hg
  refine ⟨by simp, fun d' want' b he hb => ?_, fun d' want' arr he hb => ?_⟩
  all_goals
   simp at he
   obtain ⟨rfl, rfl⟩ := he
   have hr := henv.getD d
   rw [hb] at hr
  ·have hv := hr.bool_inv
   have hlt : d < a.tmps.size := by
    rcases Nat.lt_or_ge d a.tmps.size with h | h
    ·exact h
    ·have : a.tmps.getD d undef = undef := by simp [Array.getD, Nat.not_lt.2 h]
     rw [this] at hv
     simp [undef] at hv
   have hv' : a.tmps[d]? = some (.bool b) := by
    rw [← hv]; simp [Array.getD, hlt]
   simp only [yielded, hd, Option.bind_some, hv']
   cases b <;> cases want <;> rfl
  ·have hv := hr.lit_inv
   have : yielded ops a.tmps j = none := by
    unfold yielded
    rw [hd]
    simp only [Option.bind_some]
    by_cases hlt : d < a.tmps.size
    ·have hv' : a.tmps[d]? = some (.tuple arr) := by
      rw [← hv]; simp [Array.getD, hlt]
     rw [hv']
    ·rw [Array.getElem?_eq_none (Nat.not_lt.1 hlt)]
   simp only [this]
   rfl
theorem stepOp_sound (hC : Meets P G C.run) (hG : ∀ ι S h w, Step ι0 S0 T h0 w0 ι S h w → G S w) {ops : Array Oper} {i : Nat} {o : Oper} {ao : AOper} (ho : ops[i]? = some o) (ht : ao.op = (trOp gl P ts o).getD .bad) (hd : ao.dst = o.dst) (hg : trGuard ops o.guard = some ao.guard) {st st' : ASt}
  (hs : stepOp C ao nid st = some st') (hH : Holds gl ι0 S0 T h0 w0 st.env st.heap next a w) (hn : ∀ id, nid ≤ id → id < nid + stride → next id) {K : Act → World → Prop} (hK : ∀ a' w', Holds gl ι0 S0 T h0 w0 st'.env st'.heap (next.buts nid) a' w' → K a' w') :
  wpOp P ops Q i K a w := by
 have hH' := hH
 obtain ⟨ι, S, hi, henv, hst, hdf⟩ := hH'
 obtain ⟨g1, g2, g3⟩ := guard_sound hg henv
 have go : Region.wanted o (yielded ops a.tmps) = true → (match ao.op with
    | .call f args => (callStep C (f.ev st.env) (args.map (·.ev st.env)) nid st.heap).map fun (v, h) => { st with env := setAt ao.dst v st.env, heap := h }
    | op => (aop op st.env nid st.heap).map fun (v, h) => { st with env := setAt ao.dst v st.env, heap := h }) = some st' → wpOp P ops Q i K a w := by
  intro hw hs
  have hx : ∃ r h1, (match ao.op with
   | .call f args => callStep C (f.ev st.env) (args.map (·.ev st.env)) nid st.heap
   | op => aop op st.env nid st.heap) = some (r, h1) ∧ st' = { st with env := setAt ao.dst r st.env, heap := h1 } := by
   split at hs
   ·rename_i f args hop
    obtain ⟨⟨r, h1⟩, e1, e2⟩ := map_some hs
    exact ⟨r, h1, by simpa [hop] using e1, e2.symm⟩
   ·rename_i hop
    obtain ⟨⟨r, h1⟩, e1, e2⟩ := map_some hs
    exact ⟨r, h1, e1, e2.symm⟩
  obtain ⟨r, h1, e1, rfl⟩ := hx
  unfold wpOp
  simp only [ho, hw, if_true]
  exact .inl (go_sound hC hG ht hd e1 hH hn hK)
 have skip : Region.wanted o (yielded ops a.tmps) = false → st' = { st with env := setAt ao.dst .undef st.env } → wpOp P ops Q i K a w := by
  rintro hw rfl
  unfold wpOp
  simp only [ho, hw, Bool.false_eq_true, if_false]
  refine hK _ _ ⟨ι, S, hi.mono (fun _ h => h.1), ?_, hst, by rw [put_defers', hdf]⟩
  rw [← hd]
  exact henv.set (.lit _)
 unfold stepOp at hs
 simp only at hs
 split at hs
 ·rename_i hgn
  exact go (g1 hgn) hs
 ·rename_i d want hgs
  split at hs
  ·rename_i b hb
   have hw := g2 d want b hgs hb
   split at hs
   ·rename_i hbw
    exact go (by rw [hw]; simpa using hbw) hs
   ·rename_i hbw
    simp at hs
    exact skip (by rw [hw]; simpa using hbw) hs.symm
  ·rename_i arr hb
   simp at hs
   exact skip (g3 d want arr hgs hb) hs.symm
  ·simp at hs
theorem runOps_sound (hC : Meets P G C.run) (hG : ∀ ι S h w, Step ι0 S0 T h0 w0 ι S h w → G S w) {ops : Array Oper} : ∀ {l : List Oper} {aos : List AOper} {i nid : Nat} {st st' : ASt} {a : Act} {w : World}, trOps gl P ts ops l = some aos → (∀ j o, l[j]? = some o → ops[i + j]? = some o) → runOps C aos nid st = some st' →
  Holds gl ι0 S0 T h0 w0 st.env st.heap (Free.above nid) a w → (∀ a' w', Holds gl ι0 S0 T h0 w0 st'.env st'.heap (Free.above st'.next) a' w' → Q .normal a' w') → wpOps P ops Q (List.range' i l.length) a w
 | [], aos, i, nid, st, st', a, w, ht, _, hs, hH, hQ => by
  simp [trOps] at ht
  subst ht
  simp [runOps] at hs
  subst hs
  simp only [List.length_nil, List.range'_zero, wpOps]
  exact hQ _ _ hH
 | o :: r, aos, i, nid, st, st', a, w, ht, hl, hs, hH, hQ => by
  simp only [trOps] at ht
  split at ht <;> simp at ht
  rename_i g aos' h2 h3
  subst ht
  simp only [runOps] at hs
  split at hs <;> try (simp at hs; done)
  rename_i st1 hs1
  simp only [List.length_cons, List.range'_succ, wpOps_cons]
  refine stepOp_sound (ao := { dst := o.dst, op := (trOp gl P ts o).getD .bad, guard := g }) hC hG (hl 0 o rfl) rfl rfl h2 hs1 hH (fun _ h _ => h) fun a' w' hH' => ?_
  exact runOps_sound hC hG h3 (fun j o' hj => by
   have := hl (j + 1) o' (by simpa using hj)
   rw [← this]; congr 1; omega) hs (hH'.mono fun id (hid : nid + stride ≤ id) => ⟨Nat.le_trans (Nat.le_add_right _ _) hid, fun hc => by omega⟩) hQ
end
end Go.Abs
namespace Go.Abs
section
variable {op : AOp} {env env2 : List AVal} {nid nid2 : Nat} {h h' h2 : Heap} {r : AVal}
theorem map_opd (xs : List AOpd) (he : ∀ x ∈ xs, x.ev env2 = x.ev env) : xs.map (·.ev env2) = xs.map (·.ev env) :=
 List.map_congr_left he
theorem opt_opd (x : Option AOpd) (he : ∀ y ∈ x, y.ev env2 = y.ev env) : x.map (·.ev env2) = x.map (·.ev env) := by
 cases x with
 | none => rfl
 | some y => simp [he y (by simp)]
theorem aop_pure (hc : op.cls = 0) (he : ∀ x ∈ op.opds, x.ev env2 = x.ev env) (hr : aop op env nid h = some (r, h')) : h' = h ∧ aop op env2 nid2 h2 = some (r, h2) := by
 cases op
 case mkfn fn cs =>
  simp only [aop, Option.some.injEq, Prod.mk.injEq] at hr ⊢
  obtain ⟨rfl, rfl⟩ := hr
  exact ⟨rfl, by rw [map_opd cs (by simpa [AOp.opds] using he)], trivial⟩
 case build zero ps =>
  have h1 : ps.map (fun (o, s, x) => (o, s, x.ev env2)) = ps.map (fun (o, s, x) => (o, s, x.ev env)) := by
   refine List.map_congr_left fun p hp => ?_
   obtain ⟨o, s, x⟩ := p
   simp only [he x (by simp [AOp.opds]; exact ⟨o, s, hp⟩)]
  simp only [aop, h1] at hr ⊢
  split at hr <;> simp at hr
  obtain ⟨rfl, rfl⟩ := hr
  exact ⟨rfl, rfl⟩
 case slc sz x lo hi mx =>
  have h1 := he x (by simp [AOp.opds])
  have h2' := opt_opd lo fun y hy => he y (by simp [AOp.opds]; right; left; simpa using hy)
  have h3 := opt_opd hi fun y hy => he y (by simp [AOp.opds]; right; right; left; simpa using hy)
  have h4 := opt_opd mx fun y hy => he y (by simp [AOp.opds]; right; right; right; simpa using hy)
  simp only [aop, h1, h2', h3, h4] at hr ⊢
  split at hr <;> simp at hr
  obtain ⟨v, hv, rfl, rfl⟩ := hr
  rename_i hs
  exact ⟨rfl, by simp [hv]⟩
 case slct x lo hi =>
  have h1 := he x (by simp [AOp.opds])
  have h2' := opt_opd lo fun y hy => he y (by simp [AOp.opds]; right; left; simpa using hy)
  have h3 := opt_opd hi fun y hy => he y (by simp [AOp.opds]; right; right; simpa using hy)
  simp only [aop, h1, h2', h3] at hr ⊢
  split at hr <;> simp at hr
  obtain ⟨v, hv, rfl, rfl⟩ := hr
  exact ⟨rfl, by simp [hv]⟩
 case len k x =>
  have h1 := he x (by simp [AOp.opds])
  match k with
  | 0 | 1 =>
   simp only [aop, h1] at hr ⊢
   split at hr <;> simp at hr
   all_goals
    obtain ⟨rfl, rfl⟩ := hr
    simp
  | 2 => simp [AOp.cls] at hc
  | k + 3 => simp [aop] at hr
 case minmax mx x y =>
  simp [AOp.opds] at he
  simp only [aop, he] at hr ⊢
  split at hr <;> simp at hr
  obtain ⟨rfl, rfl⟩ := hr
  simp
 all_goals first | (simp [AOp.cls] at hc; done) | skip
 all_goals simp [AOp.opds] at he
 all_goals simp only [aop, he] at hr ⊢
 all_goals (repeat' split at hr)
 all_goals first | (simp at hr; done) | (simp at hr ⊢; simp_all; done) | (obtain ⟨v, hv, hh⟩ := map_some hr; simp at hh; obtain ⟨rfl, rfl⟩ := hh; exact ⟨rfl, by simp [hv]⟩)
theorem get_put (h : Heap) (id k : Nat) (n : Node) : (h.put id n).get k = if k = id then (h.get id).map (fun _ => n) else h.get k := by
 induction h with
 | nil => simp [Heap.put, Heap.get]
 | cons e t ih =>
  obtain ⟨j, m⟩ := e
  simp only [Heap.put]
  by_cases hj : j = id
  ·subst hj
   simp only [if_true, Heap.get]
   by_cases hk : k = j
   ·subst hk; simp
   ·simp [hk, Ne.symm hk]
  ·simp only [hj, if_false, Heap.get]
   by_cases hk : j = k
   ·subst hk; simp [hj]
   ·simp only [hk, if_false, ih]
theorem get_none {h : Heap} {k : Nat} : h.get k = none ↔ k ∉ h.map (·.1) := by
 induction h with
 | nil => simp [Heap.get]
 | cons e t ih =>
  obtain ⟨j, m⟩ := e
  simp only [Heap.get, List.map_cons, List.mem_cons, not_or]
  by_cases hk : j = k
  ·subst hk; simp
  ·simp [hk, Ne.symm hk, ih]
theorem get_del {h : Heap} (hd : (h.map (·.1)).Nodup) (id k : Nat) : (h.del id).get k = if k = id then none else h.get k := by
 induction h with
 | nil => simp [Heap.del, Heap.get]
 | cons e t ih =>
  obtain ⟨j, m⟩ := e
  simp only [List.map_cons, List.nodup_cons] at hd
  simp only [Heap.del]
  by_cases hj : j = id
  ·subst hj
   simp only [if_true, Heap.get]
   by_cases hk : k = j
   ·subst hk; simp [get_none, hd.1]
   ·simp [hk, Ne.symm hk]
  ·simp only [hj, if_false, Heap.get]
   by_cases hk : j = k
   ·subst hk; simp [hj]
   ·simp only [hk, if_false, ih hd.2]
theorem get_app (h g : Heap) (k : Nat) : (h ++ g).get k = (h.get k).or (g.get k) := by
 induction h with
 | nil => simp [Heap.get]
 | cons e t ih =>
  obtain ⟨j, m⟩ := e
  simp only [List.cons_append, Heap.get]
  by_cases hk : j = k
  ·simp [hk]
  ·simp [hk, ih]
structure Edit (wr : List Nat) (nid : Nat) (h h' h2 h2' : Heap) : Prop where
 on : ∀ id, id ∈ wr ∨ id = nid → h2'.get id = h'.get id
 off : ∀ id, id ∉ wr → id ≠ nid → h'.get id = h.get id
 off2 : ∀ id, id ∉ wr → id ≠ nid → h2'.get id = h2.get id
 gone : ∀ id, id ≠ nid → h.get id = none → h'.get id = none
 gone2 : ∀ id, id ≠ nid → h2.get id = none → h2'.get id = none
 nd : (h'.map (·.1)).Nodup
 nd2 : (h2'.map (·.1)).Nodup
section edits
variable {wr : List Nat} {h'' h2' h2'' : Heap} {id : Nat} {n m : Node}
theorem Edit.refl (hn : h.get nid = none) (hn2 : h2.get nid = none) (hd : (h.map (·.1)).Nodup) (hd2 : (h2.map (·.1)).Nodup) (hg : ∀ id ∈ wr, h2.get id = h.get id) : Edit wr nid h h h2 h2 :=
 ⟨fun id hid => hid.elim (hg id) fun e => by rw [e, hn, hn2], fun _ _ _ => rfl, fun _ _ _ => rfl, fun _ _ h => h, fun _ _ h => h, hd, hd2⟩
theorem Edit.put (a : Edit wr nid h h' h2 h2') (hid : id ∈ wr) (n : Node) : Edit wr nid h (h'.put id n) h2 (h2'.put id n) := by
 refine ⟨fun k hk => ?_, fun k h1 h2 => ?_, fun k h1 h2 => ?_, fun k h1 h2 => ?_, fun k h1 h2 => ?_, ?_, ?_⟩
 ·rw [get_put, get_put, a.on id (.inl hid), a.on k hk]
 ·rw [get_put, if_neg (by rintro rfl; exact h1 hid), a.off k h1 h2]
 ·rw [get_put, if_neg (by rintro rfl; exact h1 hid), a.off2 k h1 h2]
 ·rw [get_put]
  split
  ·rename_i he; subst he; rw [a.gone _ h1 h2]; rfl
  ·exact a.gone k h1 h2
 ·rw [get_put]
  split
  ·rename_i he; subst he; rw [a.gone2 _ h1 h2]; rfl
  ·exact a.gone2 k h1 h2
 ·rw [Heap.keys_put]; exact a.nd
 ·rw [Heap.keys_put]; exact a.nd2
theorem Edit.del (a : Edit wr nid h h' h2 h2') (hid : id ∈ wr) : Edit wr nid h (h'.del id) h2 (h2'.del id) := by
 refine ⟨fun k hk => ?_, fun k h1 h2 => ?_, fun k h1 h2 => ?_, fun k h1 h2 => ?_, fun k h1 h2 => ?_, ?_, ?_⟩
 ·rw [get_del a.nd, get_del a.nd2, a.on k hk]
 ·rw [get_del a.nd, if_neg (by rintro rfl; exact h1 hid), a.off k h1 h2]
 ·rw [get_del a.nd2, if_neg (by rintro rfl; exact h1 hid), a.off2 k h1 h2]
 ·rw [get_del a.nd]
  split
  ·rfl
  ·exact a.gone k h1 h2
 ·rw [get_del a.nd2]
  split
  ·rfl
  ·exact a.gone2 k h1 h2
 ·exact a.nd.sublist Heap.keys_del
 ·exact a.nd2.sublist Heap.keys_del
theorem Edit.new (a : Edit wr nid h h' h2 h2') (hn : h'.get nid = Option.none) (hn2 : h2'.get nid = Option.none) (n : Node) : Edit wr nid h (h' ++ [(nid, n)]) h2 (h2' ++ [(nid, n)]) := by
 have nd : ∀ {g : Heap}, (g.map (·.1)).Nodup → g.get nid = Option.none → ((g ++ [(nid, n)]).map (·.1)).Nodup := by
  intro g hd hn
  rw [List.map_append, List.nodup_append]
  refine ⟨hd, by simp, fun x hx y hy => ?_⟩
  simp at hy
  subst hy
  rintro rfl
  exact get_none.1 hn hx
 have one : ∀ k, k ≠ nid → Heap.get [(nid, n)] k = Option.none := fun k hk => by simp [Heap.get, Ne.symm hk]
 refine ⟨fun k hk => ?_, fun k h1 h2 => ?_, fun k h1 h2 => ?_, fun k h1 h2 => ?_, fun k h1 h2 => ?_, nd a.nd hn, nd a.nd2 hn2⟩
 ·rw [get_app, get_app, a.on k hk]
 ·rw [get_app, one k h2, Option.or_none, a.off k h1 h2]
 ·rw [get_app, one k h2, Option.or_none, a.off2 k h1 h2]
 ·rw [get_app, one k h1, Option.or_none, a.gone k h1 h2]
 ·rw [get_app, one k h1, Option.or_none, a.gone2 k h1 h2]
end edits
end
end Go.Abs
namespace Go.Abs
section
variable {op : AOp} {env env2 : List AVal} {nid nid2 : Nat} {h h' h2 : Heap} {r : AVal} {wr : List Nat}
theorem elems_local {x : AVal} (hg : ∀ id ∈ x.ids, h2.get id = h.get id) : elems h2 x = elems h x := by
 cases x
 case own id sz off len clip => simp only [elems, hg id (by simp [AVal.ids])]
 case lit v =>
  unfold elems
  split <;> first | rfl | simp_all
 all_goals rfl
theorem appended_local {x : AVal} (hg : ∀ id ∈ x.ids, h2.get id = h.get id) : appended h2 x = appended h x := by
 cases x
 case view z es c t => cases t <;> rfl
 all_goals first | rfl | exact elems_local hg
section consume
variable {h0 g0 g h1 : Heap}
theorem consume1_local (E : Edit wr nid h0 h g0 g) {x y : AVal} (hw : ∀ id ∈ x.ids, id ∈ wr) (hc : consume1 h x = some (y, h1)) : ∃ g1, consume1 g x = some (y, g1) ∧ Edit wr nid h0 h1 g0 g1 := by
 cases x
 case own id sz off len clip =>
  have hid := hw id (by simp [AVal.ids])
  simp only [consume1, E.on id (.inl hid)] at hc ⊢
  split at hc <;> try (simp at hc; done)
  split at hc <;> simp at hc
  obtain ⟨rfl, rfl⟩ := hc
  rename_i hle
  rename_i hgt
  exact ⟨g.del id, by simp [hle], E.del hid⟩
 all_goals
  simp only [consume1, Option.some.injEq, Prod.mk.injEq] at hc ⊢
  obtain ⟨rfl, rfl⟩ := hc
  exact ⟨g, ⟨rfl, rfl⟩, E⟩
theorem consumeCs_local : ∀ {cs : List AVal} {h g h1 : Heap} (_ : Edit wr nid h0 h g0 g) {ys : List AVal} (_ : ∀ id ∈ idsL cs, id ∈ wr) (_ : consumeCs h cs = some (ys, h1)), ∃ g1, consumeCs g cs = some (ys, g1) ∧ Edit wr nid h0 h1 g0 g1
 | [], h, g, h1, E, ys, _, hc => by
  simp [consumeCs] at hc
  obtain ⟨rfl, rfl⟩ := hc
  exact ⟨g, rfl, E⟩
 | c :: r, h, g, h1, E, ys, hw, hc => by
  simp only [consumeCs, Option.bind_eq_bind, Option.bind_eq_some_iff] at hc
  obtain ⟨⟨c', h2⟩, a1, ⟨r', h3⟩, a2, a3⟩ := hc
  simp at a3
  obtain ⟨rfl, rfl⟩ := a3
  obtain ⟨g2, b1, b2⟩ := consume1_local E (fun id hid => hw id (by simp [idsL, hid])) a1
  obtain ⟨g3, c1, c2⟩ := consumeCs_local b2 (fun id hid => hw id (by simp [idsL, hid])) a2
  exact ⟨g3, by simp [consumeCs, b1, c1], c2⟩
theorem consume_local (E : Edit wr nid h0 h g0 g) {x y : AVal} (hw : ∀ id ∈ x.ids, id ∈ wr) (hc : consume h x = some (y, h1)) : ∃ g1, consume g x = some (y, g1) ∧ Edit wr nid h0 h1 g0 g1 := by
 cases x
 case agg cs =>
  simp only [consume] at hc ⊢
  obtain ⟨⟨ys, h2⟩, a1, a2⟩ := map_some hc
  simp at a2
  obtain ⟨rfl, rfl⟩ := a2
  obtain ⟨g1, b1, b2⟩ := consumeCs_local E (by simpa [AVal.ids] using hw) a1
  exact ⟨g1, by simp [b1], b2⟩
 all_goals exact consume1_local E hw hc
theorem consumeL_local : ∀ {cs : List AVal} {h g h1 : Heap} (_ : Edit wr nid h0 h g0 g) {ys : List AVal} (_ : ∀ id ∈ idsL cs, id ∈ wr) (_ : consumeL h cs = some (ys, h1)), ∃ g1, consumeL g cs = some (ys, g1) ∧ Edit wr nid h0 h1 g0 g1
 | [], h, g, h1, E, ys, _, hc => by
  simp [consumeL] at hc
  obtain ⟨rfl, rfl⟩ := hc
  exact ⟨g, rfl, E⟩
 | c :: r, h, g, h1, E, ys, hw, hc => by
  simp only [consumeL, Option.bind_eq_bind, Option.bind_eq_some_iff] at hc
  obtain ⟨⟨c', h2⟩, a1, ⟨r', h3⟩, a2, a3⟩ := hc
  simp at a3
  obtain ⟨rfl, rfl⟩ := a3
  obtain ⟨g2, b1, b2⟩ := consume_local E (fun id hid => hw id (by simp [idsL, hid])) a1
  obtain ⟨g3, c1, c2⟩ := consumeL_local b2 (fun id hid => hw id (by simp [idsL, hid])) a2
  exact ⟨g3, by simp [consumeL, b1, c1], c2⟩
theorem consume1_keys {x y : AVal} (hc : consume1 h x = some (y, h1)) : (h1.map (·.1)).Sublist (h.map (·.1)) := by
 cases x
 case own id sz off len clip =>
  simp only [consume1] at hc
  split at hc <;> try (simp at hc; done)
  split at hc <;> simp at hc
  obtain ⟨rfl, rfl⟩ := hc
  exact Heap.keys_del
 all_goals
  simp only [consume1, Option.some.injEq, Prod.mk.injEq] at hc
  obtain ⟨rfl, rfl⟩ := hc
  exact List.Sublist.refl _
theorem consumeCs_keys : ∀ {cs : List AVal} {h h1 : Heap} {ys : List AVal} (_ : consumeCs h cs = some (ys, h1)), (h1.map (·.1)).Sublist (h.map (·.1))
 | [], h, h1, ys, hc => by
  simp [consumeCs] at hc
  obtain ⟨rfl, rfl⟩ := hc
  exact List.Sublist.refl _
 | c :: r, h, h1, ys, hc => by
  simp only [consumeCs, Option.bind_eq_bind, Option.bind_eq_some_iff] at hc
  obtain ⟨⟨c', h2⟩, a1, ⟨r', h3⟩, a2, a3⟩ := hc
  simp at a3
  obtain ⟨rfl, rfl⟩ := a3
  exact (consumeCs_keys a2).trans (consume1_keys a1)
theorem consume_keys {x y : AVal} (hc : consume h x = some (y, h1)) : (h1.map (·.1)).Sublist (h.map (·.1)) := by
 cases x
 case agg cs =>
  simp only [consume] at hc
  obtain ⟨⟨ys, h2⟩, a1, a2⟩ := map_some hc
  simp at a2
  obtain ⟨rfl, rfl⟩ := a2
  exact consumeCs_keys a1
 all_goals (simp only [consume] at hc; exact consume1_keys hc)
theorem consumeL_keys : ∀ {cs : List AVal} {h h1 : Heap} {ys : List AVal} (_ : consumeL h cs = some (ys, h1)), (h1.map (·.1)).Sublist (h.map (·.1))
 | [], h, h1, ys, hc => by
  simp [consumeL] at hc
  obtain ⟨rfl, rfl⟩ := hc
  exact List.Sublist.refl _
 | c :: r, h, h1, ys, hc => by
  simp only [consumeL, Option.bind_eq_bind, Option.bind_eq_some_iff] at hc
  obtain ⟨⟨c', h2⟩, a1, ⟨r', h3⟩, a2, a3⟩ := hc
  simp at a3
  obtain ⟨rfl, rfl⟩ := a3
  exact (consumeL_keys a2).trans (consume_keys a1)
end consume
theorem appendTo_local {bytes sz : Nat} {s : AVal} {xs : List AVal} (hn : h.get nid = none) (hn2 : h2.get nid = none) (E : Edit wr nid h h h2 h2) (hw : ∀ id ∈ s.ids, id ∈ wr) (hr : appendTo bytes sz s xs nid h = some (r, h')) :
  ∃ h2', appendTo bytes sz s xs nid h2 = some (r, h2') ∧ Edit wr nid h h' h2 h2' := by
 unfold appendTo at hr
 split at hr
 ·split at hr
  ·simp at hr
   obtain ⟨rfl, rfl⟩ := hr
   rename_i hx
   exact ⟨h2, by simp [appendTo, hx], E⟩
  ·split at hr <;> simp at hr
   obtain ⟨rfl, rfl⟩ := hr
   rename_i hx hc
   exact ⟨_, by simp only [appendTo, hx, hc]; simp, E.new hn hn2 _⟩
 ·split at hr
  ·simp at hr
   obtain ⟨rfl, rfl⟩ := hr
   rename_i hx
   exact ⟨h2, by simp [appendTo, hx], E⟩
  ·split at hr <;> simp at hr
   obtain ⟨rfl, rfl⟩ := hr
   rename_i hx hc
   exact ⟨_, by simp only [appendTo, hx, hc]; simp, E.new hn hn2 _⟩
 ·rename_i id z len clip
  have hid := hw id (by simp [AVal.ids])
  split at hr <;> try (simp at hr; done)
  rename_i es s' hg
  have hg2 : h2.get id = some (.row es s') := by rw [E.on id (.inl hid), hg]
  split at hr <;> try (simp at hr; done)
  rename_i hc
  split at hr
  ·rename_i hcl
   split at hr
   ·rename_i hx
    simp at hr
    obtain ⟨rfl, rfl⟩ := hr
    exact ⟨h2, by simp only [appendTo, hg2, hc, hcl, hx]; simp, E⟩
   ·rename_i hx
    simp at hr
    obtain ⟨rfl, rfl⟩ := hr
    exact ⟨_, by simp only [appendTo, hg2, hc, hcl, hx]; simp, E.new hn hn2 _⟩
  ·rename_i hcl
   simp at hr
   obtain ⟨rfl, rfl⟩ := hr
   have Ed := E.del hid
   refine ⟨_, by simp only [appendTo, hg2, hc, hcl]; simp, Ed.new ?_ ?_ _⟩
   ·rw [get_del E.nd]; split
    ·rfl
    ·exact hn
   ·rw [get_del E.nd2]; split
    ·rfl
    ·exact hn2
 ·simp at hr
theorem aop_local (hcl : op.cls ≠ 0) (hnc : op.isCall = false) (he : ∀ x ∈ op.opds, x.ev env2 = x.ev env) (hn : h.get nid = none) (hn2 : h2.get nid = none) (hd : (h.map (·.1)).Nodup) (hd2 : (h2.map (·.1)).Nodup)
  (hg : ∀ id ∈ op.ids env, h2.get id = h.get id) (hr : aop op env nid h = some (r, h')) :
  ∃ h2', aop op env2 nid h2 = some (r, h2') ∧ Edit (op.ids env) nid h h' h2 h2' ∧ (op.cls = 1 → h' = h ∧ h2' = h2) := by
 have E0 : Edit (op.ids env) nid h h h2 h2 := .refl hn hn2 hd hd2 hg
 cases op
 case ld sz agg x =>
  have h1 := he x (by simp [AOp.opds])
  have hg' : ∀ id ∈ (x.ev env).ids, h2.get id = h.get id := fun id hid => hg id (by simpa [AOp.ids, AOp.opds, idsL] using hid)
  simp only [aop, h1] at hr ⊢
  split at hr
  ·rename_i cs tmp hb
   obtain ⟨c, hc, hh⟩ := map_some hr
   simp at hh
   obtain ⟨rfl, rfl⟩ := hh
   exact ⟨h2, by simp [hb, hc], E0, fun _ => ⟨rfl, rfl⟩⟩
  ·rename_i id o hb
   have e1 := hg' id (by simp [hb, AVal.ids])
   split at hr <;> try (simp at hr; done)
   rename_i cs hgt
   obtain ⟨c, hc, hh⟩ := map_some hr
   simp at hh
   obtain ⟨rfl, rfl⟩ := hh
   exact ⟨h2, by simp [hb, e1, hgt, hc], E0, fun _ => ⟨rfl, rfl⟩⟩
  ·rename_i id i o hb
   have e1 := hg' id (by simp [hb, AVal.ids])
   split at hr <;> try (simp at hr; done)
   rename_i es s hgt
   split at hr <;> try (simp at hr; done)
   rename_i e hee
   obtain ⟨c, hc, hh⟩ := map_some hr
   simp at hh
   obtain ⟨rfl, rfl⟩ := hh
   exact ⟨h2, by simp [hb, e1, hgt, hee, hc], E0, fun _ => ⟨rfl, rfl⟩⟩
  ·simp at hr
 case cvbs x =>
  have h1 := he x (by simp [AOp.opds])
  have hg' : ∀ id ∈ (x.ev env).ids, h2.get id = h.get id := fun id hid => hg id (by simpa [AOp.ids, AOp.opds, idsL] using hid)
  simp only [aop, h1, elems_local hg'] at hr ⊢
  split at hr <;> simp at hr
  rename_i l hb
  obtain ⟨rfl, rfl⟩ := hr
  exact ⟨h2, rfl, E0, fun _ => ⟨rfl, rfl⟩⟩
 case look kk zero m k ok =>
  have h1 := he m (by simp [AOp.opds])
  have h3 := he k (by simp [AOp.opds])
  have hg' : ∀ id ∈ (m.ev env).ids, h2.get id = h.get id := fun id hid => hg id (by simp [AOp.ids, AOp.opds, idsL, hid])
  simp only [aop, h1, h3] at hr ⊢
  split at hr <;> try (simp at hr; done)
  rename_i hk
  split at hr <;> try (simp at hr; done)
  rename_i id hb
  have e1 := hg' id (by simp [hb, AVal.ids])
  split at hr <;> try (simp at hr; done)
  rename_i es hgt
  split at hr <;> simp at hr
  all_goals
   rename_i hf
   obtain ⟨rfl, rfl⟩ := hr
   exact ⟨h2, by simp [hk, e1, hgt, hf], E0, fun _ => ⟨rfl, rfl⟩⟩
 case len k x =>
  have h1 := he x (by simp [AOp.opds])
  have hg' : ∀ id ∈ (x.ev env).ids, h2.get id = h.get id := fun id hid => hg id (by simpa [AOp.ids, AOp.opds, idsL] using hid)
  match k with
  | 0 | 1 => simp [AOp.cls] at hcl
  | 2 =>
   simp only [aop, h1] at hr ⊢
   split at hr <;> try (simp at hr; done)
   rename_i id hb
   have e1 := hg' id (by simp [hb, AVal.ids])
   split at hr <;> simp at hr
   rename_i es hgt
   obtain ⟨rfl, rfl⟩ := hr
   exact ⟨h2, by simp [e1, hgt], E0, fun _ => ⟨rfl, rfl⟩⟩
  | k + 3 => simp [aop] at hr
 case alloc zero =>
  simp only [aop, Option.some.injEq, Prod.mk.injEq] at hr ⊢
  obtain ⟨rfl, rfl⟩ := hr
  exact ⟨_, ⟨rfl, rfl⟩, E0.new hn hn2 _, by simp [AOp.cls]⟩
 case mkmap =>
  simp only [aop, Option.some.injEq, Prod.mk.injEq] at hr ⊢
  obtain ⟨rfl, rfl⟩ := hr
  exact ⟨_, ⟨rfl, rfl⟩, E0.new hn hn2 _, by simp [AOp.cls]⟩
 case box x =>
  have h1 := he x (by simp [AOp.opds])
  simp only [aop, h1] at hr ⊢
  split at hr <;> simp at hr
  rename_i hc
  obtain ⟨rfl, rfl⟩ := hr
  exact ⟨_, by simp [hc], E0.new hn hn2 _, by simp [AOp.cls]⟩
 case range x =>
  have h1 := he x (by simp [AOp.opds])
  simp only [aop, h1] at hr ⊢
  split at hr <;> simp at hr
  obtain ⟨rfl, rfl⟩ := hr
  exact ⟨_, rfl, E0.new hn hn2 _, by simp [AOp.cls]⟩
 case next x =>
  have h1 := he x (by simp [AOp.opds])
  have hid' : ∀ id, x.ev env = .ptr id 0 → id ∈ (AOp.next x).ids env := fun id hb => by simp [AOp.ids, AOp.opds, idsL, hb, AVal.ids]
  simp only [aop, h1] at hr ⊢
  split at hr <;> try (simp at hr; done)
  rename_i id hb
  have e1 := hg id (hid' id hb)
  split at hr <;> try (simp at hr; done)
  rename_i l pos hgt
  split at hr
  ·rename_i hlt
   simp at hr
   obtain ⟨rfl, rfl⟩ := hr
   exact ⟨_, by simp only [e1, hgt, hlt, if_true], E0.put (hid' id hb) _, by simp [AOp.cls]⟩
  ·rename_i hlt
   simp at hr
   obtain ⟨rfl, rfl⟩ := hr
   exact ⟨h2, by simp [e1, hgt, hlt], E0, by simp [AOp.cls]⟩
 case cvb x =>
  have h1 := he x (by simp [AOp.opds])
  simp only [aop, h1] at hr ⊢
  split at hr <;> try (simp at hr; done)
  rename_i id z off len clip hb
  have hid : id ∈ (AOp.cvb x).ids env := by simp [AOp.ids, AOp.opds, idsL, hb, AVal.ids]
  have e1 := hg id hid
  split at hr <;> try (simp at hr; done)
  rename_i es s hgt
  split at hr <;> simp at hr
  rename_i hc
  obtain ⟨rfl, rfl⟩ := hr
  exact ⟨_, by simp [e1, hgt, hc], E0.del hid, by simp [AOp.cls]⟩
 case mksl bytes sz zero n c =>
  have h1 := he n (by simp [AOp.opds])
  have h3 := he c (by simp [AOp.opds])
  simp only [aop, h1, h3] at hr ⊢
  split at hr <;> try (simp at hr; done)
  rename_i n' c' hb hb'
  split at hr <;> simp only [Option.some.injEq, Prod.mk.injEq, reduceCtorEq] at hr
  rename_i hc
  obtain ⟨rfl, rfl⟩ := hr
  exact ⟨_, by simp only [if_pos hc], E0.new hn hn2 _, by simp [AOp.cls]⟩
 case app bytes sz s x =>
  have h1 := he s (by simp [AOp.opds])
  have h3 := he x (by simp [AOp.opds])
  have hgx : ∀ id ∈ (x.ev env).ids, h2.get id = h.get id := fun id hid => hg id (by simp [AOp.ids, AOp.opds, idsL, hid])
  simp only [aop, h1, h3, appended_local hgx] at hr ⊢
  split at hr <;> try (simp at hr; done)
  rename_i hc
  split at hr <;> try (simp at hr; done)
  rename_i xs hxs
  obtain ⟨h2', a1, a2⟩ := appendTo_local hn hn2 E0 (fun id hid => by simp [AOp.ids, AOp.opds, idsL, hid]) hr
  exact ⟨h2', by simp only [if_pos hc, a1], a2, by simp [AOp.cls]⟩
 case appz bytes sz zero s x =>
  have h1 := he s (by simp [AOp.opds])
  have h3 := he x (by simp [AOp.opds])
  simp only [aop, h1, h3] at hr ⊢
  split at hr <;> try (simp at hr; done)
  rename_i n hb
  split at hr <;> try (simp at hr; done)
  rename_i hc
  obtain ⟨h2', a1, a2⟩ := appendTo_local hn hn2 E0 (fun id hid => by simp [AOp.ids, AOp.opds, idsL, hid]) hr
  exact ⟨h2', by simp only [if_pos hc, a1], a2, by simp [AOp.cls]⟩
 case copy sz d s =>
  have h1 := he d (by simp [AOp.opds])
  have h3 := he s (by simp [AOp.opds])
  have hgx : ∀ id ∈ (s.ev env).ids, h2.get id = h.get id := fun id hid => hg id (by simp [AOp.ids, AOp.opds, idsL, hid])
  simp only [aop, h1, h3, appended_local hgx] at hr ⊢
  split at hr <;> try (simp at hr; done)
  rename_i hz
  split at hr <;> try (simp at hr; done)
  rename_i xs id z off len clip hxs hb
  have hid : id ∈ (AOp.copy sz d s).ids env := by simp [AOp.ids, AOp.opds, idsL, hb, AVal.ids]
  have e1 := hg id hid
  split at hr <;> try (simp at hr; done)
  rename_i es s' hgt
  split at hr <;> simp only [Option.some.injEq, Prod.mk.injEq, reduceCtorEq] at hr
  rename_i hc
  obtain ⟨rfl, rfl⟩ := hr
  exact ⟨_, by simp only [if_pos hz, e1, hgt, if_pos hc], E0.put hid _, by simp [AOp.cls]⟩
 case mupd kk m k v =>
  have h1 := he m (by simp [AOp.opds])
  have h3 := he k (by simp [AOp.opds])
  have h4 := he v (by simp [AOp.opds])
  simp only [aop, h1, h3, h4] at hr ⊢
  split at hr <;> try (simp at hr; done)
  rename_i id hb
  have hid : id ∈ (AOp.mupd kk m k v).ids env := by simp [AOp.ids, AOp.opds, idsL, hb, AVal.ids]
  have e1 := hg id hid
  split at hr <;> try (simp at hr; done)
  rename_i es hgt
  split at hr <;> try (simp at hr; done)
  rename_i hc
  split at hr <;> simp only [Option.some.injEq, Prod.mk.injEq, reduceCtorEq] at hr
  all_goals
   rename_i hf
   obtain ⟨rfl, rfl⟩ := hr
   exact ⟨_, by simp only [e1, hgt, if_pos hc, hf], E0.put hid _, by simp [AOp.cls]⟩
 case st sz x v =>
  have h1 := he x (by simp [AOp.opds])
  have h3 := he v (by simp [AOp.opds])
  simp only [aop, h1, h3] at hr ⊢
  split at hr <;> try (simp at hr; done)
  rename_i hc
  split at hr
  ·rename_i id o hb
   have hid : id ∈ (AOp.st sz x v).ids env := by simp [AOp.ids, AOp.opds, idsL, hb, AVal.ids]
   have e1 := hg id hid
   split at hr <;> try (simp at hr; done)
   rename_i cs hgt
   split at hr <;> simp only [Option.some.injEq, Prod.mk.injEq, reduceCtorEq] at hr
   rename_i hle
   obtain ⟨rfl, rfl⟩ := hr
   exact ⟨_, by simp only [if_pos hc, e1, hgt, if_pos hle], E0.put hid _, by simp [AOp.cls]⟩
  ·rename_i id i o hb
   have hid : id ∈ (AOp.st sz x v).ids env := by simp [AOp.ids, AOp.opds, idsL, hb, AVal.ids]
   have e1 := hg id hid
   split at hr <;> try (simp at hr; done)
   rename_i es s hgt
   split at hr <;> try (simp at hr; done)
   rename_i e hee
   split at hr <;> simp only [Option.some.injEq, Prod.mk.injEq, reduceCtorEq] at hr
   rename_i hle
   obtain ⟨rfl, rfl⟩ := hr
   exact ⟨_, by simp only [if_pos hc, e1, hgt, hee, if_pos hle], E0.put hid _, by simp [AOp.cls]⟩
  ·simp at hr
 case bslice sz len zero parts =>
  have h1 := map_opd parts (by simpa [AOp.opds] using he)
  simp only [aop, h1] at hr ⊢
  split at hr <;> try (simp at hr; done)
  rename_i vs hh hcon
  by_cases hcf : vs.all AVal.closed = false
  ·rw [if_pos hcf] at hr
   split at hr <;> simp only [Option.some.injEq, Prod.mk.injEq, reduceCtorEq] at hr
   rename_i hc
   obtain ⟨rfl, rfl⟩ := hr
   obtain ⟨g1, b1, b2⟩ := consumeL_local E0 (fun id hid => by simpa [AOp.ids, AOp.opds] using hid) hcon
   exact ⟨_, by simp only [b1, if_pos hcf, if_pos hc], b2, by simp [AOp.cls]⟩
  rw [if_neg hcf] at hr
  split at hr <;> simp only [Option.some.injEq, Prod.mk.injEq, reduceCtorEq] at hr
  rename_i hc
  obtain ⟨rfl, rfl⟩ := hr
  obtain ⟨g1, b1, b2⟩ := consumeL_local E0 (fun id hid => by simpa [AOp.ids, AOp.opds] using hid) hcon
  have hk : hh.get nid = none := get_none.2 fun hm => get_none.1 hn ((consumeL_keys hcon).subset hm)
  have hk2 : g1.get nid = none := get_none.2 fun hm => get_none.1 hn2 ((consumeL_keys b1).subset hm)
  exact ⟨_, by simp only [b1, if_neg hcf, if_pos hc], b2.new hk hk2 _, by simp [AOp.cls]⟩
 all_goals first | (simp [AOp.cls] at hcl; done) | (simp [AOp.isCall] at hnc; done)
end
end Go.Abs
namespace Go.Abs
section
variable {h h2 : Heap} {f : Nat → Option Nat}
theorem reach_sub : ∀ (k : Nat) (l acc : List Nat) {x : Nat}, x ∈ acc → x ∈ reach h k l acc
 | 0, _, acc, x, hx => by simpa [reach] using hx
 | _ + 1, [], acc, x, hx => by simpa [reach] using hx
 | k + 1, id :: r, acc, x, hx => by
  simp only [reach]
  split
  ·exact reach_sub k r acc hx
  ·split
   ·exact reach_sub k r _ (List.mem_append_left _ hx)
   ·exact reach_sub k _ _ (List.mem_append_left _ hx)
theorem reach_local : ∀ (k : Nat) (l acc : List Nat), (∀ id ∈ reach h k l acc, h2.get id = h.get id) → reach h2 k l acc = reach h k l acc
 | 0, _, acc, _ => by simp [reach]
 | _ + 1, [], acc, _ => by simp [reach]
 | k + 1, id :: r, acc, hg => by
  simp only [reach] at hg ⊢
  by_cases hc : acc.contains id = true
  ·simp only [hc, if_true] at hg ⊢
   exact reach_local k r acc hg
  ·have hc' : acc.contains id = false := by simpa using hc
   simp only [hc', Bool.false_eq_true, if_false] at hg ⊢
   cases hgt : h.get id with
   | none =>
    simp only [hgt] at hg
    have : h2.get id = h.get id := hg id (reach_sub k r _ (List.mem_append_right _ (by simp)))
    rw [this, hgt]
    exact reach_local k r _ hg
   | some n =>
    simp only [hgt] at hg
    have : h2.get id = h.get id := hg id (reach_sub k _ _ (List.mem_append_right _ (by simp)))
    rw [this, hgt]
    exact reach_local k _ _ hg
theorem present_local {l : List Nat} (hg : ∀ id ∈ l, h2.get id = h.get id) : present h2 l = present h l := by
 unfold present
 exact List.filter_congr fun id hid => by rw [hg id hid]
theorem pick_local : ∀ {l : List Nat}, (∀ id ∈ l, h2.get id = h.get id) → pickNodes h2 f l = pickNodes h f l
 | [], _ => rfl
 | id :: r, hg => by
  have h1 := hg id (by simp)
  have h2' := pick_local (l := r) fun id hid => hg id (by simp [hid])
  simp only [pickNodes, h1, h2']
mutual
theorem lend_local : ∀ (x : AVal), (∀ id ∈ x.ids, h2.get id = h.get id) → x.lend h2 = x.lend h
 | .agg cs, hg => by simp only [AVal.lend, lendL_local cs (by simpa [AVal.ids] using hg)]
 | .own id z off len clip, hg => by simp only [AVal.lend, hg id (by simp [AVal.ids])]
 | .bool _, _ | .int _ _, _ | .str _, _ | .lit _, _ | .tuple _, _ | .iface _ _, _ | .func _ _, _ | .view _ _ _ _, _ | .rptr _ _, _ | .ptr _ _, _ | .eptr _ _ _, _ | .mapr _, _ | .junk, _ => rfl
theorem lendL_local : ∀ (cs : List AVal), (∀ id ∈ idsL cs, h2.get id = h.get id) → lendL h2 cs = lendL h cs
 | [], _ => rfl
 | c :: r, hg => by
  simp only [lendL, lend_local c fun id hid => hg id (by simp [idsL, hid]), lendL_local r fun id hid => hg id (by simp [idsL, hid])]
end
theorem get_drop : ∀ (l : List Nat) {h : Heap} (_ : (h.map (·.1)).Nodup) (k : Nat), (dropNodes h l).get k = if k ∈ l then none else h.get k
 | [], h, _, k => by simp [dropNodes]
 | id :: r, h, hd, k => by
  simp only [dropNodes]
  rw [get_drop r (hd.sublist Heap.keys_del) k, get_del hd]
  by_cases h1 : k ∈ r
  ·simp [h1]
  ·by_cases h2 : k = id
   ·simp [h2]
   ·simp [h1, h2]
structure EditS (wr : List Nat) (nid : Nat) (h h' h2 h2' : Heap) : Prop where
 on : ∀ id, id ∈ wr ∨ (nid ≤ id ∧ id < nid + stride) → h2'.get id = h'.get id
 off : ∀ id, id ∉ wr → ¬ (nid ≤ id ∧ id < nid + stride) → h'.get id = h.get id
 off2 : ∀ id, id ∉ wr → ¬ (nid ≤ id ∧ id < nid + stride) → h2'.get id = h2.get id
 gone : ∀ id, ¬ (nid ≤ id ∧ id < nid + stride) → h.get id = none → h'.get id = none
 gone2 : ∀ id, ¬ (nid ≤ id ∧ id < nid + stride) → h2.get id = none → h2'.get id = none
 nd : (h'.map (·.1)).Nodup
 nd2 : (h2'.map (·.1)).Nodup
theorem Edit.wide {wr : List Nat} {nid : Nat} {h' h2' : Heap} (E : Edit wr nid h h' h2 h2') (hn : ∀ id, nid ≤ id → id < nid + stride → h.get id = none) (hn2 : ∀ id, nid ≤ id → id < nid + stride → h2.get id = none) : EditS wr nid h h' h2 h2' := by
 have key : ∀ id, ¬ (nid ≤ id ∧ id < nid + stride) → id ≠ nid := by
  rintro id hc rfl
  exact hc ⟨Nat.le_refl _, by simp [stride]⟩
 refine ⟨fun id hid => ?_, fun id h1 h2 => E.off id h1 (key id h2), fun id h1 h2 => E.off2 id h1 (key id h2), fun id h1 h2 => E.gone id (key id h1) h2, fun id h1 h2 => E.gone2 id (key id h1) h2, E.nd, E.nd2⟩
 rcases hid with hid | hid
 ·exact E.on id (.inl hid)
 ·by_cases he : id = nid
  ·exact E.on id (.inr he)
  ·rw [E.gone id he (hn id hid.1 hid.2), E.gone2 id he (hn2 id hid.1 hid.2)]
theorem callEdit {mv : List Nat} {nid : Nat} {sub : Heap} {wr : List Nat} (hd : (h.map (·.1)).Nodup) (hd2 : (h2.map (·.1)).Nodup) (hn : ∀ id, nid ≤ id → id < nid + stride → h.get id = none) (hn2 : ∀ id, nid ≤ id → id < nid + stride → h2.get id = none)
  (hm : mv.Nodup) (hp : ∀ id ∈ mv, (h.get id).isSome = true) (hw : ∀ id ∈ mv, id ∈ wr) (hg : ∀ id ∈ wr, h2.get id = h.get id) (hs : (sub.map (·.1)).Nodup) (hsub : ∀ e ∈ sub, e.1 < mv.length + stride) (g : Node → Node) :
  EditS wr nid h (dropNodes h mv ++ sub.map fun e => ((backOf mv nid e.1).getD 0, g e.2)) h2 (dropNodes h2 mv ++ sub.map fun e => ((backOf mv nid e.1).getD 0, g e.2)) := by
 have hp2 : ∀ id ∈ mv, (h2.get id).isSome = true := fun id hid => by rw [hg id (hw id hid)]; exact hp id hid
 have mvout : ∀ id ∈ mv, ¬ (nid ≤ id ∧ id < nid + stride) := by
  rintro id hid ⟨h1, h3⟩
  have := hp id hid
  rw [hn id h1 h3] at this
  simp at this
 have back : ∀ i, i < mv.length + stride → ∃ k, backOf mv nid i = some k ∧ ((i < mv.length ∧ k ∈ mv) ∨ (mv.length ≤ i ∧ k = nid + (i - mv.length))) := by
  intro i hlt
  unfold backOf
  by_cases h1 : i < mv.length
  ·exact ⟨mv[i], by simp [h1], .inl ⟨h1, by simp⟩⟩
  ·exact ⟨nid + (i - mv.length), by simp [h1, hlt], .inr ⟨by omega, rfl⟩⟩
 have keys : ∀ k ∈ (sub.map fun e => ((backOf mv nid e.1).getD 0, g e.2)).map (·.1), k ∈ mv ∨ (nid ≤ k ∧ k < nid + stride) := by
  intro k hk
  obtain ⟨x, hx, rfl⟩ := List.mem_map.1 hk
  obtain ⟨e, he, rfl⟩ := List.mem_map.1 hx
  obtain ⟨k, h1, h3⟩ := back e.1 (hsub e he)
  simp only [h1, Option.getD_some]
  have := hsub e he
  rcases h3 with ⟨_, h3⟩ | ⟨h3, h4⟩
  ·exact .inl h3
  ·exact .inr ⟨by omega, by omega⟩
 have nosub : ∀ k, k ∉ mv → ¬ (nid ≤ k ∧ k < nid + stride) → Heap.get (sub.map fun e => ((backOf mv nid e.1).getD 0, g e.2)) k = none := by
  intro k h1 h3
  refine get_none.2 fun hk => ?_
  rcases keys k hk with h | h
  ·exact h1 h
  ·exact h3 h
 have subnd : ((sub.map fun e => ((backOf mv nid e.1).getD 0, g e.2)).map (·.1)).Nodup := by
  have hcomp : (sub.map fun e => ((backOf mv nid e.1).getD 0, g e.2)).map (·.1) = (sub.map (·.1)).map fun i => (backOf mv nid i).getD 0 := by simp
  rw [hcomp]
  refine nodup_map_on (fun a ha b hb hab => ?_) hs
  obtain ⟨ea, hea, rfl⟩ := List.mem_map.1 ha
  obtain ⟨eb, heb, rfl⟩ := List.mem_map.1 hb
  obtain ⟨ka, h1, h2⟩ := back ea.1 (hsub _ hea)
  obtain ⟨kb, h3, h4⟩ := back eb.1 (hsub _ heb)
  have la := hsub _ hea
  have lb := hsub _ heb
  simp only [h1, h3, Option.getD_some] at hab
  subst hab
  rcases h2 with ⟨a1, a2⟩ | ⟨a1, a2⟩
  ·rcases h4 with ⟨b1, b2⟩ | ⟨b1, b2⟩
   ·unfold backOf at h1 h3
    rw [if_pos a1] at h1
    rw [if_pos b1] at h3
    exact (List.getElem?_inj a1 hm).1 (h1.trans h3.symm)
   ·have := mvout _ a2; omega
  ·rcases h4 with ⟨b1, b2⟩ | ⟨b1, b2⟩
   ·have := mvout _ b2; omega
   ·omega
 have nd : ∀ {k : Heap}, (k.map (·.1)).Nodup → (∀ id, nid ≤ id → id < nid + stride → k.get id = none) → ((dropNodes k mv ++ sub.map fun e => ((backOf mv nid e.1).getD 0, g e.2)).map (·.1)).Nodup := by
  intro k hk hkn
  rw [List.map_append, List.nodup_append]
  refine ⟨hk.sublist (drop_keys _ _), subnd, fun a ha b hb hab => ?_⟩
  subst hab
  have hsome : (dropNodes k mv).get a ≠ none := fun hc => get_none.1 hc ha
  rw [get_drop mv hk] at hsome
  rcases keys a hb with h | h
  ·simp [h] at hsome
  ·rw [hkn a h.1 h.2] at hsome
   simp at hsome
 refine ⟨fun id hid => ?_, fun id h1 h3 => ?_, fun id h1 h3 => ?_, fun id h1 h3 => ?_, fun id h1 h3 => ?_, nd hd hn, nd hd2 hn2⟩
 ·rw [get_app, get_app, get_drop mv hd, get_drop mv hd2]
  rcases hid with hid | hid
  ·rw [hg id hid]
  ·rw [hn id hid.1 hid.2, hn2 id hid.1 hid.2]
 ·have hmv : id ∉ mv := fun hc => h1 (hw id hc)
  rw [get_app, get_drop mv hd, nosub id hmv h3]
  simp [hmv]
 ·have hmv : id ∉ mv := fun hc => h1 (hw id hc)
  rw [get_app, get_drop mv hd2, nosub id hmv h3]
  simp [hmv]
 ·have hmv : id ∉ mv := fun hc => by have := hp id hc; rw [h3] at this; simp at this
  rw [get_app, get_drop mv hd, nosub id hmv h1]
  simp [hmv, h3]
 ·have hmv : id ∉ mv := fun hc => by have := hp2 id hc; rw [h3] at this; simp at this
  rw [get_app, get_drop mv hd2, nosub id hmv h1]
  simp [hmv, h3]
theorem callStep0_local {C : Calls} {fv : AVal} {args : List AVal} {nid : Nat} {r : AVal} {h' : Heap} (hW : ∀ g args h r sub, C.run g args h = some (r, sub) → (sub.map (·.1)).Nodup)
  (hd : (h.map (·.1)).Nodup) (hd2 : (h2.map (·.1)).Nodup) (hn : ∀ id, nid ≤ id → id < nid + stride → h.get id = none) (hn2 : ∀ id, nid ≤ id → id < nid + stride → h2.get id = none)
  (hg : ∀ id ∈ callFp C fv args h, h2.get id = h.get id) (hs : callStep0 C fv args nid h = some (r, h')) :
  callFp C fv args h2 = callFp C fv args h ∧ ∃ h2', callStep0 C fv args nid h2 = some (r, h2') ∧ EditS (callFp C fv args h) nid h h' h2 h2' := by
 unfold callStep0 at hs
 split at hs <;> try (simp at hs; done)
 rename_i g caps
 simp only at hs
 have hfp : ∀ {k : Heap}, callFp C (.func (.func g) caps) args k = (match (if (!C.moves g && !(ownIdsL (args ++ caps)).isEmpty) = true then lendL k (args ++ caps) else some (args ++ caps)) with
  | some a => idsL (args ++ caps) ++ reach k reachFuel (idsL a) []
  | none => idsL (args ++ caps)) := rfl
 have hids : ∀ id ∈ idsL (args ++ caps), h2.get id = h.get id := by
  intro id hid
  refine hg id ?_
  rw [hfp]
  split
  ·exact List.mem_append_left _ hid
  ·exact hid
 have hlend : (if (!C.moves g && !(ownIdsL (args ++ caps)).isEmpty) = true then lendL h2 (args ++ caps) else some (args ++ caps)) = (if (!C.moves g && !(ownIdsL (args ++ caps)).isEmpty) = true then lendL h (args ++ caps) else some (args ++ caps)) := by
  rw [lendL_local _ hids]
 split at hs <;> try (simp at hs; done)
 rename_i a ha
 have hfp1 : callFp C (.func (.func g) caps) args h = idsL (args ++ caps) ++ reach h reachFuel (idsL a) [] := by rw [hfp, ha]
 have hre : ∀ id ∈ reach h reachFuel (idsL a) [], h2.get id = h.get id := fun id hid => hg id (by rw [hfp1]; exact List.mem_append_right _ hid)
 have hreach := reach_local reachFuel (idsL a) [] hre
 have hfp2 : callFp C (.func (.func g) caps) args h2 = idsL (args ++ caps) ++ reach h reachFuel (idsL a) [] := by rw [hfp, hlend, ha]; simp only [hreach]
 refine ⟨by rw [hfp1, hfp2], ?_⟩
 have hpres := present_local hre
 have hmsub : ∀ id ∈ present h (reach h reachFuel (idsL a) []), id ∈ reach h reachFuel (idsL a) [] := fun id hid => (List.mem_filter.1 hid).1
 have hpick : ∀ f, pickNodes h2 f (present h (reach h reachFuel (idsL a) [])) = pickNodes h f (present h (reach h reachFuel (idsL a) [])) := fun f => pick_local fun id hid => hre id (hmsub id hid)
 have hmd : (present h (reach h reachFuel (idsL a) [])).Nodup := present_nodup (reach_nodup _ _ _ List.nodup_nil)
 have hmp : ∀ id ∈ present h (reach h reachFuel (idsL a) []), (h.get id).isSome = true := fun id hid => present_some hid
 unfold callStep0
 simp only [hlend, ha, hreach, hpres, hpick]
 rw [hfp1]
 generalize present h (reach h reachFuel (idsL a) []) = mv at *
 split at hs <;> try (simp at hs; done)
 rename_i hnot
 rw [if_neg hnot]
 split at hs <;> try (simp at hs; done)
 rename_i r0 sub hrun
 split at hs <;> try (simp at hs; done)
 rename_i hno
 rw [if_neg hno]
 split at hs <;> simp only [Option.some.injEq, Prod.mk.injEq, reduceCtorEq] at hs
 rename_i hall
 rw [if_pos hall]
 obtain ⟨rfl, rfl⟩ := hs
 refine ⟨_, rfl, ?_⟩
 exact callEdit hd hd2 hn hn2 hmd hmp (fun id hid => List.mem_append_right _ (hmsub id hid)) (fun id hid => hg id (by rw [hfp1]; exact hid)) (hW _ _ _ _ _ hrun) (fun e he => by have := List.all_eq_true.1 hall e he; simpa using this) (·.ren (backOf mv nid))
theorem same_eq : ∀ {a b : AVal}, a.same b = true → a = b := by
 intro a b h
 unfold AVal.same at h
 split at h
 ·simp only [Bool.and_eq_true, decide_eq_true_eq] at h
  rw [h.1, h.2]
 ·rw [beq_iff_eq.1 h]
 ·rw [of_decide_eq_true h]
 ·cases h
theorem sameL_eq : ∀ {a b : List AVal}, sameL a b = true → a = b
 | [], [], _ => rfl
 | x :: r, y :: s, h => by
  simp only [sameL, Bool.and_eq_true] at h
  rw [same_eq h.1, sameL_eq h.2]
 | [], _ :: _, h => by cases h
 | _ :: _, [], h => by cases h
theorem same1_eq {a b : Option Node} (h : same1 a b = true) : a = b := by
 unfold same1 at h
 split at h
 ·rfl
 ·rename_i x y
  unfold Node.same at h
  split at h
  ·rw [sameL_eq h]
  ·cases h
 ·cases h
theorem roOk_eq : ∀ {l : List Nat} {h h' : Heap}, roOk l h h' = true → ∀ id ∈ l, h'.get id = h.get id
 | [], _, _, _, id, hid => by cases hid
 | x :: r, h, h', hr, id, hid => by
  simp only [roOk, Bool.and_eq_true] at hr
  rcases List.mem_cons.1 hid with rfl | hid
  ·exact (same1_eq hr.1).symm
  ·exact roOk_eq hr.2 id hid
theorem roOk_congr : ∀ {l : List Nat} {h h' h2 h2' : Heap}, (∀ id ∈ l, h2.get id = h.get id) → (∀ id ∈ l, h2'.get id = h'.get id) → roOk l h2 h2' = roOk l h h'
 | [], _, _, _, _, _, _ => rfl
 | x :: r, h, h', h2, h2', e1, e2 => by
  simp only [roOk]
  rw [e1 x (by simp), e2 x (by simp), roOk_congr (fun id hid => e1 id (by simp [hid])) (fun id hid => e2 id (by simp [hid]))]
theorem callStep_local {C : Calls} {fv : AVal} {args : List AVal} {nid : Nat} {r : AVal} {h' : Heap} (hW : ∀ g args h r sub, C.run g args h = some (r, sub) → (sub.map (·.1)).Nodup)
  (hd : (h.map (·.1)).Nodup) (hd2 : (h2.map (·.1)).Nodup) (hn : ∀ id, nid ≤ id → id < nid + stride → h.get id = none) (hn2 : ∀ id, nid ≤ id → id < nid + stride → h2.get id = none)
  (hg : ∀ id ∈ callFp C fv args h, h2.get id = h.get id) (hs : callStep C fv args nid h = some (r, h')) :
  callFp C fv args h2 = callFp C fv args h ∧ ∃ h2', callStep C fv args nid h2 = some (r, h2') ∧ EditS (if roCall fv = true then [] else callFp C fv args h) nid h h' h2 h2' := by
 obtain ⟨a1, a2⟩ : callStep0 C fv args nid h = some (r, h') ∧ ¬ (roCall fv && !roOk (callFp C fv args h) h h') = true := by
  unfold callStep at hs
  split at hs
  ·rename_i x hx
   split at hs
   ·cases hs
   ·rename_i hn
    cases hs
    exact ⟨hx, hn⟩
  ·cases hs
 obtain ⟨b1, h2', b2, b3⟩ := callStep0_local hW hd hd2 hn hn2 hg a1
 have hro : roOk (callFp C fv args h) h2 h2' = roOk (callFp C fv args h) h h' := roOk_congr hg fun id hid => b3.on id (.inl hid)
 refine ⟨b1, h2', ?_, ?_⟩
 ·unfold callStep
  rw [b2, b1]
  simp only [hro]
  exact if_neg a2
 ·by_cases hc : roCall fv = true
  ·rw [if_pos hc]
   have hok : roOk (callFp C fv args h) h h' = true := by
    rw [hc] at a2
    simpa using a2
   have hst := roOk_eq hok
   refine ⟨fun id hid => ?_, fun id _ hid => ?_, fun id _ hid => ?_, b3.gone, b3.gone2, b3.nd, b3.nd2⟩
   ·rcases hid with hid | hid
    ·cases hid
    ·exact b3.on id (.inr hid)
   ·by_cases hl : id ∈ callFp C fv args h
    ·exact hst id hl
    ·exact b3.off id hl hid
   ·by_cases hl : id ∈ callFp C fv args h
    ·rw [b3.on id (.inl hl), hst id hl, hg id hl]
    ·exact b3.off2 id hl hid
  ·rw [if_neg hc]
   exact b3
end
end Go.Abs
namespace Go.Abs
section
variable {C : Calls} {o : AOper} {nid : Nat} {st st' st2 : ASt}
theorem EditS.same {wr : List Nat} {h h2 : Heap} (hd : (h.map (·.1)).Nodup) (hd2 : (h2.map (·.1)).Nodup) (hn : ∀ id, nid ≤ id → id < nid + stride → h.get id = none) (hn2 : ∀ id, nid ≤ id → id < nid + stride → h2.get id = none) (hg : ∀ id ∈ wr, h2.get id = h.get id) : EditS wr nid h h h2 h2 :=
 ⟨fun id hid => hid.elim (hg id) fun hid => by rw [hn id hid.1 hid.2, hn2 id hid.1 hid.2], fun _ _ _ => rfl, fun _ _ _ => rfl, fun _ _ h => h, fun _ _ h => h, hd, hd2⟩
theorem step_local (hW : ∀ g args h r sub, C.run g args h = some (r, sub) → (sub.map (·.1)).Nodup)
  (hd : (st.heap.map (·.1)).Nodup) (hd2 : (st2.heap.map (·.1)).Nodup) (hn : ∀ id, nid ≤ id → id < nid + stride → st.heap.get id = none) (hn2 : ∀ id, nid ≤ id → id < nid + stride → st2.heap.get id = none)
  (he : ∀ x ∈ o.op.opds, x.ev st2.env = x.ev st.env) (hgd : ∀ g want, o.guard = some (g, want) → st2.env.getD g .junk = st.env.getD g .junk)
  (hg : ∀ id ∈ (footOf C o st).rd, st2.heap.get id = st.heap.get id) (hs : stepOp C o nid st = some st') :
  footOf C o st2 = footOf C o st ∧ (∀ id ∈ (footOf C o st).wr, id ∈ (footOf C o st).rd) ∧ ∃ v h' h2', st' = { st with env := setAt o.dst v st.env, heap := h' } ∧ stepOp C o nid st2 = some { st2 with env := setAt o.dst v st2.env, heap := h2' } ∧ EditS (footOf C o st).wr nid st.heap h' st2.heap h2' := by
 have go : (∀ id ∈ (goFoot C o st).rd, st2.heap.get id = st.heap.get id) → (match o.op with
    | .call f args => (callStep C (f.ev st.env) (args.map (·.ev st.env)) nid st.heap).map fun (v, h) => { st with env := setAt o.dst v st.env, heap := h }
    | op => (aop op st.env nid st.heap).map fun (v, h) => { st with env := setAt o.dst v st.env, heap := h }) = some st' →
   goFoot C o st2 = goFoot C o st ∧ (∀ id ∈ (goFoot C o st).wr, id ∈ (goFoot C o st).rd) ∧ ∃ v h' h2', st' = { st with env := setAt o.dst v st.env, heap := h' } ∧ (match o.op with
    | .call f args => (callStep C (f.ev st2.env) (args.map (·.ev st2.env)) nid st2.heap).map fun (v, h) => { st2 with env := setAt o.dst v st2.env, heap := h }
    | op => (aop op st2.env nid st2.heap).map fun (v, h) => { st2 with env := setAt o.dst v st2.env, heap := h }) = some { st2 with env := setAt o.dst v st2.env, heap := h2' } ∧ EditS (goFoot C o st).wr nid st.heap h' st2.heap h2' := by
  intro hg hs
  cases hcall : o.op.isCall with
  | true =>
   obtain ⟨f, args, hop⟩ : ∃ f args, o.op = .call f args := by
    cases hop : o.op <;> simp [hop, AOp.isCall] at hcall
    exact ⟨_, _, rfl⟩
   have hgf : ∀ s : ASt, goFoot C o s = ⟨callFp C (f.ev s.env) (args.map (·.ev s.env)) s.heap, if roCall (f.ev s.env) = true then [] else callFp C (f.ev s.env) (args.map (·.ev s.env)) s.heap⟩ := by
    intro s
    unfold goFoot
    rw [hop]
   rw [hgf] at hg
   rw [hgf, hgf]
   rw [hop] at hs he ⊢
   simp only at hs hg ⊢
   have e1 := he f (by simp [AOp.opds])
   have e2 := map_opd args fun x hx => he x (by simp [AOp.opds, hx])
   obtain ⟨⟨v, h'⟩, a1, a2⟩ := map_some hs
   obtain ⟨b1, h2', b2, b3⟩ := callStep_local hW hd hd2 hn hn2 hg a1
   rw [e1, e2, b1]
   refine ⟨rfl, fun id hid => ?_, v, h', h2', a2.symm, by rw [b2]; rfl, b3⟩
   split at hid
   ·cases hid
   ·exact hid
  | false =>
   have hgf : ∀ s : ASt, goFoot C o s = if o.op.cls = 0 then ⟨[], []⟩ else if o.op.cls = 1 then ⟨o.op.ids s.env, []⟩ else ⟨o.op.ids s.env, o.op.ids s.env⟩ := by
    intro s
    unfold goFoot
    cases hop : o.op <;> first | rfl | simp [hop, AOp.isCall] at hcall
   have hs' : (aop o.op st.env nid st.heap).map (fun (v, h) => ({ st with env := setAt o.dst v st.env, heap := h } : ASt)) = some st' := by
    cases hop : o.op <;> simp only [hop] at hs hcall ⊢ <;> first | exact hs | simp [AOp.isCall] at hcall
   have goal2 : ∀ v h2', aop o.op st2.env nid st2.heap = some (v, h2') → (match o.op with
    | .call f args => (callStep C (f.ev st2.env) (args.map (·.ev st2.env)) nid st2.heap).map fun (v, h) => ({ st2 with env := setAt o.dst v st2.env, heap := h } : ASt)
    | op => (aop op st2.env nid st2.heap).map fun (v, h) => { st2 with env := setAt o.dst v st2.env, heap := h }) = some { st2 with env := setAt o.dst v st2.env, heap := h2' } := by
    intro v h2' hh
    cases hop : o.op <;> simp only [hop] at hh hcall ⊢ <;> first | (simp only [hh]; rfl) | simp [AOp.isCall] at hcall
   obtain ⟨⟨v, h'⟩, a1, a2⟩ := map_some hs'
   have hids : o.op.ids st2.env = o.op.ids st.env := by simp only [AOp.ids, map_opd o.op.opds he]
   rw [hgf] at hg
   rw [hgf, hgf, hids]
   refine ⟨rfl, ?_, ?_⟩
   ·split
    ·intro id hid; exact hid
    ·split
     ·intro id hid; simp at hid
     ·intro id hid; exact hid
   ·by_cases h0 : o.op.cls = 0
    ·obtain ⟨rfl, b2⟩ := aop_pure (nid2 := nid) (h2 := st2.heap) h0 he a1
     simp only [h0, if_true]
     exact ⟨v, _, _, a2.symm, goal2 _ _ b2, .same hd hd2 hn hn2 (by simp)⟩
    ·have hg' : ∀ id ∈ o.op.ids st.env, st2.heap.get id = st.heap.get id := by
      intro id hid
      refine hg id ?_
      simp only [h0, if_false]
      split <;> exact hid
     obtain ⟨h2', b1, b2, b3⟩ := aop_local h0 hcall he (hn nid (Nat.le_refl _) (by simp [stride])) (hn2 nid (Nat.le_refl _) (by simp [stride])) hd hd2 hg' a1
     refine ⟨v, h', h2', a2.symm, goal2 _ _ b1, ?_⟩
     simp only [h0, if_false]
     split
     ·rename_i h1
      obtain ⟨rfl, rfl⟩ := b3 h1
      exact .same hd hd2 hn hn2 (by simp)
     ·exact b2.wide hn hn2
 have skip : st' = { st with env := setAt o.dst .undef st.env } → ∃ v h' h2', st' = { st with env := setAt o.dst v st.env, heap := h' } ∧ some ({ st2 with env := setAt o.dst .undef st2.env } : ASt) = some { st2 with env := setAt o.dst v st2.env, heap := h2' } ∧ EditS [] nid st.heap h' st2.heap h2' :=
  fun h => ⟨.undef, st.heap, st2.heap, h, rfl, .same hd hd2 hn hn2 (by simp)⟩
 unfold stepOp at hs
 unfold footOf at hg ⊢
 unfold stepOp
 simp only at hs ⊢
 cases hgu : o.guard with
 | none =>
  simp only [hgu] at hs hg ⊢
  exact go hg hs
 | some gw =>
  obtain ⟨g, want⟩ := gw
  simp only [hgu, hgd g want hgu] at hs hg ⊢
  split at hs
  ·rename_i b hb
   simp only [hb] at hg ⊢
   split at hs
   ·rename_i hbw
    simp only [hbw, if_true] at hg ⊢
    exact go hg hs
   ·rename_i hbw
    simp only [hbw, if_false] at hg ⊢
    simp at hs
    exact ⟨trivial, by simp, skip hs.symm⟩
  ·rename_i arr hb
   simp only [hb] at hg ⊢
   simp at hs
   exact ⟨trivial, by simp, skip hs.symm⟩
  ·simp at hs
end
end Go.Abs
namespace Go.Abs
def Apart (x y : AOper) : Prop := (∀ d, x.dst = some d → d ∉ y.uses ∧ y.dst ≠ some d) ∧ (∀ d, y.dst = some d → d ∉ x.uses)
structure Same (st st2 : ASt) : Prop where
 env : st2.env = st.env
 get : ∀ id, st2.heap.get id = st.heap.get id
def own (base i id : Nat) : Prop := base + i * stride ≤ id ∧ id < base + i * stride + stride
structure Indep (base : Nat) (F : Nat → Foot) (x y : Nat) : Prop where
 xy : ∀ id ∈ (F x).wr, id ∉ (F y).rd
 yx : ∀ id ∈ (F y).wr, id ∉ (F x).rd
 nx : ∀ id ∈ (F y).rd, ¬ own base x id
 ny : ∀ id ∈ (F x).rd, ¬ own base y id
def Fit (base : Nat) (l : List Nat) (st : ASt) : Prop := (st.heap.map (·.1)).Nodup ∧ ∀ i ∈ l, ∀ id, own base i id → st.heap.get id = none
theorem own_apart {base x y id : Nat} (hxy : x ≠ y) (h : own base x id) : ¬ own base y id := by
 unfold own stride at *
 omega
theorem ev_set {x : AOpd} {d : Option Nat} {v : AVal} {env : List AVal} (h : ∀ n, d = some n → n ∉ opdUse x) : x.ev (setAt d v env) = x.ev env := by
 cases d with
 | none => rfl
 | some d =>
  cases x with
  | c v => rfl
  | t n =>
   have : d ≠ n := by simpa [opdUse] using h d rfl
   simp [AOpd.ev, setAt, List.getElem?_set_ne this]
theorem getD_set {g : Nat} {d : Option Nat} {v : AVal} {env : List AVal} (h : ∀ n, d = some n → n ≠ g) : (setAt d v env).getD g .junk = env.getD g .junk := by
 cases d with
 | none => rfl
 | some d => simp [setAt, List.getElem?_set_ne (h d rfl)]
section
variable {C : Calls} {base : Nat} {F : Nat → Foot} {x y : Nat} {ox oy : AOper} {st st1 st2 : ASt}
theorem uses_opd {o : AOper} {d : Nat} (h : d ∉ o.uses) : (∀ x ∈ o.op.opds, d ∉ opdUse x) ∧ ∀ g w, o.guard = some (g, w) → d ≠ g := by
 simp only [AOper.uses, List.mem_append, List.mem_flatMap, not_or, not_exists, not_and] at h
 refine ⟨fun x hx => h.1 x hx, fun g w hg => ?_⟩
 have := h.2
 rw [hg] at this
 simpa using this
theorem swap (hW : ∀ g args h r sub, C.run g args h = some (r, sub) → (sub.map (·.1)).Nodup) (hap : Apart ox oy) (hxy : x ≠ y) (hi : Indep base F x y) (hf : Fit base [x, y] st)
  (h1 : stepOp C ox (base + x * stride) st = some st1) (f1 : footOf C ox st = F x) (h2 : stepOp C oy (base + y * stride) st1 = some st2) (f2 : footOf C oy st1 = F y) :
  ∃ s1 s2, stepOp C oy (base + y * stride) st = some s1 ∧ footOf C oy st = F y ∧ stepOp C ox (base + x * stride) s1 = some s2 ∧ footOf C ox s1 = F x ∧ Same st2 s2 := by
 obtain ⟨hd, hfr⟩ := hf
 have hnx : ∀ id, base + x * stride ≤ id → id < base + x * stride + stride → st.heap.get id = none := fun id a b => hfr x (by simp) id ⟨a, b⟩
 have hny : ∀ id, base + y * stride ≤ id → id < base + y * stride + stride → st.heap.get id = none := fun id a b => hfr y (by simp) id ⟨a, b⟩
 obtain ⟨_, sub1, v1, g1, _, e1, _, E1⟩ := step_local (st2 := st) hW hd hd hnx hnx (fun _ _ => rfl) (fun _ _ _ => rfl) (fun _ _ => rfl) h1
 rw [f1] at sub1 E1
 subst e1
 have hny1 : ∀ id, base + y * stride ≤ id → id < base + y * stride + stride → g1.get id = none := fun id a b => E1.gone id (fun hc => own_apart (Ne.symm hxy) (⟨a, b⟩ : own base y id) hc) (hny id a b)
 -- y from the beginning
 obtain ⟨a1, sub2, v2, g2, gy, e2, s1e, E2⟩ := step_local (st2 := st) hW E1.nd hd hny1 hny
  (fun o ho => (ev_set fun n hn => (uses_opd (hap.1 n hn).1).1 o ho).symm) (fun g want hg => (getD_set fun n hn => (uses_opd (hap.1 n hn).1).2 g want hg).symm)
  (fun id hid => by
   rw [f2] at hid
   exact (E1.off id (fun hc => hi.xy id hc hid) (hi.nx id hid)).symm) h2
 rw [f2] at a1 sub2 E2
 subst e2
 -- x behind it
 have hnx1 : ∀ id, base + x * stride ≤ id → id < base + x * stride + stride → gy.get id = none := fun id a b => E2.gone2 id (fun hc => own_apart hxy (⟨a, b⟩ : own base x id) hc) (hnx id a b)
 obtain ⟨b1, _, v3, g3, gx, e3, s2e, E3⟩ := step_local (o := ox) (st := st) (st2 := { st with env := setAt oy.dst v2 st.env, heap := gy }) hW hd E2.nd2 hnx hnx1
  (fun o ho => ev_set fun n hn => (uses_opd (hap.2 n hn)).1 o ho) (fun g want hg => getD_set fun n hn => (uses_opd (hap.2 n hn)).2 g want hg)
  (fun id hid => by
   rw [f1] at hid
   exact E2.off2 id (fun hc => hi.yx id hc hid) (hi.ny id hid)) h1
 rw [f1] at b1 E3
 simp only [ASt.mk.injEq] at e3
 obtain ⟨e3, rfl, _⟩ := e3
 refine ⟨_, _, s1e, a1, s2e, b1, ⟨?_, fun id => ?_⟩⟩
 ·show setAt ox.dst v3 (setAt oy.dst v2 st.env) = setAt oy.dst v2 (setAt ox.dst v1 st.env)
  rw [e3]
  cases hdx : ox.dst with
  | none => rfl
  | some dx =>
   cases hdy : oy.dst with
   | none => rfl
   | some dy =>
    have : dy ≠ dx := fun hc => (hap.1 dx hdx).2 (by rw [hdy, hc])
    simp only [setAt]
    exact List.set_comm _ _ this
 ·show gx.get id = g2.get id
  by_cases hx : id ∈ (F x).wr ∨ own base x id
  ·rw [E3.on id hx]
   symm
   refine E2.off id (fun hc => ?_) (fun hc => ?_)
   ·rcases hx with hx | hx
    ·exact hi.yx id hc (sub1 id hx)
    ·exact hi.nx id (sub2 id hc) hx
   ·rcases hx with hx | hx
    ·exact hi.ny id (sub1 id hx) hc
    ·exact own_apart hxy hx hc
  ·have hx1 : id ∉ (F x).wr := fun h => hx (.inl h)
   have hx2 : ¬ own base x id := fun h => hx (.inr h)
   rw [E3.off2 id hx1 hx2]
   by_cases hy : id ∈ (F y).wr ∨ own base y id
   ·exact E2.on id hy
   ·have hy1 : id ∉ (F y).wr := fun h => hy (.inl h)
    have hy2 : ¬ own base y id := fun h => hy (.inr h)
    show gy.get id = g2.get id
    rw [E2.off2 id hy1 hy2, E2.off id hy1 hy2]
    exact (E1.off id hx1 hx2).symm
end
end Go.Abs
namespace Go.Abs
theorem Same.refl (st : ASt) : Same st st := ⟨rfl, fun _ => rfl⟩
theorem Same.trans {a b c : ASt} (h : Same a b) (g : Same b c) : Same a c := ⟨g.env.trans h.env, fun id => (g.get id).trans (h.get id)⟩
def Runs (C : Calls) (aops : List AOper) (base : Nat) (F : Nat → Foot) : List Nat → ASt → ASt → Prop
 | [], st, st' => st' = st
 | i :: l, st, st' => ∃ o st1, aops[i]? = some o ∧ footOf C o st = F i ∧ stepOp C o (base + i * stride) st = some st1 ∧ Runs C aops base F l st1 st'
section
variable {C : Calls} {aops : List AOper} {base : Nat} {F : Nat → Foot} {o : AOper}
theorem fit_step (hW : ∀ g args h r sub, C.run g args h = some (r, sub) → (sub.map (·.1)).Nodup) {i : Nat} {l : List Nat} {st st1 : ASt} (hf : Fit base (i :: l) st) (hi : i ∉ l) (hs : stepOp C o (base + i * stride) st = some st1) : Fit base l st1 := by
 obtain ⟨hd, hfr⟩ := hf
 have hn : ∀ id, base + i * stride ≤ id → id < base + i * stride + stride → st.heap.get id = none := fun id a b => hfr i (by simp) id ⟨a, b⟩
 obtain ⟨_, _, v, g, _, e, _, E⟩ := step_local (st2 := st) hW hd hd hn hn (fun _ _ => rfl) (fun _ _ _ => rfl) (fun _ _ => rfl) hs
 subst e
 refine ⟨E.nd, fun j hj id hid => E.gone id (fun hc => ?_) (hfr j (by simp [hj]) id hid)⟩
 exact own_apart (x := i) (y := j) (by rintro rfl; exact hi hj) hc hid
theorem Fit.sub {l l' : List Nat} {st : ASt} (h : Fit base l st) (hs : ∀ i ∈ l', i ∈ l) : Fit base l' st := ⟨h.1, fun i hi => h.2 i (hs i hi)⟩
theorem runs_same (hW : ∀ g args h r sub, C.run g args h = some (r, sub) → (sub.map (·.1)).Nodup) : ∀ {l : List Nat} {st st' s : ASt}, Runs C aops base F l st st' → Same st s → Fit base l st → Fit base l s → l.Nodup → ∃ s', Runs C aops base F l s s' ∧ Same st' s'
 | [], st, st', s, hr, hsm, _, _, _ => by
  simp only [Runs] at hr
  subst hr
  exact ⟨s, rfl, hsm⟩
 | i :: l, st, st', s, hr, hsm, hf, hf2, hnd => by
  obtain ⟨o, st1, a1, a2, a3, a4⟩ := hr
  simp only [List.nodup_cons] at hnd
  have hn : ∀ id, base + i * stride ≤ id → id < base + i * stride + stride → st.heap.get id = none := fun id a b => hf.2 i (by simp) id ⟨a, b⟩
  have hn2 : ∀ id, base + i * stride ≤ id → id < base + i * stride + stride → s.heap.get id = none := fun id a b => hf2.2 i (by simp) id ⟨a, b⟩
  obtain ⟨b1, _, v, g, g2, e, s2, E⟩ := step_local (st2 := s) hW hf.1 hf2.1 hn hn2 (fun x _ => by rw [hsm.env]) (fun _ _ _ => by rw [hsm.env]) (fun id _ => hsm.get id) a3
  have hf' := fit_step hW hf hnd.1 a3
  have hf2' := fit_step hW hf2 hnd.1 s2
  subst e
  have hsm1 : Same { st with env := setAt o.dst v st.env, heap := g } { s with env := setAt o.dst v s.env, heap := g2 } := by
   refine ⟨by simp [hsm.env], fun id => ?_⟩
   show g2.get id = g.get id
   by_cases hx : id ∈ (footOf C o st).wr ∨ (base + i * stride ≤ id ∧ id < base + i * stride + stride)
   ·exact E.on id hx
   ·rw [E.off id (fun h => hx (.inl h)) (fun h => hx (.inr h)), E.off2 id (fun h => hx (.inl h)) (fun h => hx (.inr h))]
    exact hsm.get id
  obtain ⟨s', c1, c2⟩ := runs_same hW a4 hsm1 hf' hf2' hnd.2
  exact ⟨s', ⟨o, _, a1, by rw [b1, a2], s2, c1⟩, c2⟩
theorem front (hW : ∀ g args h r sub, C.run g args h = some (r, sub) → (sub.map (·.1)).Nodup) {i : Nat} {q : List Nat} : ∀ {p : List Nat} {st st' : ASt}, Runs C aops base F (p ++ i :: q) st st' → (p ++ i :: q).Nodup → Fit base (p ++ i :: q) st →
  (∀ j ∈ p, Indep base F j i ∧ ∀ oj oi, aops[j]? = some oj → aops[i]? = some oi → Apart oj oi) → ∃ st'', Runs C aops base F (i :: (p ++ q)) st st'' ∧ Same st' st''
 | [], st, st', hr, _, _, _ => ⟨st', hr, .refl _⟩
 | j :: p, st, st', hr, hnd, hf, hind => by
  obtain ⟨oj, st1, a1, a2, a3, a4⟩ := hr
  have hnd' := hnd
  simp only [List.cons_append, List.nodup_cons] at hnd
  obtain ⟨hj, hnd⟩ := hnd
  have hf1 := fit_step hW hf hj a3
  obtain ⟨st'', hr', hsm⟩ := front hW a4 hnd hf1 (fun k hk => hind k (by simp [hk]))
  obtain ⟨oi, st2, b1, b2, b3, b4⟩ := hr'
  have hji : j ≠ i := fun h => hj (by simp [h])
  obtain ⟨i1, i2⟩ := hind j (by simp)
  obtain ⟨s1, s2, c1, c2, c3, c4, c5⟩ := swap hW (i2 oj oi a1 b1) hji i1 (hf.sub (by intro k hk; simp at hk; rcases hk with rfl | rfl <;> simp)) a3 a2 b3 b2
  have hi : i ∉ p ++ q := by
   have : (p ++ i :: q).Perm (i :: (p ++ q)) := List.perm_middle
   exact (List.nodup_cons.1 (this.nodup_iff.1 hnd)).1
  have hndpq : (p ++ q).Nodup := by
   have : (p ++ i :: q).Perm (i :: (p ++ q)) := List.perm_middle
   exact (List.nodup_cons.1 (this.nodup_iff.1 hnd)).2
  have hjpq : j ∉ p ++ q := fun h => hj (by simp at h ⊢; rcases h with h | h <;> simp [h])
  have f2 : Fit base (p ++ q) st2 := fit_step hW (hf1.sub (by intro k hk; simp at hk ⊢; rcases hk with rfl | h | h <;> simp_all)) hi b3
  have fs1 : Fit base (j :: (p ++ q)) s1 := fit_step hW (i := i) (hf.sub (by intro k hk; simp at hk ⊢; rcases hk with rfl | rfl | h | h <;> simp_all)) (by simp only [List.mem_cons, not_or]; exact ⟨Ne.symm hji, hi⟩) c1
  have fs2 : Fit base (p ++ q) s2 := fit_step hW fs1 hjpq c3
  obtain ⟨s', d1, d2⟩ := runs_same hW b4 c5 f2 fs2 hndpq
  exact ⟨s', ⟨oi, s1, b1, c2, c1, ⟨oj, s2, a1, c4, c3, d1⟩⟩, hsm.trans d2⟩
end
end Go.Abs
namespace Go.Abs
theorem mem_get {h : Heap} (hd : (h.map (·.1)).Nodup) {id : Nat} {n : Node} (hm : (id, n) ∈ h) : h.get id = some n := by
 induction h with
 | nil => simp at hm
 | cons e t ih =>
  obtain ⟨j, m⟩ := e
  simp only [List.map_cons, List.nodup_cons] at hd
  simp only [Heap.get]
  rcases List.mem_cons.1 hm with hm | hm
  ·simp at hm
   obtain ⟨rfl, rfl⟩ := hm
   simp
  ·have : j ≠ id := by
    rintro rfl
    exact hd.1 (List.mem_map.2 ⟨_, hm, rfl⟩)
   simp only [this, if_false]
   exact ih hd.2 hm
theorem least {p : Nat → Prop} (h : ∃ n, p n) : ∃ n, p n ∧ ∀ k, p k → n ≤ k := by
 obtain ⟨n, hn⟩ := h
 induction n using Nat.strongRecOn with
 | _ n ih =>
  by_cases hk : ∃ k, k < n ∧ p k
  ·obtain ⟨k, h1, h2⟩ := hk
   exact ih k h1 h2
  ·exact ⟨n, hn, fun k hk' => Nat.not_lt.1 fun hlt => hk ⟨k, hlt, hk'⟩⟩
inductive Before (ops : Array Oper) : Nat → Nat → Prop where
 | one {i : Nat} {o : Oper} {e : Edge} (ho : ops[i]? = some o) (he : e ∈ o.after) (hb : Region.binds .any e = true) : Before ops e.on i
 | more {j i : Nat} {o : Oper} {e : Edge} (ho : ops[i]? = some o) (he : e ∈ o.after) (hb : Region.binds .any e = true) (h : Before ops j e.on) : Before ops j i
section
variable {gl : Globs} {P : Program} {ι0 : Emb} {S0 T : Nat → Prop} {h0 : Heap} {w0 : World} {C : Calls} {ts : List TypeId} {Q : Exit → Act → World → Prop} {G : (Nat → Prop) → World → Prop} {base : Nat} {F : Nat → Foot}
theorem Inv.same {ι : Emb} {S : Nat → Prop} {h h2 : Heap} {w : World} {next : Free} (hi : Inv ι S T h w next) (hd : (h2.map (·.1)).Nodup) (hg : ∀ id, h2.get id = h.get id) : Inv ι S T h2 w next ∧ ∀ id n, (id, n) ∈ h2 → (id, n) ∈ h := by
 have hm : ∀ id n, (id, n) ∈ h2 → (id, n) ∈ h := fun id n h => Heap.get_mem (by rw [← hg]; exact mem_get hd h)
 exact ⟨⟨hd, fun id n h => hi.node id n (hm _ _ h), fun a b c d L L' h1 h2 => hi.inj a b c d L L' (hm _ _ h1) (hm _ _ h2), hi.fresh, hi.s_lt, hi.t_lt⟩, hm⟩
theorem Holds.same {st s : ASt} {next : Free} {a : Act} {w : World} (h : Holds gl ι0 S0 T h0 w0 st.env st.heap next a w) (hs : Same st s) (hd : (s.heap.map (·.1)).Nodup) : Holds gl ι0 S0 T h0 w0 s.env s.heap next a w := by
 obtain ⟨ι, S, hi, henv, hst, hdf⟩ := h
 obtain ⟨i1, i2⟩ := hi.same hd hs.get
 refine ⟨ι, S, i1, by rw [hs.env]; exact henv, ⟨hst.iota, hst.s, hst.frame, hst.size, fun b hb => ?_, hst.sown, hst.os, hst.tape, hst.output⟩, hdf⟩
 obtain ⟨e, he, L, hL, rfl⟩ := hb
 exact hst.own _ ⟨e, i2 e.1 e.2 he, L, hL, rfl⟩
def rem (n : Nat) (listed : Array Bool) : List Nat := (List.range n).filter fun i => !listed.getD i true
def freeOf (base n : Nat) (l : List Nat) : Free := fun id => (∃ j ∈ l, own base j id) ∨ base + n * stride ≤ id
theorem rem_set {n : Nat} {listed : Array Bool} {i : Nat} : rem n (listed.setIfInBounds i true) = (rem n listed).filter (· ≠ i) := by
 unfold rem
 rw [List.filter_filter]
 refine List.filter_congr fun j _ => ?_
 by_cases h : i = j
 ·subst h
  by_cases hlt : i < listed.size
  ·simp [hlt]
  ·simp [hlt]
 ·rw [getD_set_ne true h]
  simp [Ne.symm h]
theorem trOps_get {ops : Array Oper} : ∀ {l : List Oper} {aops : List AOper}, trOps gl P ts ops l = some aops → ∀ {i : Nat} {ao : AOper}, aops[i]? = some ao → ∃ o, l[i]? = some o ∧ ao.op = (trOp gl P ts o).getD .bad ∧ ao.dst = o.dst ∧ trGuard ops o.guard = some ao.guard
 | [], aops, h, i, ao, ha => by
  simp [trOps] at h
  subst h
  simp at ha
 | o :: r, aops, h, i, ao, ha => by
  simp only [trOps] at h
  split at h <;> simp at h
  rename_i g r' h1 h2
  subst h
  cases i with
  | zero =>
   simp at ha
   subst ha
   exact ⟨o, rfl, rfl, rfl, h1⟩
  | succ i => simpa using trOps_get h2 (by simpa using ha)
theorem before_listed {ops : Array Oper} {listed : Array Bool} (hcl : ∀ k o e, ops[k]? = some o → listed.getD k false = true → e ∈ o.after → Region.binds .any e = true → listed.getD e.on false = true) {j i : Nat} (hb : Before ops j i) :
  (∀ o e, ops[i]? = some o → e ∈ o.after → Region.binds .any e = true → listed.getD e.on false = true) → listed.getD j false = true := by
 induction hb with
 | one ho he hb => exact fun h => h _ _ ho he hb
 | more ho he hb _ ih => exact fun h => ih fun o e ho' he' hb' => hcl _ _ _ ho' (h _ _ ho he hb) he' hb'
theorem any_sound (hC : Meets P G C.run) (hG : ∀ ι S h w, Step ι0 S0 T h0 w0 ι S h w → G S w) (hW : ∀ g args h r sub, C.run g args h = some (r, sub) → (sub.map (·.1)).Nodup) {ops : Array Oper} {aops : List AOper} (ht : trOps gl P ts ops ops.toList = some aops)
  (hind : ∀ j i, j < i → i < ops.size → Before ops j i ∨ (Indep base F j i ∧ ∀ oj oi, aops[j]? = some oj → aops[i]? = some oi → Apart oj oi))
  (hback : ∀ i o e, ops[i]? = some o → e ∈ o.after → Region.binds .any e = true → e.on < i)
  {stf : ASt} (hQ : ∀ s a' w', Same stf s → Holds gl ι0 S0 T h0 w0 s.env s.heap (Free.above (base + ops.size * stride)) a' w' → Q .normal a' w') :
  ∀ (fuel : Nat) (listed : Array Bool) (st st' : ASt) (a : Act) (w : World), (rem ops.size listed).length ≤ fuel → listed.size = ops.size →
   (∀ k o e, ops[k]? = some o → listed.getD k false = true → e ∈ o.after → Region.binds .any e = true → listed.getD e.on false = true) →
   Runs C aops base F (rem ops.size listed) st st' → Same stf st' → Fit base (rem ops.size listed) st → Holds gl ι0 S0 T h0 w0 st.env st.heap (freeOf base ops.size (rem ops.size listed)) a w → wpAny P .any ops Q fuel listed a w := by
 have hdone : ∀ (listed : Array Bool) (st st' : ASt) (a : Act) (w : World), rem ops.size listed = [] → Runs C aops base F (rem ops.size listed) st st' → Same stf st' → Holds gl ι0 S0 T h0 w0 st.env st.heap (freeOf base ops.size (rem ops.size listed)) a w → Q .normal a w := by
  intro listed st st' a w hr hrun hs hH
  rw [hr] at hrun hH
  simp only [Runs] at hrun
  subst hrun
  exact hQ _ _ _ hs (hH.mono fun id hid => .inr hid)
 have hsub : ∀ (listed : Array Bool), listed.size = ops.size → Region.ready .any ops listed = [] → rem ops.size listed = [] := by
  intro listed hsz hr
  rcases Classical.em (∃ i, i ∈ rem ops.size listed) with hx | hx
  ·obtain ⟨i, hi, hmin⟩ := least hx
   have hi' := List.mem_filter.1 hi
   have hlt : i < ops.size := by simpa using hi'.1
   have : i ∈ Region.ready .any ops listed := by
    rw [mem_ready]
    refine ⟨by simpa using hi'.2, ops[i], Array.getElem?_eq_getElem hlt, fun e he hb => ?_⟩
    have hon := hback i _ e (Array.getElem?_eq_getElem hlt) he hb
    have hnot : e.on ∉ rem ops.size listed := fun hc => by have := hmin _ hc; omega
    have hb2 : listed.getD e.on true = true := by
     cases hv : listed.getD e.on true with
     | true => rfl
     | false => exact absurd (List.mem_filter.2 ⟨by simp; omega, by simpa using hv⟩) hnot
    have hsl : e.on < listed.size := by omega
    simp [Array.getD, hsl] at hb2 ⊢
    exact hb2
   rw [hr] at this
   cases this
  ·exact List.eq_nil_iff_forall_not_mem.2 fun i hi => hx ⟨i, hi⟩
 intro fuel
 induction fuel with
 | zero =>
  intro listed st st' a w hf hsz hcl hrun hs hfit hH
  have hr : rem ops.size listed = [] := List.eq_nil_of_length_eq_zero (by omega)
  refine ⟨?_, hdone listed st st' a w hr hrun hs hH⟩
  refine List.eq_nil_iff_forall_not_mem.2 fun i hi => ?_
  obtain ⟨h0, o, ho, _⟩ := mem_ready.1 hi
  have : i ∈ rem ops.size listed := List.mem_filter.2 ⟨by simpa using (Array.getElem?_eq_some_iff.1 ho).1, by simpa using h0⟩
  rw [hr] at this
  cases this
 | succ fuel ih =>
  intro listed st st' a w hf hsz hcl hrun hs hfit hH
  refine ⟨fun hr => hdone listed st st' a w (hsub listed hsz hr) hrun hs hH, fun i hi => ?_⟩
  obtain ⟨h0, o, ho, hdeps⟩ := mem_ready.1 hi
  have hlt : i < ops.size := (Array.getElem?_eq_some_iff.1 ho).1
  have him : i ∈ rem ops.size listed := List.mem_filter.2 ⟨by simpa using hlt, by simpa using h0⟩
  have hnd : (rem ops.size listed).Nodup := List.nodup_range.sublist List.filter_sublist
  have hsorted : (rem ops.size listed).Pairwise (· < ·) := List.pairwise_lt_range.sublist List.filter_sublist
  obtain ⟨p, q, hpq⟩ := List.append_of_mem him
  have hrem' : rem ops.size (listed.setIfInBounds i true) = p ++ q := by
   rw [rem_set, hpq]
   rw [hpq] at hnd
   have hip : i ∉ p ++ q := (List.nodup_cons.1 ((List.perm_middle).nodup_iff.1 hnd)).1
   simp only [List.mem_append, not_or] at hip
   have hp' : p.filter (· ≠ i) = p := List.filter_eq_self.2 fun a ha => by
    have : a ≠ i := by rintro rfl; exact hip.1 ha
    simpa using this
   have hq' : q.filter (· ≠ i) = q := List.filter_eq_self.2 fun a ha => by
    have : a ≠ i := by rintro rfl; exact hip.2 ha
    simpa using this
   rw [List.filter_append, List.filter_cons, hp', hq']
   simp
  have hin : ∀ j ∈ p, Indep base F j i ∧ ∀ oj oi, aops[j]? = some oj → aops[i]? = some oi → Apart oj oi := by
   intro j hj
   have hji : j < i := by
    rw [hpq, List.pairwise_append] at hsorted
    exact hsorted.2.2 j hj i (by simp)
   rcases hind j i hji hlt with hb | h
   ·have := before_listed hcl hb (fun o' e ho' he hb => by
     rw [ho] at ho'; cases ho'
     exact hdeps e he hb)
    have hjm : j ∈ rem ops.size listed := by rw [hpq]; simp [hj]
    have h2 := (List.mem_filter.1 hjm).2
    have hsl : j < listed.size := by omega
    simp [Array.getD, hsl] at this h2
    rw [this] at h2
    cases h2
   ·exact h
  rw [hpq] at hrun hfit hnd
  obtain ⟨st'', hr', hsm⟩ := front hW hrun hnd hfit hin
  obtain ⟨ao, st1, a1, a2, a3, a4⟩ := hr'
  obtain ⟨o', b1, b2, b3, b4⟩ := trOps_get ht a1
  have ho' : o' = o := by
   have : ops[i]? = some o' := by simpa using b1
   rw [ho] at this
   exact (Option.some.inj this).symm
  subst ho'
  have hip : i ∉ p ++ q := (List.nodup_cons.1 ((List.perm_middle).nodup_iff.1 hnd)).1
  have hfit1 : Fit base (p ++ q) st1 := fit_step hW (hfit.sub (by intro k hk; simp at hk ⊢; rcases hk with rfl | h | h <;> simp_all)) hip a3
  refine stepOp_sound hC hG ho b2 b3 b4 a3 hH (fun id h1 h2 => .inl ⟨i, him, h1, h2⟩) fun a' w' hH' => ?_
  refine ih (listed.setIfInBounds i true) st1 st'' a' w' ?_ (by simpa using hsz) ?_ (by rw [hrem']; exact a4) (hs.trans hsm) (by rw [hrem']; exact hfit1) ?_
  ·rw [hrem']
   rw [hpq] at hf
   simp at hf ⊢
   omega
  ·intro k ok e hok hk he hb
   by_cases hki : i = k
   ·subst hki
    rw [ho] at hok; cases hok
    exact getD_set_true (hdeps e he hb)
   ·rw [getD_set_ne false hki] at hk
    exact getD_set_true (hcl k ok e hok hk he hb)
  ·refine hH'.mono fun id hid => ?_
   rw [hrem'] at hid
   rcases hid with ⟨j, hj, ho2⟩ | hid
   ·refine ⟨.inl ⟨j, by rw [hpq]; simp at hj ⊢; rcases hj with h | h <;> simp [h], ho2⟩, fun hc => ?_⟩
    exact own_apart (x := j) (y := i) (by rintro rfl; exact hip hj) ho2 hc
   ·refine ⟨.inr hid, fun hc => ?_⟩
    unfold stride at *
    omega
end
end Go.Abs
namespace Go.Abs
theorem mem_afterOf {o : Oper} {j : Nat} (h : j ∈ afterOf o) : ∃ e ∈ o.after, Region.binds .any e = true ∧ e.on = j := by
 unfold afterOf at h
 obtain ⟨e, he, rfl⟩ := List.mem_map.1 h
 obtain ⟨h1, h2⟩ := List.mem_filter.1 he
 exact ⟨e, by simpa using h1, h2, rfl⟩
theorem backB_ok : ∀ (l : List Oper) (i : Nat), backB l i = true → ∀ (k : Nat) (o : Oper), l[k]? = some o → ∀ e ∈ o.after, Region.binds .any e = true → e.on < i + k
 | [], i, _, k, o, hk, e, he, hb => by simp at hk
 | o' :: r, i, h, k, o, hk, e, he, hb => by
  simp only [backB, Bool.and_eq_true, List.all_eq_true, decide_eq_true_eq] at h
  cases k with
  | zero =>
   simp at hk
   subst hk
   refine h.1 e.on ?_
   unfold afterOf
   exact List.mem_map.2 ⟨e, List.mem_filter.2 ⟨by simpa using he, hb⟩, rfl⟩
  | succ k =>
   have := backB_ok r (i + 1) h.2 k o (by simpa using hk) e he hb
   omega
theorem forceN_eq {α : Type} (n : Nat) (k : Nat → α) : forceN n k = k n := by cases n <;> rfl
theorem testBit_fold {k : Nat} {g : Nat → Nat} : ∀ (l : List Nat) (m : Nat), (l.foldl (fun m j => m ||| (1 <<< j ||| g j)) m).testBit k = true → m.testBit k = true ∨ ∃ j ∈ l, k = j ∨ (g j).testBit k = true
 | [], m, h => .inl h
 | j :: r, m, h => by
  rcases testBit_fold r _ h with h | ⟨x, hx, h⟩
  ·simp only [Nat.testBit_or, Bool.or_eq_true] at h
   rcases h with h | h | h
   ·exact .inl h
   ·right
    refine ⟨j, by simp, .inl ?_⟩
    rw [Nat.one_shiftLeft, Nat.testBit_two_pow] at h
    exact (of_decide_eq_true h).symm
   ·exact .inr ⟨j, by simp, .inr h⟩
  ·exact .inr ⟨x, by simp [hx], h⟩
theorem ancTab_ok {ops : Array Oper} : ∀ (l : List Oper) (i : Nat) (acc : List Nat), acc.length = i → (∀ (k : Nat) (o : Oper), l[k]? = some o → ∀ e ∈ o.after, Region.binds .any e = true → e.on < i + k) → (∀ (k : Nat) (o : Oper), l[k]? = some o → ops[i + k]? = some o) → (∀ (k m : Nat), acc[k]? = some m → ∀ j, m.testBit j = true → Before ops j (i - 1 - k)) →
  (ancTab l i acc).length = i + l.length ∧ ∀ (k m : Nat), (ancTab l i acc)[k]? = some m → ∀ j, m.testBit j = true → Before ops j (i + l.length - 1 - k)
 | [], i, acc, hlen, _, _, hacc => ⟨by simpa [ancTab] using hlen, hacc⟩
 | o :: r, i, acc, hlen, hbk, hl, hacc => by
  simp only [ancTab, forceN_eq]
  generalize hm : (afterOf o).foldl (fun m j => m ||| (1 <<< j ||| acc.getD (i - 1 - j) 0)) 0 = m
  have ho : ops[i]? = some o := by simpa using hl 0 o rfl
  obtain ⟨h1, h2⟩ := ancTab_ok r (i + 1) (m :: acc) (by simp [hlen]) (fun k o' hk e he hb => by
   have := hbk (k + 1) o' (by simpa using hk) e he hb
   omega) (fun k o' hk => by
   have := hl (k + 1) o' (by simpa using hk)
   rw [← this]
   congr 1
   omega) (fun k m' hk j hj => by
   cases k with
   | zero =>
    simp at hk
    subst hk
    rw [← hm] at hj
    rcases testBit_fold (g := fun j => acc.getD (i - 1 - j) 0) _ _ hj with h | ⟨x, hx, h⟩
    ·simp at h
    ·obtain ⟨e, he, hb, rfl⟩ := mem_afterOf hx
     rcases h with rfl | h
     ·exact .one ho he hb
     ·cases hg : acc[i - 1 - e.on]? with
      | none => simp [List.getD, hg] at h
      | some m' =>
       have hlt : i - 1 - e.on < acc.length := (List.getElem?_eq_some_iff.1 hg).1
       simp only [List.getD, hg, Option.getD_some] at h
       refine .more ho he hb ?_
       have := hacc _ _ hg j h
       have hle := hbk 0 o rfl e he hb
       have e2 : i - 1 - (i - 1 - e.on) = e.on := by omega
       rwa [e2] at this
   | succ k =>
    have := hacc k m' (by simpa using hk) j hj
    have e2 : i + 1 - 1 - (k + 1) = i - 1 - k := by omega
    rwa [e2])
  have e3 : i + 1 + r.length = i + (o :: r).length := by simp; omega
  rw [e3] at h1 h2
  exact ⟨h1, h2⟩
theorem mem_unordered1 {i m : Nat} : ∀ (n : Nat) (acc : List (Nat × Nat)) {j : Nat}, (j, i) ∈ acc ∨ (j < n ∧ m.testBit j = false) → (j, i) ∈ unordered1 i m n acc
 | 0, acc, j, h => by
  rcases h with h | h
  ·exact h
  ·omega
 | n + 1, acc, j, h => by
  simp only [unordered1]
  refine mem_unordered1 n _ ?_
  rcases h with h | ⟨h, ht⟩
  ·left
   split
   ·exact h
   ·exact List.mem_cons_of_mem _ h
  ·by_cases hj : j = n
   ·subst hj
    left
    simp [ht]
   ·exact .inr ⟨by omega, ht⟩
theorem unordered1_mono {i m : Nat} : ∀ (n : Nat) (acc : List (Nat × Nat)) {p : Nat × Nat}, p ∈ acc → p ∈ unordered1 i m n acc
 | 0, acc, p, h => h
 | n + 1, acc, p, h => by
  simp only [unordered1]
  refine unordered1_mono n _ ?_
  split
  ·exact h
  ·exact List.mem_cons_of_mem _ h
theorem unordered_mono : ∀ (n : Nat) (tab : List Nat) (acc : List (Nat × Nat)) {p : Nat × Nat}, p ∈ acc → p ∈ unordered n tab acc
 | 0, _, acc, p, h => h
 | _ + 1, [], acc, p, h => h
 | n + 1, m :: r, acc, p, h => unordered_mono n r _ (unordered1_mono n acc h)
theorem mem_unordered : ∀ (n : Nat) (tab : List Nat) (acc : List (Nat × Nat)) {j i : Nat}, tab.length = n → i < n → j < i → (∀ m, tab[n - 1 - i]? = some m → m.testBit j = false) → (j, i) ∈ unordered n tab acc
 | 0, _, acc, j, i, _, h, _, _ => by omega
 | n + 1, [], acc, j, i, hl, _, _, _ => by simp at hl
 | n + 1, m :: r, acc, j, i, hl, hi, hj, hm => by
  simp only [unordered]
  by_cases hin : i = n
  ·subst hin
   refine unordered_mono _ _ _ (mem_unordered1 _ _ (.inr ⟨hj, hm m ?_⟩))
   have : i + 1 - 1 - i = 0 := by omega
   rw [this]
   rfl
  ·refine mem_unordered n r _ (by simpa using hl) (by omega) hj fun m' hm' => hm m' ?_
   have : n + 1 - 1 - i = (n - 1 - i) + 1 := by omega
   rw [this]
   simpa using hm'
theorem apartB_ok {x y : AOper} (h : apartB x y = true) : Apart x y := by
 simp only [apartB, Bool.and_eq_true] at h
 refine ⟨fun d hd => ?_, fun d hd => ?_⟩
 ·have := h.1
  rw [hd] at this
  simpa using this
 ·have := h.2
  rw [hd] at this
  simpa using this
section
variable {gl : Globs} {P : Program} {ι0 : Emb} {S0 T : Nat → Prop} {h0 : Heap} {w0 : World} {C : Calls} {ts : List TypeId} {Q : Exit → Act → World → Prop} {G : (Nat → Prop) → World → Prop} {base : Nat} {F : Nat → Foot}
theorem foot_light {o : AOper} {st : ASt} (h : o.op.cls = 0) : footOf C o st = ⟨[], []⟩ := by
 have hg : goFoot C o st = ⟨[], []⟩ := by
  unfold goFoot
  split
  ·rename_i hop
   rw [hop] at h
   simp [AOp.cls] at h
  ·simp [h]
 unfold footOf
 split
 ·exact hg
 ·split
  ·split
   ·exact hg
   ·rfl
  ·rfl
theorem indepB_ok {fs : List Foot} {j i : Nat} (h : indepB base fs (j, i) = true) : Indep base (fun k => fs.getD k ⟨[], []⟩) j i := by
 simp only [indepB, Bool.and_eq_true, List.all_eq_true, ownB, Bool.not_eq_true', Bool.and_eq_false_iff, decide_eq_false_iff_not] at h
 obtain ⟨⟨⟨h1, h2⟩, h3⟩, h4⟩ := h
 refine ⟨fun id hid hc => ?_, fun id hid hc => ?_, fun id hid hc => ?_, fun id hid hc => ?_⟩
 ·have := h1 id hid
  simp at this
  exact this hc
 ·have := h2 id hid
  simp at this
  exact this hc
 ·unfold own at hc
  rcases h3 id hid with h | h
  ·exact h hc.1
  ·exact h hc.2
 ·unfold own at hc
  rcases h4 id hid with h | h
  ·exact h hc.1
  ·exact h hc.2
theorem runs_of_feet {aops : List AOper} : ∀ (l : List AOper) (i : Nat) {st st' : ASt} {fs : List Foot}, runFeet C l (base + i * stride) st = some (st', fs) → (∀ (k : Nat) (o : AOper), l[k]? = some o → aops[i + k]? = some o) →
  (∀ (k : Nat) (f : Foot), fs[k]? = some f → F (i + k) = f) → ∃ st1, Runs C aops base F (List.range' i l.length) st st1 ∧ st' = { st1 with next := base + (i + l.length) * stride } ∧ fs.length = l.length ∧
   (∀ (k : Nat) (o : AOper) (f : Foot), l[k]? = some o → fs[k]? = some f → o.op.cls = 0 → f = ⟨[], []⟩)
 | [], i, st, st', fs, h, _, _ => by
  simp only [runFeet, Option.some.injEq, Prod.mk.injEq] at h
  obtain ⟨rfl, rfl⟩ := h
  exact ⟨st, rfl, by simp, rfl, by simp⟩
 | o :: r, i, st, st', fs, h, hl, hF => by
  simp only [runFeet] at h
  split at h <;> try (simp at h; done)
  rename_i st1 h1
  split at h <;> simp only [Option.some.injEq, Prod.mk.injEq, reduceCtorEq] at h
  rename_i st2 fs' h2
  obtain ⟨rfl, rfl⟩ := h
  have e : base + i * stride + stride = base + (i + 1) * stride := by rw [Nat.add_mul]; omega
  rw [e] at h2
  obtain ⟨s, a1, a2, a3, a4⟩ := runs_of_feet (aops := aops) r (i + 1) h2 (fun k o' hk => by
   have := hl (k + 1) o' (by simpa using hk)
   rw [← this]; congr 1; omega) (fun k f hk => by
   have := hF (k + 1) f (by simpa using hk)
   rw [← this]; congr 1; omega)
  refine ⟨s, ⟨o, st1, by simpa using hl 0 o rfl, (hF 0 _ rfl).symm, h1, a1⟩, ?_, by simp [a3], fun k o' f hk hf hc => ?_⟩
  ·rw [a2]
   simp only [List.length_cons, ASt.mk.injEq, true_and]
   congr 2
   omega
  ·cases k with
   | zero =>
    simp at hk hf
    subst hk; subst hf
    exact foot_light hc
   | succ k => exact a4 k o' f (by simpa using hk) (by simpa using hf) hc
theorem runs_nodup (hW : ∀ g args h r sub, C.run g args h = some (r, sub) → (sub.map (·.1)).Nodup) {aops : List AOper} : ∀ {l : List Nat} {st st' : ASt}, Runs C aops base F l st st' → Fit base l st → l.Nodup → (st'.heap.map (·.1)).Nodup
 | [], st, st', hr, hf, _ => by
  simp only [Runs] at hr
  subst hr
  exact hf.1
 | i :: l, st, st', hr, hf, hnd => by
  obtain ⟨o, st1, _, _, a3, a4⟩ := hr
  simp only [List.nodup_cons] at hnd
  exact runs_nodup hW a4 (fit_step hW hf hnd.1 a3) hnd.2
theorem Holds.drawn {env : List AVal} {heap : Heap} {next : Free} {a : Act} {w : World} (q : Nat) (h : Holds gl ι0 S0 T h0 w0 env heap next a w) : Holds gl ι0 S0 T h0 w0 env heap next a { w with drawn := q } := by
 obtain ⟨ι, S, hi, henv, hst, hdf⟩ := h
 have st : Step ι S T heap w ι S heap { w with drawn := q } := ⟨fun _ _ h => h, fun _ h => h, fun _ _ _ => rfl, Nat.le_refl _, fun _ h => .inr h, fun _ h => .inl h, rfl, rfl, rfl⟩
 refine ⟨ι, S, ⟨hi.nodup, fun id n hm => ?_, hi.inj, hi.fresh, hi.s_lt, hi.t_lt⟩, henv.step hi st, hst.trans st, hdf⟩
 obtain ⟨L, a, b, c, d⟩ := hi.node id n hm
 exact ⟨L, a, b, c, NodeRep.mono (w := w) (w' := { w with drawn := q }) (fun _ _ h => h) (fun _ h => h) (fun _ h => h) (fun _ _ => rfl) rfl d⟩
theorem region_sound (hmix : P.follows .mixedOrders = true) (hC : Meets P G C.run) (hG : ∀ ι S h w, Step ι0 S0 T h0 w0 ι S h w → G S w) (hW : ∀ g args h r sub, C.run g args h = some (r, sub) → (sub.map (·.1)).Nodup) {id : Nat} {ops : Array Oper} {aops : List AOper} {ps : List (Nat × Nat)} (ht : trOps gl P ts ops ops.toList = some aops) (hps : drawPairs ops aops = some ps)
  {st st' : ASt} {fs : List Foot} (hs : runFeet C aops st.next st = some (st', fs)) (hall : ps.all (indepB st.next fs) = true) {a : Act} {w : World} (hH : Holds gl ι0 S0 T h0 w0 st.env st.heap (Free.above st.next) a w)
  (hQ : ∀ a' w', Holds gl ι0 S0 T h0 w0 st'.env st'.heap (Free.above st'.next) a' w' → Q .normal a' w') : (Code.region id ops true).wp P Q a w := by
 refine wp_region_any hmix ?_
 have hlen : aops.length = ops.size := by
  have key : ∀ {l : List Oper} {as : List AOper}, trOps gl P ts ops l = some as → as.length = l.length := by
   intro l
   induction l with
   | nil => intro as h; simp [trOps] at h; subst h; rfl
   | cons o r ih =>
    intro as h
    simp only [trOps] at h
    split at h <;> simp at h
    subst h
    rename_i _ h2
    simp [ih h2]
  simpa using key ht
 unfold drawPairs at hps
 simp only at hps
 split at hps <;> simp only [Option.some.injEq, reduceCtorEq] at hps
 rename_i hcond
 obtain ⟨hb, hap⟩ := hcond
 obtain ⟨st1, r1, r2, r3, r4⟩ := runs_of_feet (aops := aops) (base := st.next) (F := fun k => fs.getD k ⟨[], []⟩) aops 0 (by simpa using hs) (fun k o hk => by simpa using hk) (fun k f hk => by simp [hk])
 rw [hlen] at r1 r2 r3
 have hrem : rem ops.size (Array.replicate ops.size false) = List.range ops.size := by
  unfold rem
  refine List.filter_eq_self.2 fun i hi => ?_
  have : i < ops.size := by simpa using hi
  simp [Array.getD, this]
 have hfit : Fit st.next (List.range ops.size) st := by
  obtain ⟨ι, S, hi, _⟩ := hH
  refine ⟨hi.nodup, fun i _ id hid => ?_⟩
  cases hg : st.heap.get id with
  | none => rfl
  | some n =>
   obtain ⟨L, hL, _⟩ := hi.get hg
   have := hi.fresh id (by unfold own at hid; exact Nat.le_trans (Nat.le_add_right _ _) hid.1)
   rw [this] at hL
   cases hL
 have hr : Runs C aops st.next (fun k => fs.getD k ⟨[], []⟩) (List.range ops.size) st st1 := by
  rw [List.range_eq_range']
  exact r1
 have hnd1 : (st1.heap.map (·.1)).Nodup := runs_nodup hW hr hfit List.nodup_range
 refine any_sound (base := st.next) (F := fun k => fs.getD k ⟨[], []⟩) (stf := st1) hC hG hW ht (fun j i hji hi => ?_) (fun i o e ho he hbn => ?_) (fun s a' w' hsm hH' => ?_) ops.size (Array.replicate ops.size false) st st1 a _ ?_ (by simp) (fun k o e hk hl => ?_) ?_ (.refl _) ?_ ?_
 ·-- a pair
  obtain ⟨t1, t2⟩ := ancTab_ok ops.toList 0 [] rfl (fun k o hk e he hbn => backB_ok ops.toList 0 hb k o hk e he hbn) (fun k o hk => by simpa using hk) (by simp)
  simp only [Nat.zero_add, Array.length_toList] at t1 t2
  by_cases hx : ∃ m, (ancTab ops.toList 0 [])[ops.size - 1 - i]? = some m ∧ m.testBit j = true
  ·left
   obtain ⟨m, hm1, hm2⟩ := hx
   have := t2 _ m hm1 j hm2
   have e : ops.size - 1 - (ops.size - 1 - i) = i := by omega
   rwa [e] at this
  ·right
   have hmem : (j, i) ∈ unordered ops.size (ancTab ops.toList 0 []) [] := by
    refine mem_unordered _ _ _ t1 hi hji fun m hm => ?_
    cases hb : m.testBit j with
    | false => rfl
    | true => exact (hx ⟨m, hm, hb⟩).elim
   have hapart := List.all_eq_true.1 hap _ hmem
   have hio : i < aops.length := by omega
   have hjo : j < aops.length := by omega
   have hap2 : apartB aops[j] aops[i] = true := by
    unfold apartP at hapart
    simpa [List.getElem?_eq_getElem hio, List.getElem?_eq_getElem hjo] using hapart
   refine ⟨?_, fun oj oi h1 h2 => ?_⟩
   ·by_cases hl : lightB aops (j, i) = true
    ·unfold lightB at hl
     simp only [List.getElem?_eq_getElem hio, List.getElem?_eq_getElem hjo, Bool.and_eq_true, beq_iff_eq] at hl
     have fz : ∀ k (hk : k < aops.length), aops[k].op.cls = 0 → fs.getD k ⟨[], []⟩ = ⟨[], []⟩ := by
      intro k hk hc
      have hkf : k < fs.length := by omega
      have := r4 k _ fs[k] (List.getElem?_eq_getElem hk) (List.getElem?_eq_getElem hkf) hc
      rw [List.getD_eq_getElem?_getD, List.getElem?_eq_getElem hkf]
      exact this
     have e1 := fz j hjo hl.1
     have e2 := fz i hio hl.2
     refine ⟨fun id hid => ?_, fun id hid => ?_, fun id hid => ?_, fun id hid => ?_⟩
     ·rw [e1] at hid; cases hid
     ·rw [e2] at hid; cases hid
     ·rw [e2] at hid; cases hid
     ·rw [e1] at hid; cases hid
    ·refine indepB_ok (List.all_eq_true.1 hall _ ?_)
     rw [← hps]
     exact List.mem_filter.2 ⟨hmem, by simpa using hl⟩
   ·rw [List.getElem?_eq_getElem hjo] at h1
    rw [List.getElem?_eq_getElem hio] at h2
    cases h1; cases h2
    exact apartB_ok hap2
 ·have := backB_ok ops.toList 0 hb i o (by simpa using ho) e he hbn
  omega
 ·refine hQ a' w' ?_
  rw [r2]
  refine (hH'.same (s := st1) ⟨hsm.env.symm, fun id => (hsm.get id).symm⟩ hnd1).mono fun id hid => ?_
  simpa [Free.above] using hid
 ·rw [hrem]; simp
 ·have : (Array.replicate ops.size false).getD k false = false := by
   simp only [Array.getD]
   split <;> simp
  rw [this] at hl
  cases hl
 ·rw [hrem]; exact hr
 ·rw [hrem]; exact hfit
 ·refine (hH.drawn _).mono fun id hid => ?_
  rw [hrem] at hid
  rcases hid with ⟨j, _, h⟩ | h
  ·unfold own at h
   exact Nat.le_trans (Nat.le_add_right _ _) h.1
  ·exact Nat.le_trans (Nat.le_add_right _ _) h
end
end Go.Abs
namespace Go.Abs
def Match (gl : Globs) (P : Program) (ts : List TypeId) : ACode → Code → Prop
 | .skip, .skip => True
 | .reg d ps aops, .region _ ops draw => draw = d ∧ trOps gl P ts ops ops.toList = some aops ∧ (d = true → drawPairs ops aops = some ps)
 | .seq a b, .seq a' b' => Match gl P ts a a' ∧ Match gl P ts b b'
 | .cond c a b, .cond c' a' b' => trOpd gl c' = some c ∧ Match gl P ts a a' ∧ Match gl P ts b b'
 | .block id a, .block id' a' => id = id' ∧ Match gl P ts a a'
 | .loop _ a, .loop a' => Match gl P ts a a'
 | .exit id, .exit id' => id = id'
 | .ret, .ret => True
 | _, _ => False
theorem tr_match {gl : Globs} {P : Program} {ts : List TypeId} : ∀ {c : Code} {c' : ACode}, trCode gl P ts c = some c' → Match gl P ts c' c := by
 intro c
 induction c with
 | seq a b iha ihb =>
  intro c' h
  simp only [trCode] at h
  split at h <;> simp at h
  subst h
  rename_i ha hb
  exact ⟨iha ha, ihb hb⟩
 | cond x a b iha ihb =>
  intro c' h
  simp only [trCode] at h
  split at h <;> simp at h
  subst h
  rename_i hx ha hb
  exact ⟨hx, iha ha, ihb hb⟩
 | block id a ih =>
  intro c' h
  simp only [trCode] at h
  obtain ⟨a', ha, rfl⟩ := map_some h
  exact ⟨rfl, ih ha⟩
 | loop a ih =>
  intro c' h
  simp only [trCode] at h
  obtain ⟨a', ha, rfl⟩ := map_some h
  exact ih ha
 | region id ops draw =>
  intro c' h
  simp only [trCode] at h
  split at h <;> try (simp at h; done)
  rename_i aops ha
  split at h
  ·rename_i hd
   obtain ⟨ps, hp, rfl⟩ := map_some h
   exact ⟨hd, ha, fun _ => hp⟩
  ·rename_i hd
   simp at h
   subst h
   exact ⟨by simpa using hd, ha, fun hc => by cases hc⟩
 | skip => intro c' h; simp [trCode] at h; subst h; trivial
 | exit id => intro c' h; simp [trCode] at h; subst h; rfl
 | ret => intro c' h; simp [trCode] at h; subst h; trivial
 | _ => intro c' h; simp [trCode] at h
theorem ann_match {gl : Globs} {P : Program} {ts : List TypeId} {rs : List Nat} : ∀ {c' : ACode} {c : Code} {out : List Nat}, Match gl P ts c' c → Match gl P ts (ann rs c' out) c := by
 intro c'
 induction c' with
 | seq a b iha ihb =>
  intro c out h
  cases c <;> simp only [Match] at h
  exact ⟨iha h.1, ihb h.2⟩
 | cond x a b iha ihb =>
  intro c out h
  cases c <;> simp only [Match] at h
  exact ⟨h.1, iha h.2.1, ihb h.2.2⟩
 | block id a ih =>
  intro c out h
  cases c <;> simp only [Match] at h
  exact ⟨h.1, ih h.2⟩
 | loop l a ih =>
  intro c out h
  cases c <;> simp only [Match] at h
  exact ih h
 | _ => intro c out h; exact h
section
variable {gl : Globs} {P : Program} {ι0 : Emb} {S0 T : Nat → Prop} {h0 : Heap} {w0 w w' : World} {C : Calls} {ts : List TypeId} {a : Act} {env : List AVal} {heap : Heap} {next next' : Free} {nid m : Nat} {Q : Exit → Act → World → Prop} {G : (Nat → Prop) → World → Prop}
theorem wp_rounds {c : Code} (I : Nat → Act → World → Prop) (round : ∀ n a w, I n a w → c.wp P (Exit.then (fun a' w' => ∃ k, k < n ∧ I k a' w') Q) a w) {n : Nat} (h : I n a w) : (Code.loop c).wp P Q a w := by
 classical
 let μ : Act → World → Nat := fun a w => if h : ∃ n, I n a w then Classical.choose (least h) else 0
 have hμ : ∀ a w, (∃ n, I n a w) → I (μ a w) a w ∧ ∀ k, I k a w → μ a w ≤ k := by
  intro a w hx
  simp only [μ, hx, dif_pos]
  exact Classical.choose_spec (least hx)
 refine wp_loop (fun a w => ∃ n, I n a w) μ ⟨n, h⟩ fun a w hI => ?_
 refine wp_mono (round _ a w (hμ a w hI).1) fun e a' w' hq => ?_
 cases e <;> first | exact hq | skip
 obtain ⟨k, h1, h2⟩ := hq
 exact ⟨⟨k, h2⟩, Nat.lt_of_le_of_lt ((hμ a' w' ⟨k, h2⟩).2 k h2) h1⟩
def AExit.real : AExit → Exit
 | .norm => .normal
 | .exit id => .exit id
 | .ret => .ret
def Comes (gl : Globs) (ι0 : Emb) (S0 T : Nat → Prop) (h0 : Heap) (w0 : World) (e : AExit) (st : ASt) : Exit → Act → World → Prop :=
 fun e' a w => e' = e.real ∧ Holds gl ι0 S0 T h0 w0 st.env st.heap (Free.above st.next) a w
theorem pick_append {h : Heap} {f : Nat → Option Nat} : ∀ (a b : List Nat), pickNodes h f (a ++ b) = pickNodes h f a ++ pickNodes h f b
 | [], b => rfl
 | id :: r, b => by
  simp only [List.cons_append, pickNodes]
  split
  ·rw [pick_append r b, List.cons_append]
  ·exact pick_append r b
theorem gc_length {h : Heap} {roots : List AVal} : (gcList m h (idsL roots)).length ≤ m + (gc m h roots).2.length := by
 simp only [gc]
 generalize hl : gcList m h (idsL roots) = l
 have hpl : (pickNodes h (place l 0) ((present h (reach h reachFuel (List.range m ++ idsL roots) [])).filter (m ≤ ·))).length = ((present h (reach h reachFuel (List.range m ++ idsL roots) [])).filter (m ≤ ·)).length := by
  refine pick_length fun id hid => ⟨present_some (List.mem_filter.1 hid).1, ?_⟩
  have : id ∈ l := by
   rw [← hl]
   exact List.mem_append_right _ hid
  obtain ⟨k, hk⟩ := place_some (n := 0) this
  simp [hk]
 have : l = List.range m ++ (present h (reach h reachFuel (List.range m ++ idsL roots) [])).filter (m ≤ ·) := hl.symm
 have h2 : (pickNodes h (place l 0) l).length = (pickNodes h (place l 0) (List.range m)).length + (pickNodes h (place l 0) ((present h (reach h reachFuel (List.range m ++ idsL roots) [])).filter (m ≤ ·))).length := by
  conv => lhs; rw [show pickNodes h (place l 0) l = pickNodes h (place l 0) (List.range m ++ (present h (reach h reachFuel (List.range m ++ idsL roots) [])).filter (m ≤ ·)) from congrArg _ this]
  rw [pick_append, List.length_append]
 have h3 : l.length = m + ((present h (reach h reachFuel (List.range m ++ idsL roots) [])).filter (m ≤ ·)).length := by
  conv => lhs; rw [this]
  simp
 omega
theorem Holds.gc (hfresh : ∀ id, m ≤ id → ι0 id = none) (live : List Nat) (hH : Holds gl ι0 S0 T h0 w0 env heap next a w) :
  Holds gl ι0 S0 T h0 w0 (Abs.gc m heap (mask live 0 env)).1 (Abs.gc m heap (mask live 0 env)).2 (Free.above (m + (Abs.gc m heap (mask live 0 env)).2.length)) a w := by
 obtain ⟨ι, S, hi, henv, hst, hdf⟩ := hH
 obtain ⟨ι', g1, g2, g3⟩ := gc_sound (roots := mask live 0 env) hi hst hfresh
 refine ⟨ι', S, g1.mono (fun id hid => Nat.le_trans gc_length hid), ⟨⟨henv.1.1, ?_⟩, fun i c v hc hv => ?_⟩, g2, hdf⟩
 ·simp only [Abs.gc]
  rw [renL_length, mask_length, henv.1.2]
 ·simp only [Abs.gc] at hc
  obtain ⟨c0, hc0, rfl⟩ := ren_of_get hc
  obtain ⟨c1, hc1, hcc⟩ := mask_get live env 0 i c0 hc0
  refine g3 c0 v ?_
  rcases hcc with rfl | rfl
  ·exact henv.2 i _ v hc1 hv
  ·exact .junk _
theorem exec_sound (hmix : P.follows .mixedOrders = true) (hW : ∀ g args h r sub, C.run g args h = some (r, sub) → (sub.map (·.1)).Nodup) (hC : Meets P G C.run) (hG : ∀ ι S h w, Step ι0 S0 T h0 w0 ι S h w → G S w) {k : Nat} (hfresh : ∀ id, m ≤ id → ι0 id = none) : ∀ (c : ACode) {code : Code} {st st' : ASt} {e : AExit} {a : Act} {w : World}, Match gl P ts c code → execC C m k c st = some (e, st') →
  Holds gl ι0 S0 T h0 w0 st.env st.heap (Free.above st.next) a w → code.wp P (Comes gl ι0 S0 T h0 w0 e st') a w := by
 intro c
 induction c with
 | skip =>
  intro code st st' e a w hm hs hH
  cases code <;> simp only [Match] at hm
  simp [execC] at hs
  obtain ⟨rfl, rfl⟩ := hs
  exact wp_skip ⟨rfl, hH⟩
 | reg d ps aops =>
  intro code st st' e a w hm hs hH
  cases code <;> simp only [Match] at hm
  obtain ⟨rfl, ht, hps⟩ := hm
  rename_i id ops draw
  cases draw with
  | true =>
   simp only [execC] at hs
   split at hs <;> try (simp at hs; done)
   rename_i st1 fs h1
   split at hs <;> simp only [Option.some.injEq, Prod.mk.injEq, reduceCtorEq] at hs
   rename_i hall
   obtain ⟨rfl, rfl⟩ := hs
   exact region_sound hmix hC hG hW ht (hps rfl) h1 hall hH fun a' w' hH' => ⟨rfl, hH'⟩
  | false =>
   simp only [execC] at hs
   obtain ⟨st1, h1, h2⟩ := map_some hs
   simp at h2
   obtain ⟨rfl, rfl⟩ := h2
   refine wp_region ?_
   have := runOps_sound (Q := Comes gl ι0 S0 T h0 w0 .norm st1) hC hG (i := 0) ht (fun j o hj => by simpa using hj) h1 hH fun a' w' hH' => ⟨rfl, hH'⟩
   rwa [← List.range_eq_range', Array.length_toList] at this
 | seq x y ihx ihy =>
  intro code st st' e a w hm hs hH
  cases code <;> simp only [Match] at hm
  simp only [execC] at hs
  split at hs
  ·rename_i st1 hx
   refine wp_seq (wp_mono (ihx hm.1 hx hH) fun e' a' w' hq => ?_)
   obtain ⟨rfl, hH'⟩ := hq
   exact ihy hm.2 hs hH'
  ·rename_i hne
   refine wp_seq (wp_mono (ihx hm.1 hs hH) fun e' a' w' hq => ?_)
   obtain ⟨rfl, hH'⟩ := hq
   cases e with
   | norm => exact (hne _ hs).elim
   | exit id => exact ⟨rfl, hH'⟩
   | ret => exact ⟨rfl, hH'⟩
 | cond x y z ihy ihz =>
  intro code st st' e a w hm hs hH
  cases code <;> simp only [Match] at hm
  simp only [execC] at hs
  split at hs <;> try (simp at hs; done)
  rename_i b hb
  have hr := hH
  obtain ⟨ι, S, hi, henv, _⟩ := hr
  have hv := opd_rep henv hm.1
  rw [hb] at hv
  refine wp_cond hv.bool_inv ?_
  cases b with
  | true => exact ihy hm.2.1 (by simpa using hs) hH
  | false => exact ihz hm.2.2 (by simpa using hs) hH
 | block id x ih =>
  intro code st st' e a w hm hs hH
  cases code <;> simp only [Match] at hm
  obtain ⟨rfl, hm⟩ := hm
  simp only [execC] at hs
  split at hs
  ·rename_i i st1 hx
   simp at hs
   obtain ⟨rfl, rfl⟩ := hs
   refine wp_block (wp_mono (ih hm hx hH) fun e' a' w' hq => ?_)
   obtain ⟨rfl, hH'⟩ := hq
   simp only [AExit.real, Exit.inBlock]
   split
   ·rename_i hid
    subst hid
    exact ⟨by simp [AExit.real], hH'⟩
   ·rename_i hid
    exact ⟨by simp [AExit.real, hid], hH'⟩
  ·rename_i hne
   refine wp_block (wp_mono (ih hm hs hH) fun e' a' w' hq => ?_)
   obtain ⟨rfl, hH'⟩ := hq
   cases e with
   | norm => exact ⟨rfl, hH'⟩
   | exit id => exact (hne _ _ hs).elim
   | ret => exact ⟨rfl, hH'⟩
 | loop live x ih =>
  intro code st st' e a w hm hs hH
  cases code <;> simp only [Match] at hm
  rename_i body
  simp only [execC] at hs
  refine wp_rounds (fun n a w => ∃ st, Holds gl ι0 S0 T h0 w0 st.env st.heap (Free.above st.next) a w ∧ rounds m live (execC C m k x) n st = some (e, st')) (fun n a w hI => ?_) ⟨st, hH, hs⟩
  obtain ⟨st1, hH1, hr⟩ := hI
  cases n with
  | zero => simp [rounds] at hr
  | succ n =>
   simp only [rounds] at hr
   have hg := hH1.gc hfresh live
   split at hr
   ·rename_i st2 hx
    refine wp_mono (ih (st := ⟨_, _, _⟩) hm hx hg) fun e' a' w' hq => ?_
    obtain ⟨rfl, hH'⟩ := hq
    exact ⟨n, Nat.lt_succ_self n, st2, hH', hr⟩
   ·rename_i hne
    refine wp_mono (ih (st := ⟨_, _, _⟩) hm hr hg) fun e' a' w' hq => ?_
    obtain ⟨rfl, hH'⟩ := hq
    cases e with
    | norm => exact (hne _ hr).elim
    | exit id => exact ⟨rfl, hH'⟩
    | ret => exact ⟨rfl, hH'⟩
 | exit id =>
  intro code st st' e a w hm hs hH
  cases code <;> simp only [Match] at hm
  subst hm
  simp [execC] at hs
  obtain ⟨rfl, rfl⟩ := hs
  exact wp_exit ⟨rfl, hH⟩
 | ret =>
  intro code st st' e a w hm hs hH
  cases code <;> simp only [Match] at hm
  simp [execC] at hs
  obtain ⟨rfl, rfl⟩ := hs
  exact wp_ret ⟨rfl, hH⟩
end
end Go.Abs
