import Derived.Test.YtambgnjkakdoeaaGreatDoorArchives4
import Derived.IntWalk
/- PART OF A PROOF (texts joined by a program): S18 S19 T1 T5 T2. -/
set_option linter.unusedVariables false
set_option linter.unusedSimpArgs false
set_option linter.unusedSectionVars false
namespace Go.Abs
section
variable {gl : Globs} {P : Program} {ι ι0 : Emb} {S S0 T : Nat → Prop} {h0 h : Heap} {w0 w w' : World} {C : Calls} {ts : List TypeId} {a : Act} {env : List AVal} {heap : Heap} {next next' : Free} {nid m : Nat} {Q : Exit → Act → World → Prop} {G : (Nat → Prop) → World → Prop}
def resOf (tmps : Array Value) : ResultVar → Sem Value
 | .tmp t => pure (tmps.getD t undef)
 | .cell a t => do loadVar t (← asAddr (tmps.getD a undef))
theorem results_eq (fn : Func) (tmps : Array Value) : results fn tmps = (fn.results.toList.mapM (resOf tmps) >>= fun vs =>
  pure (if h : vs.toArray.size = 1 then vs.toArray[0] else .tuple vs.toArray)) := by
 unfold results
 rw [Array.mapM_eq_mapM_toList]
 simp only [bind_map_left]
 rfl
theorem getRes_sound : ∀ {rs : List ResultVar} {l : List (Nat × Option (Nat × Bool))} {vs : List AVal}, trRes P rs = some l → getRes env h l = some vs → Inv ι S T h w next → EnvRep gl ι S T w env a.tmps →
  ∃ us : List Value, (rs.mapM (resOf a.tmps)).run P w = .ok us w ∧ us.length = vs.length ∧ ∀ (i : Nat) (c : AVal) (v : Value), vs[i]? = some c → us[i]? = some v → Rep ι S T w c v
 | [], l, vs, ht, hv, hi, henv => by
  simp [trRes] at ht
  subst ht
  simp [getRes] at hv
  subst hv
  exact ⟨[], by simp, rfl, by simp⟩
 | .tmp t :: r, l, vs, ht, hv, hi, henv => by
  simp only [trRes] at ht
  obtain ⟨l', hl', rfl⟩ := map_some ht
  simp only [getRes] at hv
  obtain ⟨vs', hv', rfl⟩ := map_some hv
  obtain ⟨us, h1, h2, h3⟩ := getRes_sound hl' hv' hi henv
  refine ⟨a.tmps.getD t undef :: us, ?_, by simp [h2], fun i c v hc hv => ?_⟩
  ·simp [List.mapM_cons, resOf, h1]
  ·cases i with
   | zero =>
    simp at hc hv
    subst hc; subst hv
    have := henv.getD t
    simpa using this
   | succ i => exact h3 i c v (by simpa using hc) (by simpa using hv)
 | .cell t ty :: r, l, vs, ht, hv, hi, henv => by
  simp only [trRes] at ht
  split at ht <;> simp at ht
  rename_i s l' hs hl'
  subst ht
  obtain ⟨sz, agg⟩ := s
  simp only [getRes] at hv
  split at hv <;> try (simp at hv; done)
  rename_i id o hb
  split at hv <;> try (simp at hv; done)
  rename_i cs hg
  split at hv <;> simp at hv
  rename_i x vs' hx hv'
  subst hv
  obtain ⟨us, h1, h2, h3⟩ := getRes_sound hl' hv' hi henv
  have hr := henv.getD t
  rw [hb] at hr
  obtain ⟨L, hp, hL⟩ := hr.ptr_inv
  obtain ⟨L', hL', _, _, hnode⟩ := hi.get hg
  rw [hL] at hL'; cases hL'
  obtain ⟨arr, ty', n1, n2, n3⟩ := hnode
  have hld := load_sound (P := P) (b := L.block) (o := 0) hs hx (fun j y hy => by
   have hlt : j < arr.size := by have := (List.getElem?_eq_some_iff.1 hy).1; omega
   refine ⟨arr[j], ?_, n3 j y _ hy (by simp [hlt])⟩
   rw [Nat.zero_add, cell_of_row w _ _ arr ty' (0, 0) n1]
   simp [hlt])
  obtain ⟨u, hu, hru⟩ := hld
  rw [Nat.zero_add] at hu
  refine ⟨u :: us, ?_, by simp [h2], fun i c v hc hv => ?_⟩
  ·simp [List.mapM_cons, resOf, hp, asAddr, hu, h1]
  ·cases i with
   | zero =>
    simp at hc hv
    subst hc; subst hv
    exact hru
   | succ i => exact h3 i c v (by simpa using hc) (by simpa using hv)
theorem finish_sound {fn : Func} {afn : AFn} (hfn : trRes P fn.results.toList = some afn.results) {st : ASt} {r : AVal} {h' : Heap} (hs : finish afn m st = some (r, h')) (hfresh : ∀ id, m ≤ id → ι0 id = none)
  (hH : Holds gl ι0 S0 T h0 w0 st.env st.heap (Free.above st.next) a w) : a.defers = [] ∧ ∃ v, (results fn a.tmps).run P w = .ok v w ∧ Back ι0 S0 T h0 w0 r h' v w := by
 obtain ⟨ι, S, hi, henv, hst, hdf⟩ := hH
 refine ⟨hdf, ?_⟩
 unfold finish at hs
 split at hs <;> try (simp at hs; done)
 rename_i vs hv
 simp only [Option.some.injEq, Prod.mk.injEq] at hs
 obtain ⟨rfl, rfl⟩ := hs
 obtain ⟨us, h1, h2, h3⟩ := getRes_sound hfn hv hi henv
 obtain ⟨ι', g1, g2, g3⟩ := gc_sound (roots := vs) hi hst hfresh
 have hrun : (results fn a.tmps).run P w = .ok (if h : us.toArray.size = 1 then us.toArray[0] else .tuple us.toArray) w := by
  rw [results_eq]; simp only [Sem.run_bind, h1, Result.andThen_ok, Sem.run_pure]
 refine ⟨_, hrun, ?_⟩
 refine ⟨ι', S, _, ?_, g1, g2⟩
 simp only [gc]
 have hget : ∀ (i : Nat) (c : AVal) (v : Value), (renL (place (gcList m st.heap (idsL vs)) 0) vs)[i]? = some c → us[i]? = some v → Rep ι' S T w c v := by
  intro i c v hc hv
  obtain ⟨c0, hc0, rfl⟩ := ren_of_get hc
  exact g3 c0 v (h3 i c0 v hc0 hv)
 have hlen : (renL (place (gcList m st.heap (idsL vs)) 0) vs).length = us.length := by rw [renL_length, h2]
 generalize renL (place (gcList m st.heap (idsL vs)) 0) vs = ws at hget hlen
 split
 ·rename_i v0
  obtain ⟨u, rfl⟩ := List.length_eq_one_iff.1 hlen.symm
  exact hget 0 v0 u rfl rfl
 ·rename_i hne
  have h1 : us.toArray.size ≠ 1 := by
   intro h1
   simp at h1
   obtain ⟨v0, rfl⟩ := List.length_eq_one_iff.1 (show ws.length = 1 by omega)
   exact hne v0 rfl
  rw [dif_neg h1]
  exact .tuple _ _ (by simpa using hlen) fun i c v hc hv => hget i c v hc (by simpa using hv)
theorem enter_rep (hgl : GlobOK gl S w) {args : List AVal} {vals : Array Value} {n : Nat} (hl : args.length = vals.size) (hr : ∀ (i : Nat) (c : AVal) (v : Value), args[i]? = some c → vals[i]? = some v → Rep ι S T w c v) :
  EnvRep gl ι S T w (args ++ List.replicate (n - args.length) .undef) (vals ++ Array.replicate (n - vals.size) undef) := by
 refine ⟨⟨hgl, by simp [hl]⟩, fun i c v hc hv => ?_⟩
 by_cases hlt : i < args.length
 ·rw [List.getElem?_append_left hlt] at hc
  rw [Array.getElem?_append_left (by omega)] at hv
  exact hr i c v hc hv
 ·rw [List.getElem?_append_right (by omega)] at hc
  rw [Array.getElem?_append_right (by omega)] at hv
  rw [List.getElem?_replicate] at hc
  rw [Array.getElem?_replicate] at hv
  split at hc <;> simp at hc
  split at hv <;> simp at hv
  subst hc; subst hv
  exact .lit _
def Stable (G : (Nat → Prop) → World → Prop) : Prop := ∀ S S' w w', G S w → (∀ b, S b → S' b) → (∀ b, S b → w'.heap[b]? = w.heap[b]?) → G S' w'
theorem runFn_sound (hmix : P.follows .mixedOrders = true) (hW : ∀ g args h r sub, C.run g args h = some (r, sub) → (sub.map (·.1)).Nodup) (hC : Meets P G C.run) (hst : Stable G) (hgg : ∀ S w, G S w → GlobOK gl S w) (hg : G S w) {g k : Nat} {fn : Func} {afn : AFn} (hf : P.funcs[g]? = some fn) (hname : (fn.name == "runtime.NumGoroutine") = false) (ht : trFn gl P ts fn = some afn) {args : List AVal} {r : AVal} {h' : Heap} (hs : runFn C k afn args h = some (r, h'))
  (hi : Inv ι S T h w (Free.above h.length)) {vals : Array Value} (hl : args.length = vals.size) (hr : ∀ (i : Nat) (c : AVal) (v : Value), args[i]? = some c → vals[i]? = some v → Rep ι S T w c v) : CallOK P g vals w (Back ι S T h w r h') := by
 unfold trFn at ht
 split at ht <;> try (simp at ht; done)
 rename_i c hb
 split at ht <;> simp at ht
 rename_i ac rs hc hrs
 subst ht
 have hfn : trRes P fn.results.toList = some rs := hrs
 have hm := ann_match (rs := rs.map (·.1)) (out := norm (rs.map (·.1))) (tr_match hc)
 have hrun : (callFunc g vals).run P w = .ok (.enter g vals) w := by
  have hn : ¬ fn.name = "runtime.NumGoroutine" := by simpa using hname
  simp [callFunc, hf, hn, hb]
 unfold CallOK
 rw [hrun]
 refine calls_of_wp hf hb ?_
 unfold runFn at hs
 split at hs <;> try (simp at hs; done)
 rename_i hnp
 simp only at hs
 have hH : Holds gl ι S T h w (args ++ List.replicate (fn.ntmps - args.length) .undef) h (Free.above h.length) { tmps := vals ++ Array.replicate (fn.ntmps - vals.size) undef, defers := [] } w :=
  ⟨ι, S, hi, enter_rep (hgg _ _ hg) hl hr, .refl _ _ _ _ _, rfl⟩
 split at hs <;> try (simp at hs; done)
 all_goals
  rename_i st hx
  refine wp_mono (exec_sound (st := ⟨_, _, _⟩) hmix hW hC (fun ι' S' h' w' st => hst _ _ _ _ hg st.s fun b hb => hi.stable st b (.inl hb)) hi.fresh _ hm hx hH) fun e a' w' hq => ?_
  obtain ⟨rfl, hH'⟩ := hq
  exact finish_sound (afn := ⟨_, _, _, _⟩) hfn hs hi.fresh hH'
end
structure AProg.Of (A : AProg) (gl : Globs) (P : Program) (ts : List TypeId) (G : (Nat → Prop) → World → Prop) : Prop where
 mix : P.follows .mixedOrders = true
 stable : Stable G
 glob : ∀ S w, G S w → GlobOK gl S w
 fn : ∀ g afn, A.fn g = some afn → ∃ fn, P.funcs[g]? = some fn ∧ (fn.name == "runtime.NumGoroutine") = false ∧ trFn gl P ts fn = some afn
 prim : ∀ g p, A.prim g = some p → ∀ args r, p args = some r → ∀ ι S T w (vals : Array Value), G S w → Inv ι S T [] w (Free.above 0) → args.length = vals.size → (∀ (i : Nat) (c : AVal) (v : Value), args[i]? = some c → vals[i]? = some v → Rep ι S T w c v) →
  CallOK P g vals w (Back ι S T [] w r [])
 primh : ∀ g p, A.primh g = some p → ∀ args h r h', p args h = some (r, h') → ∀ ι S T w (vals : Array Value), G S w → Inv ι S T h w (Free.above h.length) → args.length = vals.size → (∀ (i : Nat) (c : AVal) (v : Value), args[i]? = some c → vals[i]? = some v → Rep ι S T w c v) →
  CallOK P g vals w (Back ι S T h w r h')
theorem place_inj : ∀ {l : List Nat} {n id id' k : Nat}, place l n id = some k → place l n id' = some k → id = id'
 | [], n, id, id', k, h, _ => by simp [place] at h
 | x :: r, n, id, id', k, h, h' => by
  have ge : ∀ {l : List Nat} {n id k : Nat}, place l n id = some k → n ≤ k := by
   intro l
   induction l with
   | nil => intro n id k h; simp [place] at h
   | cons y t ih =>
    intro n id k h
    simp only [place] at h
    split at h
    ·simp at h; omega
    ·have := ih h; omega
  simp only [place] at h h'
  split at h
  ·rename_i hx
   split at h'
   ·rename_i hx'
    rw [← hx, ← hx']
   ·simp at h
    have := ge h'
    omega
  ·split at h'
   ·simp at h'
    have := ge h
    omega
   ·exact place_inj h h'
theorem callF_nodup {A : AProg} : ∀ k g args h r sub, callF A k g args h = some (r, sub) → (sub.map (·.1)).Nodup
 | 0, g, args, h, r, sub, hs => by simp [callF] at hs
 | k + 1, g, args, h, r, sub, hs => by
  simp only [callF] at hs
  split at hs
  ·split at hs <;> simp at hs
   obtain ⟨_, _, _, rfl⟩ := hs
   simp
  ·split at hs
   case h_2 =>
    split at hs <;> try (simp at hs; done)
    split at hs <;> try (simp at hs; done)
    split at hs <;> simp at hs
    rename_i hn
    obtain ⟨_, rfl⟩ := hs
    exact hn
   have fin : ∀ {fn : AFn} {m : Nat} {st : ASt}, finish fn m st = some (r, sub) → (sub.map (·.1)).Nodup := by
    intro fn m st h
    unfold finish at h
    split at h <;> simp only [Option.some.injEq, Prod.mk.injEq, reduceCtorEq] at h
    obtain ⟨_, rfl⟩ := h
    unfold gc
    exact pick_nodup (fun _ _ _ h1 h2 => place_inj h1 h2) (gcList_nodup _ _)
   unfold runFn at hs
   split at hs <;> try (simp at hs; done)
   simp only at hs
   split at hs <;> try (simp at hs; done)
   all_goals exact fin hs
theorem callF_sound {A : AProg} {gl : Globs} {P : Program} {ts : List TypeId} {G : (Nat → Prop) → World → Prop} (hA : A.Of gl P ts G) : ∀ k, Meets P G (callF A k)
 | 0 => fun g args h r h' hs => by simp [callF] at hs
 | k + 1 => fun g args h r h' hs ι S T w vals hg hi hl hr => by
  simp only [callF] at hs
  split at hs
  ·rename_i p hp
   split at hs <;> simp at hs
   rename_i he
   obtain ⟨r', hpr, rfl, rfl⟩ := hs
   have : h = [] := by simpa using he
   subst this
   exact hA.prim g p hp args r' hpr ι S T w vals hg hi hl hr
  ·split at hs
   case h_2 =>
    split at hs <;> try (simp at hs; done)
    rename_i p hp
    split at hs <;> try (simp at hs; done)
    rename_i r' h2 hpr
    split at hs <;> simp at hs
    obtain ⟨rfl, rfl⟩ := hs
    exact hA.primh g p hp args _ r' h2 hpr ι S T w vals hg hi hl hr
   rename_i afn hfn
   obtain ⟨fn, h1, h2, h3⟩ := hA.fn g afn hfn
   exact runFn_sound (C := { moves := A.moves, run := callF A k }) hA.mix (callF_nodup k) (callF_sound hA k) hA.stable hA.glob hg h1 h2 h3 hs hi hl hr
end Go.Abs
namespace Go.Abs
structure Calls.Le (C D : Calls) : Prop where
 moves : C.moves = D.moves
 run : ∀ g args h r, C.run g args h = some r → D.run g args h = some r
section
variable {C D : Calls} {f : AVal} {args : List AVal} {nid m k k' : Nat} {h : Heap} {o : AOper} {st st' : ASt} {live : List Nat}
theorem callStep0_mono (hle : C.Le D) {r : AVal × Heap} (hs : callStep0 C f args nid h = some r) : callStep0 D f args nid h = some r := by
 obtain ⟨m1, r1⟩ := C
 obtain ⟨m2, r2⟩ := D
 obtain ⟨e, hr⟩ := hle
 simp only at e hr
 subst e
 unfold callStep0 at hs ⊢
 split at hs <;> try (simp at hs; done)
 rename_i g caps
 simp only at hs ⊢
 split at hs <;> try (simp at hs; done)
 rename_i a ha
 simp only [ha]
 split at hs <;> try (simp at hs; done)
 rename_i hn
 rw [if_neg hn]
 split at hs <;> try (simp at hs; done)
 rename_i r0 sub hrun
 rw [hr _ _ _ _ hrun]
 exact hs
theorem callStep_mono (hle : C.Le D) {r : AVal × Heap} (hs : callStep C f args nid h = some r) : callStep D f args nid h = some r := by
 obtain ⟨h1, h2⟩ := callStep_some hs
 have h3 := callStep0_mono hle h1
 have e : callFp D f args h = callFp C f args h := by
  obtain ⟨e, _⟩ := hle
  unfold callFp
  rw [e]
 unfold callStep
 rw [h3, e]
 exact if_neg h2
theorem stepOp_mono (hle : C.Le D) (hs : stepOp C o nid st = some st') : stepOp D o nid st = some st' := by
 have go : ∀ x : ASt, (match o.op with
   | .call f args => (callStep C (f.ev st.env) (args.map (·.ev st.env)) nid st.heap).map fun (v, h) => ({ st with env := setAt o.dst v st.env, heap := h } : ASt)
   | op => (aop op st.env nid st.heap).map fun (v, h) => { st with env := setAt o.dst v st.env, heap := h }) = some x → (match o.op with
   | .call f args => (callStep D (f.ev st.env) (args.map (·.ev st.env)) nid st.heap).map fun (v, h) => ({ st with env := setAt o.dst v st.env, heap := h } : ASt)
   | op => (aop op st.env nid st.heap).map fun (v, h) => { st with env := setAt o.dst v st.env, heap := h }) = some x := by
  intro x hx
  generalize o.op = op at hx ⊢
  cases op
  case call f args =>
   simp only at hx ⊢
   obtain ⟨y, h1, h2⟩ := map_some hx
   rw [callStep_mono hle h1]
   simpa using h2
  all_goals exact hx
 unfold stepOp at hs ⊢
 simp only at hs ⊢
 split at hs
 ·exact go _ hs
 ·split at hs
  ·split at hs
   ·rename_i h1 _ h2
    simp only [h2, if_true]
    exact go _ hs
   ·rename_i h1 _ h2
    simp only [h2, if_false]
    exact hs
  ·exact hs
  ·simp at hs
theorem runOps_mono (hle : C.Le D) : ∀ {l : List AOper} {nid : Nat} {st st' : ASt}, runOps C l nid st = some st' → runOps D l nid st = some st'
 | [], _, _, _, h => h
 | o :: r, nid, st, st', h => by
  simp only [runOps] at h ⊢
  split at h <;> try (simp at h; done)
  rename_i st1 h1
  rw [stepOp_mono hle h1]
  exact runOps_mono hle h
theorem foot_moves (hm : C.moves = D.moves) : footOf C o st = footOf D o st := by
 obtain ⟨m1, r1⟩ := C
 obtain ⟨m2, r2⟩ := D
 simp only at hm
 subst hm
 rfl
theorem runFeet_mono (hle : C.Le D) : ∀ {l : List AOper} {nid : Nat} {st : ASt} {x : ASt × List Foot}, runFeet C l nid st = some x → runFeet D l nid st = some x
 | [], _, _, _, h => h
 | o :: r, nid, st, x, h => by
  simp only [runFeet] at h ⊢
  split at h <;> try (simp at h; done)
  rename_i st1 h1
  rw [stepOp_mono hle h1]
  simp only
  split at h <;> try (simp at h; done)
  rename_i st2 fs h2
  rw [runFeet_mono hle h2]
  simp only
  rw [← foot_moves hle.moves]
  exact h
theorem rounds_mono {body body' : ASt → Option (AExit × ASt)} (hb : ∀ st x, body st = some x → body' st = some x) : ∀ {k k' : Nat} {st : ASt} {x : AExit × ASt}, k ≤ k' → rounds m live body k st = some x → rounds m live body' k' st = some x
 | 0, _, _, _, _, h => by simp [rounds] at h
 | k + 1, k', st, x, hk, h => by
  obtain ⟨j, rfl⟩ : ∃ j, k' = j + 1 := ⟨k' - 1, by omega⟩
  simp only [rounds] at h ⊢
  split at h
  ·rename_i st1 h1
   rw [hb _ _ h1]
   exact rounds_mono hb (by omega) h
  ·rename_i hne
   rw [hb _ _ h]
   split
   ·rename_i st1 h1
    simp only [Option.some.injEq] at h1
    exact (hne st1 (by rw [h, h1])).elim
   ·rfl
theorem execC_mono (hle : C.Le D) (hk : k ≤ k') : ∀ {c : ACode} {st : ASt} {x : AExit × ASt}, execC C m k c st = some x → execC D m k' c st = some x := by
 intro c
 induction c with
 | skip => intro st x h; exact h
 | exit id => intro st x h; exact h
 | ret => intro st x h; exact h
 | reg d ps ops =>
  intro st x h
  cases d with
  | false =>
   simp only [execC] at h ⊢
   obtain ⟨y, h1, h2⟩ := map_some h
   rw [runOps_mono hle h1]
   simpa using h2
  | true =>
   simp only [execC] at h ⊢
   split at h <;> try (simp at h; done)
   rename_i st1 fs h1
   rw [runFeet_mono hle h1]
   exact h
 | seq a b iha ihb =>
  intro st x h
  simp only [execC] at h ⊢
  split at h
  ·rename_i st1 h1
   rw [iha h1]
   exact ihb h
  ·rename_i hne
   rw [iha h]
   split
   ·rename_i st1 h1
    simp only [Option.some.injEq] at h1
    exact (hne st1 (by rw [h, h1])).elim
   ·rfl
 | cond c a b iha ihb =>
  intro st x h
  simp only [execC] at h ⊢
  split at h <;> try (simp at h; done)
  split at h
  ·rename_i t _ ht
   simp only [ht, if_true]
   exact iha h
  ·rename_i t _ ht
   simp only [ht]
   exact ihb h
 | block id a ih =>
  intro st x h
  simp only [execC] at h ⊢
  split at h
  ·rename_i i st1 h1
   rw [ih h1]
   exact h
  ·rename_i hne
   rw [ih h]
   split
   ·rename_i i st1 h1
    simp only [Option.some.injEq] at h1
    exact (hne i st1 (by rw [h, h1])).elim
   ·rfl
 | loop l a ih =>
  intro st x h
  simp only [execC] at h ⊢
  exact rounds_mono (fun st x h => ih h) hk h
theorem runFn_mono (hle : C.Le D) (hk : k ≤ k') {fn : AFn} {x : AVal × Heap} (h1 : runFn C k fn args h = some x) : runFn D k' fn args h = some x := by
 unfold runFn at h1 ⊢
 split at h1 <;> try (simp at h1; done)
 rename_i hn
 rw [if_pos hn]
 simp only at h1 ⊢
 split at h1 <;> try (simp at h1; done)
 all_goals
  rename_i st1 h2
  rw [execC_mono hle hk h2]
  exact h1
end
section
variable {A : AProg} {m : Nat} {o : AOper} {st st' : ASt} {args : List AVal} {h : Heap}
theorem callF_mono : ∀ {k k' g : Nat} {args : List AVal} {h : Heap} {x : AVal × Heap}, k ≤ k' → callF A k g args h = some x → callF A k' g args h = some x
 | 0, _, _, _, _, _, _, h => by simp [callF] at h
 | k + 1, k', g, args, hp, x, hk, h => by
  obtain ⟨j, rfl⟩ : ∃ j, k' = j + 1 := ⟨k' - 1, by omega⟩
  simp only [callF] at h ⊢
  split at h
  ·exact h
  ·split at h
   case h_2 => exact h
   exact runFn_mono (k := k) (k' := j) (C := ⟨A.moves, callF A k⟩) (D := ⟨A.moves, callF A j⟩) ⟨rfl, fun g args hp r hr => callF_mono (by omega) hr⟩ (by omega) h
open Classical in
noncomputable def callT (A : AProg) (g : Nat) (args : List AVal) (h : Heap) : Option (AVal × Heap) :=
 if hx : ∃ r k, callF A k g args h = some r then some (Classical.choose hx) else none
theorem callT_iff {g : Nat} {x : AVal × Heap} : callT A g args h = some x ↔ ∃ k, callF A k g args h = some x := by
 unfold callT
 split
 ·rename_i hx
  obtain ⟨k, hk⟩ := Classical.choose_spec hx
  constructor
  ·intro he
   simp only [Option.some.injEq] at he
   exact ⟨k, he ▸ hk⟩
  ·rintro ⟨k', hk'⟩
   have a := callF_mono (Nat.le_max_left k k') hk
   have b := callF_mono (Nat.le_max_right k k') hk'
   rw [a] at b
   exact b
 ·rename_i hx
  constructor
  ·intro h; cases h
  ·rintro ⟨k, hk⟩
   exact (hx ⟨x, k, hk⟩).elim
noncomputable def AProg.C (A : AProg) : Calls := ⟨A.moves, callT A⟩
def AProg.F (A : AProg) (k : Nat) : Calls := ⟨A.moves, callF A k⟩
theorem AProg.F_le {k k' : Nat} (hk : k ≤ k') : (A.F k).Le (A.F k') := ⟨rfl, fun _ _ _ _ h => callF_mono hk h⟩
theorem callT_sound {gl : Globs} {P : Program} {ts : List TypeId} {G : (Nat → Prop) → World → Prop} (hA : A.Of gl P ts G) : Meets P G (callT A) := by
 intro g args h r h' hs
 obtain ⟨k, hk⟩ := callT_iff.1 hs
 exact callF_sound hA k g args h r h' hk
theorem callStep0_cont {f : AVal} {nid : Nat} {r : AVal × Heap} (hs : callStep0 A.C f args nid h = some r) : ∃ k, callStep0 (A.F k) f args nid h = some r := by
 unfold callStep0 at hs
 split at hs <;> try (simp at hs; done)
 rename_i g caps
 simp only at hs
 split at hs <;> try (simp at hs; done)
 rename_i a ha
 split at hs <;> try (simp at hs; done)
 rename_i hn
 split at hs <;> try (simp at hs; done)
 rename_i r0 sub hrun
 obtain ⟨k, hk⟩ := callT_iff.1 hrun
 refine ⟨k, ?_⟩
 unfold callStep0
 have ha' : (if (!(A.F k).moves g && !(ownIdsL (args ++ caps)).isEmpty) = true then lendL h (args ++ caps) else some (args ++ caps)) = some a := ha
 have hn' : ¬ (!(A.F k).moves g && !(ownIdsL (args ++ caps)).isEmpty && (ownIdsL (args ++ caps)).any (present h (reach h reachFuel (idsL a) [])).contains) = true := hn
 simp only [ha']
 rw [if_neg hn']
 have hk' : (A.F k).run g (renL (place (present h (reach h reachFuel (idsL a) [])) 0) a) (pickNodes h (place (present h (reach h reachFuel (idsL a) [])) 0) (present h (reach h reachFuel (idsL a) []))) = some (r0, sub) := hk
 rw [hk']
 exact hs
theorem callStep_cont {f : AVal} {nid : Nat} {r : AVal × Heap} (hs : callStep A.C f args nid h = some r) : ∃ k, callStep (A.F k) f args nid h = some r := by
 obtain ⟨h1, h2⟩ := callStep_some hs
 obtain ⟨k, hk⟩ := callStep0_cont h1
 refine ⟨k, ?_⟩
 unfold callStep
 rw [hk]
 exact if_neg h2
theorem stepOp_cont {nid : Nat} (hs : stepOp A.C o nid st = some st') : ∃ k, stepOp (A.F k) o nid st = some st' := by
 cases hop : o.op.isCall with
 | false =>
  refine ⟨0, ?_⟩
  rw [← hs]
  unfold stepOp
  cases hx : o.op <;> first | (simp [hx, AOp.isCall] at hop; done) | rfl
 | true =>
  obtain ⟨d, op, g⟩ := o
  cases op <;> simp [AOp.isCall] at hop
  rename_i f args
  unfold stepOp at hs
  simp only at hs
  by_cases hcall : ∃ r, callStep A.C (f.ev st.env) (args.map (·.ev st.env)) nid st.heap = some r
  ·obtain ⟨r, hr⟩ := hcall
   obtain ⟨k, hk⟩ := callStep_cont hr
   refine ⟨k, ?_⟩
   unfold stepOp
   simp only [hk]
   simp only [hr] at hs
   exact hs
  ·refine ⟨0, ?_⟩
   have hnone : callStep A.C (f.ev st.env) (args.map (·.ev st.env)) nid st.heap = none := by
    cases hc : callStep A.C (f.ev st.env) (args.map (·.ev st.env)) nid st.heap with
    | none => rfl
    | some r => exact (hcall ⟨r, hc⟩).elim
   simp only [hnone, Option.map_none] at hs
   unfold stepOp
   simp only
   split at hs
   ·simp at hs
   ·split at hs
    ·split at hs
     ·simp at hs
     ·rename_i hb
      simp only [hb, if_false]
      exact hs
    ·exact hs
    ·simp at hs
theorem runOps_cont : ∀ {l : List AOper} {nid : Nat} {st st' : ASt}, runOps A.C l nid st = some st' → ∃ k, runOps (A.F k) l nid st = some st'
 | [], _, _, _, h => ⟨0, h⟩
 | o :: r, nid, st, st', h => by
  simp only [runOps] at h
  split at h <;> try (simp at h; done)
  rename_i st1 h1
  obtain ⟨k1, h1⟩ := stepOp_cont h1
  obtain ⟨k2, h2⟩ := runOps_cont h
  refine ⟨max k1 k2, ?_⟩
  simp only [runOps]
  rw [stepOp_mono (AProg.F_le (Nat.le_max_left k1 k2)) h1]
  exact runOps_mono (AProg.F_le (Nat.le_max_right k1 k2)) h2
theorem runFeet_cont : ∀ {l : List AOper} {nid : Nat} {st : ASt} {x : ASt × List Foot}, runFeet A.C l nid st = some x → ∃ k, runFeet (A.F k) l nid st = some x
 | [], _, _, _, h => ⟨0, h⟩
 | o :: r, nid, st, x, h => by
  simp only [runFeet] at h
  split at h <;> try (simp at h; done)
  rename_i st1 h1
  split at h <;> try (simp at h; done)
  rename_i st2 fs h2
  obtain ⟨k1, h1⟩ := stepOp_cont h1
  obtain ⟨k2, h2⟩ := runFeet_cont h2
  refine ⟨max k1 k2, ?_⟩
  simp only [runFeet]
  rw [stepOp_mono (AProg.F_le (Nat.le_max_left k1 k2)) h1]
  simp only
  rw [runFeet_mono (AProg.F_le (Nat.le_max_right k1 k2)) h2]
  exact h
theorem rounds_cont {live : List Nat} {c : ACode} {n : Nat} (hb : ∀ {st : ASt} {x : AExit × ASt}, execC A.C m n c st = some x → ∃ k, execC (A.F k) m n c st = some x) : ∀ {j : Nat} {st : ASt} {x : AExit × ASt}, rounds m live (execC A.C m n c) j st = some x → ∃ k, rounds m live (execC (A.F k) m n c) j st = some x
 | 0, _, _, h => by simp [rounds] at h
 | j + 1, st, x, h => by
  simp only [rounds] at h
  split at h
  ·rename_i st1 h1
   obtain ⟨k1, h1⟩ := hb h1
   obtain ⟨k2, h2⟩ := rounds_cont hb h
   refine ⟨max k1 k2, ?_⟩
   simp only [rounds]
   rw [execC_mono (AProg.F_le (Nat.le_max_left k1 k2)) (Nat.le_refl _) h1]
   exact rounds_mono (fun st x h => execC_mono (AProg.F_le (Nat.le_max_right k1 k2)) (Nat.le_refl _) h) (Nat.le_refl _) h2
  ·rename_i hne
   obtain ⟨k1, h1⟩ := hb h
   refine ⟨k1, ?_⟩
   simp only [rounds]
   rw [h1]
   split
   ·rename_i st1 h2
    simp only [Option.some.injEq] at h2
    exact (hne st1 (by rw [h, h2])).elim
   ·rfl
theorem execC_cont {n : Nat} : ∀ {c : ACode} {st : ASt} {x : AExit × ASt}, execC A.C m n c st = some x → ∃ k, execC (A.F k) m n c st = some x := by
 intro c
 induction c with
 | skip => intro st x h; exact ⟨0, h⟩
 | exit id => intro st x h; exact ⟨0, h⟩
 | ret => intro st x h; exact ⟨0, h⟩
 | reg d ps ops =>
  intro st x h
  cases d with
  | false =>
   simp only [execC] at h
   obtain ⟨y, h1, h2⟩ := map_some h
   obtain ⟨k, h1⟩ := runOps_cont h1
   exact ⟨k, by simp only [execC]; rw [h1]; simpa using h2⟩
  | true =>
   simp only [execC] at h
   split at h <;> try (simp at h; done)
   rename_i st1 fs h1
   obtain ⟨k, h1⟩ := runFeet_cont h1
   exact ⟨k, by simp only [execC]; rw [h1]; exact h⟩
 | seq a b iha ihb =>
  intro st x h
  simp only [execC] at h
  split at h
  ·rename_i st1 h1
   obtain ⟨k1, h1⟩ := iha h1
   obtain ⟨k2, h2⟩ := ihb h
   refine ⟨max k1 k2, ?_⟩
   simp only [execC]
   rw [execC_mono (AProg.F_le (Nat.le_max_left k1 k2)) (Nat.le_refl _) h1]
   exact execC_mono (AProg.F_le (Nat.le_max_right k1 k2)) (Nat.le_refl _) h2
  ·rename_i hne
   obtain ⟨k1, h1⟩ := iha h
   refine ⟨k1, ?_⟩
   simp only [execC]
   rw [h1]
   split
   ·rename_i st1 h2
    simp only [Option.some.injEq] at h2
    exact (hne st1 (by rw [h, h2])).elim
   ·rfl
 | cond c a b iha ihb =>
  intro st x h
  simp only [execC] at h
  split at h <;> try (simp at h; done)
  rename_i t ht
  split at h
  ·rename_i ht2
   obtain ⟨k, h1⟩ := iha h
   exact ⟨k, by simp only [execC, ht, ht2, if_true]; exact h1⟩
  ·rename_i ht2
   obtain ⟨k, h1⟩ := ihb h
   exact ⟨k, by simp only [execC, ht, ht2]; exact h1⟩
 | block id a ih =>
  intro st x h
  simp only [execC] at h
  split at h
  ·rename_i i st1 h1
   obtain ⟨k, h1⟩ := ih h1
   exact ⟨k, by simp only [execC, h1]; exact h⟩
  ·rename_i hne
   obtain ⟨k, h1⟩ := ih h
   refine ⟨k, ?_⟩
   simp only [execC]
   rw [h1]
   split
   ·rename_i i st1 h2
    simp only [Option.some.injEq] at h2
    exact (hne i st1 (by rw [h, h2])).elim
   ·rfl
 | loop l a ih =>
  intro st x h
  simp only [execC] at h
  obtain ⟨k, hk⟩ := rounds_cont ih h
  exact ⟨k, by simp only [execC]; exact hk⟩
variable {K K' : AExit → ASt → Prop}
def ExecT (A : AProg) (m : Nat) (c : ACode) (st : ASt) (K : AExit → ASt → Prop) : Prop := ∃ n e st', execC A.C m n c st = some (e, st') ∧ K e st'
theorem C_le : A.C.Le A.C := ⟨rfl, fun _ _ _ _ h => h⟩
theorem callT_of {g : Nat} {fn : AFn} (hp : A.prim g = none) (hf : A.fn g = some fn) (hn : args.length = fn.np) {r : AVal} {h' : Heap}
  (hx : ExecT A h.length fn.body { env := args ++ List.replicate (fn.ntmps - args.length) .undef, heap := h, next := h.length } fun e st => (match e with | .exit _ => False | _ => finish fn h.length st = some (r, h'))) : callT A g args h = some (r, h') := by
 obtain ⟨n, e, st', h1, h2⟩ := hx
 obtain ⟨k, h1⟩ := execC_cont h1
 have h1 := execC_mono (AProg.F_le (Nat.le_max_left k n)) (Nat.le_max_right k n) h1
 refine callT_iff.2 ⟨max k n + 1, ?_⟩
 simp only [callF, hp, hf]
 unfold runFn
 rw [if_pos hn]
 simp only
 have h1' : execC { moves := A.moves, run := callF A (max k n) } h.length (max k n) fn.body { env := args ++ List.replicate (fn.ntmps - args.length) .undef, heap := h, next := h.length } = some (e, st') := h1
 rw [h1']
 cases e with
 | norm => exact h2
 | exit id => exact h2.elim
 | ret => exact h2
theorem callT_prim {g : Nat} {p : List AVal → Option AVal} {r : AVal} (hp : A.prim g = some p) (hr : p args = some r) : callT A g args [] = some (r, []) :=
 callT_iff.2 ⟨1, by simp [callF, hp, hr]⟩
theorem ExecT.mono {c : ACode} (hx : ExecT A m c st K) (hk : ∀ e st, K e st → K' e st) : ExecT A m c st K' := by
 obtain ⟨n, e, st', h1, h2⟩ := hx
 exact ⟨n, e, st', h1, hk _ _ h2⟩
theorem execT_skip : ExecT A m .skip st K ↔ K .norm st :=
 ⟨fun ⟨n, e, st', h1, h2⟩ => by simp [execC] at h1; obtain ⟨rfl, rfl⟩ := h1; exact h2, fun h => ⟨0, _, _, rfl, h⟩⟩
theorem execT_exit {id : Nat} : ExecT A m (.exit id) st K ↔ K (.exit id) st :=
 ⟨fun ⟨n, e, st', h1, h2⟩ => by simp [execC] at h1; obtain ⟨rfl, rfl⟩ := h1; exact h2, fun h => ⟨0, _, _, rfl, h⟩⟩
theorem execT_ret : ExecT A m .ret st K ↔ K .ret st :=
 ⟨fun ⟨n, e, st', h1, h2⟩ => by simp [execC] at h1; obtain ⟨rfl, rfl⟩ := h1; exact h2, fun h => ⟨0, _, _, rfl, h⟩⟩
def onNorm (e : AExit) (K : Prop) (K' : Prop) : Prop := match e with | .norm => K | _ => K'
theorem execT_seq {a b : ACode} : ExecT A m (.seq a b) st K ↔ ExecT A m a st fun e st' => match e with | .norm => ExecT A m b st' K | e => K e st' := by
 constructor
 ·rintro ⟨n, e, st', h1, h2⟩
  simp only [execC] at h1
  split at h1
  ·rename_i st1 h3
   exact ⟨n, _, _, h3, ⟨n, _, _, h1, h2⟩⟩
  ·rename_i hne
   refine ⟨n, _, _, h1, ?_⟩
   cases e with
   | norm => exact (hne _ h1).elim
   | exit id => exact h2
   | ret => exact h2
 ·rintro ⟨n, e, st', h1, h2⟩
  cases e with
  | norm =>
   obtain ⟨n2, e2, st2, h3, h4⟩ := h2
   refine ⟨max n n2, e2, st2, ?_, h4⟩
   simp only [execC]
   rw [execC_mono C_le (Nat.le_max_left n n2) h1]
   exact execC_mono C_le (Nat.le_max_right n n2) h3
  | exit id => exact ⟨n, _, _, by simp only [execC]; rw [h1], h2⟩
  | ret => exact ⟨n, _, _, by simp only [execC]; rw [h1], h2⟩
theorem execT_cond {x : AOpd} {a b : ACode} : ExecT A m (.cond x a b) st K ↔ match x.ev st.env with | .bool t => if t = true then ExecT A m a st K else ExecT A m b st K | _ => False := by
 constructor
 ·rintro ⟨n, e, st', h1, h2⟩
  simp only [execC] at h1
  split at h1 <;> try (simp at h1; done)
  rename_i t ht
  simp only [ht]
  split at h1
  ·rename_i hb; rw [if_pos hb]; exact ⟨n, _, _, h1, h2⟩
  ·rename_i hb; rw [if_neg hb]; exact ⟨n, _, _, h1, h2⟩
 ·intro h
  split at h
  ·rename_i t ht
   split at h
   ·rename_i hb
    obtain ⟨n, e, st', h1, h2⟩ := h
    exact ⟨n, e, st', by simp only [execC, ht, hb, if_true]; exact h1, h2⟩
   ·rename_i hb
    obtain ⟨n, e, st', h1, h2⟩ := h
    exact ⟨n, e, st', by simp only [execC, ht, hb]; exact h1, h2⟩
  ·exact h.elim
theorem execT_block {id : Nat} {a : ACode} : ExecT A m (.block id a) st K ↔ ExecT A m a st fun e st' => match e with | .exit i => K (if i = id then .norm else .exit i) st' | e => K e st' := by
 constructor
 ·rintro ⟨n, e, st', h1, h2⟩
  simp only [execC] at h1
  split at h1
  ·rename_i i st1 h3
   simp only [Option.some.injEq, Prod.mk.injEq] at h1
   obtain ⟨rfl, rfl⟩ := h1
   exact ⟨n, _, _, h3, h2⟩
  ·rename_i hne
   refine ⟨n, _, _, h1, ?_⟩
   cases e with
   | norm => exact h2
   | exit id => exact (hne _ _ h1).elim
   | ret => exact h2
 ·rintro ⟨n, e, st', h1, h2⟩
  cases e with
  | norm => exact ⟨n, _, _, by simp only [execC]; rw [h1], h2⟩
  | exit i => exact ⟨n, _, _, by simp only [execC]; rw [h1], h2⟩
  | ret => exact ⟨n, _, _, by simp only [execC]; rw [h1], h2⟩
def gcSt (m : Nat) (live : List Nat) (st : ASt) : ASt :=
 let g := gc m st.heap (mask live 0 st.env)
 { env := g.1, heap := g.2, next := m + g.2.length }
def LoopT (A : AProg) (m : Nat) (live : List Nat) (a : ACode) (st : ASt) (K : AExit → ASt → Prop) : Prop := ∃ n e st', rounds m live (execC A.C m n a) n st = some (e, st') ∧ K e st'
def HeadT (A : AProg) (m : Nat) (live : List Nat) (a : ACode) (st : ASt) (K : AExit → ASt → Prop) : Prop := ExecT A m a st fun e st' => match e with | .norm => LoopT A m live a st' K | e => K e st'
theorem loopT_head {live : List Nat} {a : ACode} : LoopT A m live a st K ↔ HeadT A m live a (gcSt m live st) K := by
 constructor
 ·rintro ⟨n, e, st', h1, h2⟩
  cases n with
  | zero => simp [rounds] at h1
  | succ n =>
   simp only [rounds] at h1
   split at h1
   ·rename_i st1 h3
    exact ⟨n + 1, _, _, h3, ⟨n + 1, _, _, rounds_mono (fun _ _ h => h) (Nat.le_succ n) h1, h2⟩⟩
   ·rename_i hne
    refine ⟨n + 1, _, _, h1, ?_⟩
    cases e with
    | norm => exact (hne _ h1).elim
    | exit id => exact h2
    | ret => exact h2
 ·rintro ⟨n, e, st', h1, h2⟩
  cases e with
  | norm =>
   obtain ⟨n2, e2, st2, h3, h4⟩ := h2
   refine ⟨max n n2 + 1, e2, st2, ?_, h4⟩
   simp only [rounds]
   have h1' := execC_mono (k' := max n n2 + 1) C_le (by omega) h1
   unfold gcSt at h1'
   rw [h1']
   exact rounds_mono (fun _ _ h => execC_mono C_le (by omega) h) (by omega) h3
  | exit id =>
   refine ⟨n + 1, _, _, ?_, h2⟩
   simp only [rounds]
   have h1' := execC_mono (k' := n + 1) C_le (by omega) h1
   unfold gcSt at h1'
   rw [h1']
  | ret =>
   refine ⟨n + 1, _, _, ?_, h2⟩
   simp only [rounds]
   have h1' := execC_mono (k' := n + 1) C_le (by omega) h1
   unfold gcSt at h1'
   rw [h1']
def StepT (A : AProg) (o : AOper) (nid : Nat) (st : ASt) (K : ASt → Prop) : Prop := ∃ st', stepOp A.C o nid st = some st' ∧ K st'
def RunT (A : AProg) (ops : List AOper) (nid : Nat) (st : ASt) (K : ASt → Prop) : Prop := ∃ st', runOps A.C ops nid st = some st' ∧ K st'
def FeetT (A : AProg) (ops : List AOper) (nid : Nat) (st : ASt) (K : List Foot → ASt → Prop) : Prop := ∃ st' fs, runFeet A.C ops nid st = some (st', fs) ∧ K fs st'
theorem runT_nil {nid : Nat} {K : ASt → Prop} : RunT A [] nid st K ↔ K { st with next := nid } := by simp [RunT, runOps]
theorem runT_cons {nid : Nat} {r : List AOper} {K : ASt → Prop} : RunT A (o :: r) nid st K ↔ StepT A o nid st fun st => RunT A r (nid + stride) st K := by
 unfold RunT StepT
 constructor
 ·rintro ⟨st', h1, h2⟩
  simp only [runOps] at h1
  split at h1 <;> try (simp at h1; done)
  rename_i st1 h3
  exact ⟨st1, h3, st', h1, h2⟩
 ·rintro ⟨st1, h3, st', h1, h2⟩
  exact ⟨st', by simp only [runOps, h3]; exact h1, h2⟩
theorem feetT_nil {nid : Nat} {K : List Foot → ASt → Prop} : FeetT A [] nid st K ↔ K [] { st with next := nid } := by
 simp only [FeetT, runFeet, Option.some.injEq, Prod.mk.injEq]
 exact ⟨fun ⟨_, _, ⟨h1, h2⟩, h3⟩ => by subst h1; subst h2; exact h3, fun h => ⟨_, _, ⟨rfl, rfl⟩, h⟩⟩
theorem feetT_cons {nid : Nat} {r : List AOper} {K : List Foot → ASt → Prop} : FeetT A (o :: r) nid st K ↔ StepT A o nid st fun st1 => FeetT A r (nid + stride) st1 fun fs st' => K (footOf A.C o st :: fs) st' := by
 unfold FeetT StepT
 constructor
 ·rintro ⟨st', fs, h1, h2⟩
  simp only [runFeet] at h1
  split at h1 <;> try (simp at h1; done)
  rename_i st1 h3
  split at h1 <;> simp only [Option.some.injEq, Prod.mk.injEq, reduceCtorEq] at h1
  rename_i st2 fs2 h4
  obtain ⟨rfl, rfl⟩ := h1
  exact ⟨st1, h3, st2, fs2, h4, h2⟩
 ·rintro ⟨st1, h3, st2, fs2, h4, h2⟩
  exact ⟨st2, _, by simp only [runFeet, h3, h4], h2⟩
theorem execT_reg {ps : List (Nat × Nat)} {ops : List AOper} : ExecT A m (.reg false ps ops) st K ↔ RunT A ops st.next st fun st => K .norm st := by
 constructor
 ·rintro ⟨n, e, st', h1, h2⟩
  simp only [execC] at h1
  obtain ⟨y, h3, h4⟩ := map_some h1
  simp only [Prod.mk.injEq] at h4
  obtain ⟨rfl, rfl⟩ := h4
  exact ⟨_, h3, h2⟩
 ·rintro ⟨st', h1, h2⟩
  exact ⟨0, _, _, by simp only [execC, h1]; rfl, h2⟩
theorem execT_draw {ps : List (Nat × Nat)} {ops : List AOper} : ExecT A m (.reg true ps ops) st K ↔ FeetT A ops st.next st fun fs st' => ps.all (indepB st.next fs) = true ∧ K .norm st' := by
 constructor
 ·rintro ⟨n, e, st', h1, h2⟩
  simp only [execC] at h1
  split at h1 <;> try (simp at h1; done)
  rename_i st1 fs h3
  split at h1 <;> simp only [Option.some.injEq, Prod.mk.injEq, reduceCtorEq] at h1
  rename_i hall
  obtain ⟨rfl, rfl⟩ := h1
  exact ⟨_, _, h3, hall, h2⟩
 ·rintro ⟨st', fs, h1, hall, h2⟩
  exact ⟨0, _, _, by simp only [execC, h1, hall, if_true], h2⟩
end
end Go.Abs
namespace Go.Abs
inductive Frame where
 | code (c : ACode)
 | blk (id : Nat)
 | loop (live : List Nat) (a : ACode)
abbrev FinP := AExit → ASt → Prop
def toK (A : AProg) (m : Nat) (F : FinP) : List Frame → FinP
 | [] => F
 | .code c :: r => fun e st => match e with | .norm => ExecT A m c st (toK A m F r) | e => toK A m F r e st
 | .blk id :: r => fun e st => match e with | .exit i => toK A m F r (if i = id then .norm else .exit i) st | e => toK A m F r e st
 | .loop live a :: r => fun e st => match e with | .norm => LoopT A m live a st (toK A m F r) | e => toK A m F r e st
section
variable (A : AProg) (m : Nat)
def EX (c : ACode) (st : ASt) (S : List Frame) (F : FinP) : Prop := ExecT A m c st (toK A m F S)
def RN (ops : List AOper) (nid : Nat) (env : List AVal) (h : Heap) (n : Nat) (S : List Frame) (F : FinP) : Prop := RunT A ops nid ⟨env, h, n⟩ fun st => toK A m F S .norm st
def OP (x : Option (AVal × Heap)) (d : Option Nat) (ops : List AOper) (nid : Nat) (env : List AVal) (n : Nat) (S : List Frame) (F : FinP) : Prop :=
 ∃ r, x = some r ∧ RN A m ops (nid + stride) (setAt d r.1 env) r.2 n S F
def GD (v : AVal) (want : Bool) (d : Option Nat) (op : AOp) (ops : List AOper) (nid : Nat) (env : List AVal) (h : Heap) (n : Nat) (S : List Frame) (F : FinP) : Prop := match v with
 | .bool b => (b = want → RN A m (⟨d, op, none⟩ :: ops) nid env h n S F) ∧ (b ≠ want → RN A m ops (nid + stride) (setAt d .undef env) h n S F)
 | .lit (.tuple _) => RN A m ops (nid + stride) (setAt d .undef env) h n S F
 | _ => False
def RD (ps : List (Nat × Nat)) (base : Nat) (fs : List Foot) (ops : List AOper) (nid : Nat) (env : List AVal) (h : Heap) (n : Nat) (S : List Frame) (F : FinP) : Prop :=
 FeetT A ops nid ⟨env, h, n⟩ fun fs' st => ps.all (indepB base (fs ++ fs')) = true ∧ toK A m F S .norm st
def OD (ps : List (Nat × Nat)) (base : Nat) (fs : List Foot) (f : Foot) (x : Option (AVal × Heap)) (d : Option Nat) (ops : List AOper) (nid : Nat) (env : List AVal) (n : Nat) (S : List Frame) (F : FinP) : Prop :=
 ∃ r, x = some r ∧ RD A m ps base (fs ++ [f]) ops (nid + stride) (setAt d r.1 env) r.2 n S F
def GDD (ps : List (Nat × Nat)) (base : Nat) (fs : List Foot) (v : AVal) (want : Bool) (d : Option Nat) (op : AOp) (ops : List AOper) (nid : Nat) (env : List AVal) (h : Heap) (n : Nat) (S : List Frame) (F : FinP) : Prop := match v with
 | .bool b => (b = want → RD A m ps base fs (⟨d, op, none⟩ :: ops) nid env h n S F) ∧ (b ≠ want → RD A m ps base (fs ++ [⟨[], []⟩]) ops (nid + stride) (setAt d .undef env) h n S F)
 | .lit (.tuple _) => RD A m ps base (fs ++ [⟨[], []⟩]) ops (nid + stride) (setAt d .undef env) h n S F
 | _ => False
def CD (v : AVal) (a b : ACode) (st : ASt) (S : List Frame) (F : FinP) : Prop := match v with
 | .bool t => (t = true → EX A m a st S F) ∧ (t = false → EX A m b st S F)
 | _ => False
def RT (e : AExit) (st : ASt) (S : List Frame) (F : FinP) : Prop := toK A m F S e st
def LP (live : List Nat) (a : ACode) (st : ASt) (S : List Frame) (F : FinP) : Prop := LoopT A m live a st (toK A m F S)
def HD (live : List Nat) (a : ACode) (st : ASt) (S : List Frame) (F : FinP) : Prop := HeadT A m live a st (toK A m F S)
def Fin (rs : List (Nat × Option (Nat × Bool))) (m : Nat) (r : AVal) (h' : Heap) : FinP := fun e st => match e with
 | .exit _ => False
 | _ => finish ⟨0, 0, rs, .skip⟩ m st = some (r, h')
end
noncomputable def stp (A : AProg) (op : AOp) (env : List AVal) (nid : Nat) (h : Heap) : Option (AVal × Heap) := match op with
 | .call f args => callStep A.C (f.ev env) (args.map (·.ev env)) nid h
 | op => aop op env nid h
noncomputable def ftp (A : AProg) (op : AOp) (env : List AVal) (h : Heap) : Foot := match op with
 | .call f args => let l := callFp A.C (f.ev env) (args.map (·.ev env)) h; ⟨l, if roCall (f.ev env) = true then [] else l⟩
 | op => if op.cls = 0 then ⟨[], []⟩ else if op.cls = 1 then ⟨op.ids env, []⟩ else ⟨op.ids env, op.ids env⟩
section
variable {A : AProg} {env : List AVal} {nid : Nat} {h : Heap}
@[go_sem] theorem stp_call {f : AOpd} {args : List AOpd} : stp A (.call f args) env nid h = callStep A.C (f.ev env) (args.map (·.ev env)) nid h := rfl
@[go_sem] theorem ftp_call {f : AOpd} {args : List AOpd} : ftp A (.call f args) env h = ⟨callFp A.C (f.ev env) (args.map (·.ev env)) h, if roCall (f.ev env) = true then [] else callFp A.C (f.ev env) (args.map (·.ev env)) h⟩ := rfl
@[go_sem] theorem stp_mov {x : AOpd} : stp A (.mov x) env nid h = aop (.mov x) env nid h := rfl
@[go_sem] theorem ftp_mov {x : AOpd} : ftp A (.mov x) env h = ⟨[], []⟩ := rfl
@[go_sem] theorem stp_pick {a b c : AOpd} : stp A (.pick a b c) env nid h = aop (.pick a b c) env nid h := rfl
@[go_sem] theorem ftp_pick {a b c : AOpd} : ftp A (.pick a b c) env h = ⟨[], []⟩ := rfl
@[go_sem] theorem stp_bin {o : BinOp} {k : EqK} {c : Bool} {x y : AOpd} : stp A (.bin o k c x y) env nid h = aop (.bin o k c x y) env nid h := rfl
@[go_sem] theorem ftp_bin {o : BinOp} {k : EqK} {c : Bool} {x y : AOpd} : ftp A (.bin o k c x y) env h = ⟨[], []⟩ := rfl
@[go_sem] theorem stp_un {o : UnOp} {x : AOpd} : stp A (.un o x) env nid h = aop (.un o x) env nid h := rfl
@[go_sem] theorem ftp_un {o : UnOp} {x : AOpd} : ftp A (.un o x) env h = ⟨[], []⟩ := rfl
@[go_sem] theorem stp_cvi {k : IntKind} {x : AOpd} : stp A (.cvi k x) env nid h = aop (.cvi k x) env nid h := rfl
@[go_sem] theorem ftp_cvi {k : IntKind} {x : AOpd} : ftp A (.cvi k x) env h = ⟨[], []⟩ := rfl
@[go_sem] theorem stp_cvs {x : AOpd} : stp A (.cvs x) env nid h = aop (.cvs x) env nid h := rfl
@[go_sem] theorem ftp_cvs {x : AOpd} : ftp A (.cvs x) env h = ⟨[], []⟩ := rfl
@[go_sem] theorem stp_cvsb {x : AOpd} : stp A (.cvsb x) env nid h = aop (.cvsb x) env nid h := rfl
@[go_sem] theorem ftp_cvsb {x : AOpd} : ftp A (.cvsb x) env h = ⟨[], []⟩ := rfl
@[go_sem] theorem stp_cvbs {x : AOpd} : stp A (.cvbs x) env nid h = aop (.cvbs x) env nid h := rfl
@[go_sem] theorem ftp_cvbs {x : AOpd} : ftp A (.cvbs x) env h = ⟨AOp.ids (.cvbs x) env, []⟩ := rfl
@[go_sem] theorem stp_cvb {x : AOpd} : stp A (.cvb x) env nid h = aop (.cvb x) env nid h := rfl
@[go_sem] theorem ftp_cvb {x : AOpd} : ftp A (.cvb x) env h = ⟨AOp.ids (.cvb x) env, AOp.ids (.cvb x) env⟩ := rfl
@[go_sem] theorem stp_mkif {t : TypeId} {x : AOpd} : stp A (.mkif t x) env nid h = aop (.mkif t x) env nid h := rfl
@[go_sem] theorem ftp_mkif {t : TypeId} {x : AOpd} : ftp A (.mkif t x) env h = ⟨[], []⟩ := rfl
@[go_sem] theorem stp_tass {t : TypeId} {o : Bool} {z : AVal} {x : AOpd} : stp A (.tass t o z x) env nid h = aop (.tass t o z x) env nid h := rfl
@[go_sem] theorem ftp_tass {t : TypeId} {o : Bool} {z : AVal} {x : AOpd} : ftp A (.tass t o z x) env h = ⟨[], []⟩ := rfl
@[go_sem] theorem stp_alloc {z : List AVal} : stp A (.alloc z) env nid h = aop (.alloc z) env nid h := rfl
@[go_sem] theorem ftp_alloc {z : List AVal} : ftp A (.alloc z) env h = ⟨AOp.ids (.alloc z) env, AOp.ids (.alloc z) env⟩ := rfl
@[go_sem] theorem stp_box {x : AOpd} : stp A (.box x) env nid h = aop (.box x) env nid h := rfl
@[go_sem] theorem ftp_box {x : AOpd} : ftp A (.box x) env h = ⟨AOp.ids (.box x) env, AOp.ids (.box x) env⟩ := rfl
@[go_sem] theorem stp_build {z : List AVal} {p : List (Nat × Nat × AOpd)} : stp A (.build z p) env nid h = aop (.build z p) env nid h := rfl
@[go_sem] theorem ftp_build {z : List AVal} {p : List (Nat × Nat × AOpd)} : ftp A (.build z p) env h = ⟨[], []⟩ := rfl
@[go_sem] theorem stp_bslice {s l : Nat} {z : List AVal} {p : List AOpd} : stp A (.bslice s l z p) env nid h = aop (.bslice s l z p) env nid h := rfl
@[go_sem] theorem ftp_bslice {s l : Nat} {z : List AVal} {p : List AOpd} : ftp A (.bslice s l z p) env h = ⟨AOp.ids (.bslice s l z p) env, AOp.ids (.bslice s l z p) env⟩ := rfl
@[go_sem] theorem stp_fa {o : Nat} {x : AOpd} : stp A (.fa o x) env nid h = aop (.fa o x) env nid h := rfl
@[go_sem] theorem ftp_fa {o : Nat} {x : AOpd} : ftp A (.fa o x) env h = ⟨[], []⟩ := rfl
@[go_sem] theorem stp_fld {o s : Nat} {a : Bool} {x : AOpd} : stp A (.fld o s a x) env nid h = aop (.fld o s a x) env nid h := rfl
@[go_sem] theorem ftp_fld {o s : Nat} {a : Bool} {x : AOpd} : ftp A (.fld o s a x) env h = ⟨[], []⟩ := rfl
@[go_sem] theorem stp_ixa {s : Nat} {x i : AOpd} : stp A (.ixa s x i) env nid h = aop (.ixa s x i) env nid h := rfl
@[go_sem] theorem ftp_ixa {s : Nat} {x i : AOpd} : ftp A (.ixa s x i) env h = ⟨[], []⟩ := rfl
@[go_sem] theorem stp_ixp {n s : Nat} {x i : AOpd} : stp A (.ixp n s x i) env nid h = aop (.ixp n s x i) env nid h := rfl
@[go_sem] theorem ftp_ixp {n s : Nat} {x i : AOpd} : ftp A (.ixp n s x i) env h = ⟨[], []⟩ := rfl
@[go_sem] theorem stp_ixs {x i : AOpd} : stp A (.ixs x i) env nid h = aop (.ixs x i) env nid h := rfl
@[go_sem] theorem ftp_ixs {x i : AOpd} : ftp A (.ixs x i) env h = ⟨[], []⟩ := rfl
@[go_sem] theorem stp_ld {s : Nat} {a : Bool} {x : AOpd} : stp A (.ld s a x) env nid h = aop (.ld s a x) env nid h := rfl
@[go_sem] theorem ftp_ld {s : Nat} {a : Bool} {x : AOpd} : ftp A (.ld s a x) env h = ⟨AOp.ids (.ld s a x) env, []⟩ := rfl
@[go_sem] theorem stp_st {s : Nat} {x v : AOpd} : stp A (.st s x v) env nid h = aop (.st s x v) env nid h := rfl
@[go_sem] theorem ftp_st {s : Nat} {x v : AOpd} : ftp A (.st s x v) env h = ⟨AOp.ids (.st s x v) env, AOp.ids (.st s x v) env⟩ := rfl
@[go_sem] theorem stp_nilck {x : AOpd} : stp A (.nilck x) env nid h = aop (.nilck x) env nid h := rfl
@[go_sem] theorem ftp_nilck {x : AOpd} : ftp A (.nilck x) env h = ⟨[], []⟩ := rfl
@[go_sem] theorem stp_slc {s : Nat} {x : AOpd} {a b c : Option AOpd} : stp A (.slc s x a b c) env nid h = aop (.slc s x a b c) env nid h := rfl
@[go_sem] theorem ftp_slc {s : Nat} {x : AOpd} {a b c : Option AOpd} : ftp A (.slc s x a b c) env h = ⟨[], []⟩ := rfl
@[go_sem] theorem stp_mksl {b s : Nat} {z : List AVal} {n c : AOpd} : stp A (.mksl b s z n c) env nid h = aop (.mksl b s z n c) env nid h := rfl
@[go_sem] theorem ftp_mksl {b s : Nat} {z : List AVal} {n c : AOpd} : ftp A (.mksl b s z n c) env h = ⟨AOp.ids (.mksl b s z n c) env, AOp.ids (.mksl b s z n c) env⟩ := rfl
@[go_sem] theorem stp_ext {x : AOpd} {i : Nat} : stp A (.ext x i) env nid h = aop (.ext x i) env nid h := rfl
@[go_sem] theorem ftp_ext {x : AOpd} {i : Nat} : ftp A (.ext x i) env h = ⟨[], []⟩ := rfl
@[go_sem] theorem stp_slct {x : AOpd} {a b : Option AOpd} : stp A (.slct x a b) env nid h = aop (.slct x a b) env nid h := rfl
@[go_sem] theorem ftp_slct {x : AOpd} {a b : Option AOpd} : ftp A (.slct x a b) env h = ⟨[], []⟩ := rfl
@[go_sem] theorem stp_len {k : Nat} {x : AOpd} : stp A (.len k x) env nid h = aop (.len k x) env nid h := rfl
@[go_sem] theorem ftp_len0 {x : AOpd} : ftp A (.len 0 x) env h = ⟨[], []⟩ := rfl
@[go_sem] theorem ftp_len1 {x : AOpd} : ftp A (.len 1 x) env h = ⟨[], []⟩ := rfl
@[go_sem] theorem ftp_len2 {x : AOpd} : ftp A (.len 2 x) env h = ⟨AOp.ids (.len 2 x) env, []⟩ := rfl
@[go_sem] theorem stp_app {b s : Nat} {x y : AOpd} : stp A (.app b s x y) env nid h = aop (.app b s x y) env nid h := rfl
@[go_sem] theorem ftp_app {b s : Nat} {x y : AOpd} : ftp A (.app b s x y) env h = ⟨AOp.ids (.app b s x y) env, AOp.ids (.app b s x y) env⟩ := rfl
@[go_sem] theorem stp_appz {b s : Nat} {z : List AVal} {x y : AOpd} : stp A (.appz b s z x y) env nid h = aop (.appz b s z x y) env nid h := rfl
@[go_sem] theorem ftp_appz {b s : Nat} {z : List AVal} {x y : AOpd} : ftp A (.appz b s z x y) env h = ⟨AOp.ids (.appz b s z x y) env, AOp.ids (.appz b s z x y) env⟩ := rfl
@[go_sem] theorem stp_copy {s : Nat} {d x : AOpd} : stp A (.copy s d x) env nid h = aop (.copy s d x) env nid h := rfl
@[go_sem] theorem ftp_copy {s : Nat} {d x : AOpd} : ftp A (.copy s d x) env h = ⟨AOp.ids (.copy s d x) env, AOp.ids (.copy s d x) env⟩ := rfl
@[go_sem] theorem stp_minmax {m : Bool} {x y : AOpd} : stp A (.minmax m x y) env nid h = aop (.minmax m x y) env nid h := rfl
@[go_sem] theorem ftp_minmax {m : Bool} {x y : AOpd} : ftp A (.minmax m x y) env h = ⟨[], []⟩ := rfl
@[go_sem] theorem stp_mkfn {f : Fn} {c : List AOpd} : stp A (.mkfn f c) env nid h = aop (.mkfn f c) env nid h := rfl
@[go_sem] theorem ftp_mkfn {f : Fn} {c : List AOpd} : ftp A (.mkfn f c) env h = ⟨[], []⟩ := rfl
@[go_sem] theorem stp_mkmap  : stp A (.mkmap) env nid h = aop (.mkmap) env nid h := rfl
@[go_sem] theorem ftp_mkmap  : ftp A (.mkmap) env h = ⟨AOp.ids (.mkmap) env, AOp.ids (.mkmap) env⟩ := rfl
@[go_sem] theorem stp_look {k : Nat} {z : AVal} {m x : AOpd} {o : Bool} : stp A (.look k z m x o) env nid h = aop (.look k z m x o) env nid h := rfl
@[go_sem] theorem ftp_look {k : Nat} {z : AVal} {m x : AOpd} {o : Bool} : ftp A (.look k z m x o) env h = ⟨AOp.ids (.look k z m x o) env, []⟩ := rfl
@[go_sem] theorem stp_mupd {k : Nat} {m x v : AOpd} : stp A (.mupd k m x v) env nid h = aop (.mupd k m x v) env nid h := rfl
@[go_sem] theorem ftp_mupd {k : Nat} {m x v : AOpd} : ftp A (.mupd k m x v) env h = ⟨AOp.ids (.mupd k m x v) env, AOp.ids (.mupd k m x v) env⟩ := rfl
@[go_sem] theorem stp_range {x : AOpd} : stp A (.range x) env nid h = aop (.range x) env nid h := rfl
@[go_sem] theorem ftp_range {x : AOpd} : ftp A (.range x) env h = ⟨AOp.ids (.range x) env, AOp.ids (.range x) env⟩ := rfl
@[go_sem] theorem stp_next {x : AOpd} : stp A (.next x) env nid h = aop (.next x) env nid h := rfl
@[go_sem] theorem ftp_next {x : AOpd} : ftp A (.next x) env h = ⟨AOp.ids (.next x) env, AOp.ids (.next x) env⟩ := rfl
@[go_sem] theorem stp_bad  : stp A (.bad) env nid h = aop (.bad) env nid h := rfl
@[go_sem] theorem ftp_bad  : ftp A (.bad) env h = ⟨[], []⟩ := rfl
end
section
variable {A : AProg} {m nid n : Nat} {d : Option Nat} {env : List AVal} {h h' : Heap} {st : ASt} {S : List Frame} {F : FinP} {ops : List AOper} {a b c : ACode} {live : List Nat} {e : AExit} {v : AVal} {op : AOp} {ps : List (Nat × Nat)} {base : Nat} {fs : List Foot} {f : Foot}
@[go_sem] theorem ex_skip : EX A m .skip st S F ↔ RT A m .norm st S F := execT_skip
@[go_sem] theorem ex_exit {id : Nat} : EX A m (.exit id) st S F ↔ RT A m (.exit id) st S F := execT_exit
@[go_sem] theorem ex_ret : EX A m .ret st S F ↔ RT A m .ret st S F := execT_ret
@[go_sem] theorem ex_seq : EX A m (.seq a b) st S F ↔ EX A m a st (.code b :: S) F := execT_seq
@[go_sem] theorem ex_block {id : Nat} : EX A m (.block id a) st S F ↔ EX A m a st (.blk id :: S) F := execT_block
@[go_sem] theorem ex_loop : EX A m (.loop live a) st S F ↔ LP A m live a st S F := Iff.rfl
@[go_sem] theorem ex_reg {env : List AVal} : EX A m (.reg false ps ops) ⟨env, h, n⟩ S F ↔ RN A m ops n env h n S F := execT_reg
@[go_sem] theorem ex_draw {env : List AVal} : EX A m (.reg true ps ops) ⟨env, h, n⟩ S F ↔ RD A m ps n [] ops n env h n S F := execT_draw
@[go_sem] theorem ex_cond {x : AOpd} {env : List AVal} : EX A m (.cond x a b) ⟨env, h, n⟩ S F ↔ CD A m (x.ev env) a b ⟨env, h, n⟩ S F := by
 refine execT_cond.trans ?_
 unfold CD
 simp only
 generalize x.ev env = v
 cases v with
 | bool t =>
  cases t
  ·exact ⟨fun h => ⟨fun h => (by cases h), fun _ => h⟩, fun h => h.2 rfl⟩
  ·exact ⟨fun h => ⟨fun _ => h, fun h => (by cases h)⟩, fun h => h.1 rfl⟩
 | _ => exact Iff.rfl
@[go_sem] theorem cd_true : CD A m (.bool true) a b st S F ↔ EX A m a st S F := ⟨fun h => h.1 rfl, fun h => ⟨fun _ => h, fun h => (by cases h)⟩⟩
@[go_sem] theorem cd_false : CD A m (.bool false) a b st S F ↔ EX A m b st S F := ⟨fun h => h.2 rfl, fun h => ⟨fun h => (by cases h), fun _ => h⟩⟩
theorem cd_of {t : Bool} (h1 : t = true → EX A m a st S F) (h2 : t = false → EX A m b st S F) : CD A m (.bool t) a b st S F := ⟨h1, h2⟩
@[go_sem] theorem rt_norm_code : RT A m .norm st (.code c :: S) F ↔ EX A m c st S F := Iff.rfl
@[go_sem] theorem rt_exit_code {i : Nat} : RT A m (.exit i) st (.code c :: S) F ↔ RT A m (.exit i) st S F := Iff.rfl
@[go_sem] theorem rt_ret_code : RT A m .ret st (.code c :: S) F ↔ RT A m .ret st S F := Iff.rfl
@[go_sem] theorem rt_norm_blk {id : Nat} : RT A m .norm st (.blk id :: S) F ↔ RT A m .norm st S F := Iff.rfl
@[go_sem] theorem rt_exit_blk {i id : Nat} : RT A m (.exit i) st (.blk id :: S) F ↔ RT A m (if i = id then .norm else .exit i) st S F := Iff.rfl
@[go_sem] theorem rt_ret_blk {id : Nat} : RT A m .ret st (.blk id :: S) F ↔ RT A m .ret st S F := Iff.rfl
@[go_sem] theorem rt_norm_loop : RT A m .norm st (.loop live c :: S) F ↔ LP A m live c st S F := Iff.rfl
@[go_sem] theorem rt_exit_loop {i : Nat} : RT A m (.exit i) st (.loop live c :: S) F ↔ RT A m (.exit i) st S F := Iff.rfl
@[go_sem] theorem rt_ret_loop : RT A m .ret st (.loop live c :: S) F ↔ RT A m .ret st S F := Iff.rfl
@[go_sem] theorem rt_nil : RT A m e st [] F ↔ F e st := Iff.rfl
@[go_sem] theorem fin_norm {rs : List (Nat × Option (Nat × Bool))} {r : AVal} : Fin rs m r h' .norm st ↔ finish ⟨0, 0, rs, .skip⟩ m st = some (r, h') := Iff.rfl
@[go_sem] theorem fin_ret {rs : List (Nat × Option (Nat × Bool))} {r : AVal} : Fin rs m r h' .ret st ↔ finish ⟨0, 0, rs, .skip⟩ m st = some (r, h') := Iff.rfl
theorem lp_head : LP A m live a st S F ↔ HD A m live a (gcSt m live st) S F := loopT_head
theorem hd_of (e : a = b) (h : EX A m b st (.loop live a :: S) F) : HD A m live a st S F := by subst e; exact h
@[go_sem] theorem rn_nil {env : List AVal} : RN A m [] nid env h n S F ↔ RT A m .norm ⟨env, h, nid⟩ S F := runT_nil
theorem step_stp : stepOp A.C ⟨d, op, none⟩ nid ⟨env, h, n⟩ = (stp A op env nid h).map fun r => ⟨setAt d r.1 env, r.2, n⟩ := by
 cases op <;> rfl
theorem foot_ftp : footOf A.C ⟨d, op, none⟩ ⟨env, h, n⟩ = ftp A op env h := by
 cases op <;> rfl
@[go_sem] theorem rn_op : RN A m (⟨d, op, none⟩ :: ops) nid env h n S F ↔ OP A m (stp A op env nid h) d ops nid env n S F := by
 unfold RN OP
 rw [runT_cons]
 unfold StepT
 rw [step_stp]
 cases stp A op env nid h with
 | none => simp
 | some r => simp [RN]
theorem step_guard {g : Nat} {want : Bool} : stepOp A.C ⟨d, op, some (g, want)⟩ nid ⟨env, h, n⟩ = match env.getD g .junk with
  | .bool b => if b = want then stepOp A.C ⟨d, op, none⟩ nid ⟨env, h, n⟩ else some ⟨setAt d .undef env, h, n⟩
  | .lit (.tuple _) => some ⟨setAt d .undef env, h, n⟩
  | _ => none := rfl
@[go_sem] theorem rn_guard {g : Nat} {want : Bool} : RN A m (⟨d, op, some (g, want)⟩ :: ops) nid env h n S F ↔ GD A m (env.getD g .junk) want d op ops nid env h n S F := by
 unfold RN
 rw [runT_cons]
 unfold StepT GD
 rw [step_guard]
 split
 ·rename_i b hb
  by_cases hw : b = want
  ·subst hw
   simp only [if_true, true_implies, ne_eq, not_true_eq_false, false_implies, and_true]
   unfold RN
   rw [runT_cons]
   exact Iff.rfl
  ·simp [hw, RN]
 ·rename_i vs hb
  simp [RN]
 ·rename_i h1 h2
  simp
@[go_sem] theorem op_some {r : AVal × Heap} : OP A m (some r) d ops nid env n S F ↔ RN A m ops (nid + stride) (setAt d r.1 env) r.2 n S F := by simp [OP]
@[go_sem] theorem op_ite {c : Prop} [Decidable c] {x : Option (AVal × Heap)} : OP A m (if c then x else none) d ops nid env n S F ↔ c ∧ OP A m x d ops nid env n S F := by
 by_cases h : c <;> simp [OP, h]
@[go_sem] theorem gd_true_true : GD A m (.bool true) true d op ops nid env h n S F ↔ RN A m (⟨d, op, none⟩ :: ops) nid env h n S F := by simp [GD]
@[go_sem] theorem gd_false_false : GD A m (.bool false) false d op ops nid env h n S F ↔ RN A m (⟨d, op, none⟩ :: ops) nid env h n S F := by simp [GD]
@[go_sem] theorem gd_true_false : GD A m (.bool true) false d op ops nid env h n S F ↔ RN A m ops (nid + stride) (setAt d .undef env) h n S F := by simp [GD]
@[go_sem] theorem gd_false_true : GD A m (.bool false) true d op ops nid env h n S F ↔ RN A m ops (nid + stride) (setAt d .undef env) h n S F := by simp [GD]
@[go_sem] theorem gd_undef {want : Bool} : GD A m (.lit Go.undef) want d op ops nid env h n S F ↔ RN A m ops (nid + stride) (setAt d .undef env) h n S F := Iff.rfl
theorem gd_of {t want : Bool} (h1 : t = true → GD A m (.bool true) want d op ops nid env h n S F) (h2 : t = false → GD A m (.bool false) want d op ops nid env h n S F) : GD A m (.bool t) want d op ops nid env h n S F := by
 cases t
 ·exact h2 rfl
 ·exact h1 rfl
theorem gd_dec {p : Prop} [Decidable p] {want : Bool} (h1 : p → GD A m (.bool true) want d op ops nid env h n S F) (h2 : ¬ p → GD A m (.bool false) want d op ops nid env h n S F) : GD A m (.bool (decide p)) want d op ops nid env h n S F :=
 gd_of (fun h => h1 (of_decide_eq_true h)) (fun h => h2 (of_decide_eq_false h))
theorem gd_ndec {p : Prop} [Decidable p] {want : Bool} (h1 : ¬ p → GD A m (.bool true) want d op ops nid env h n S F) (h2 : p → GD A m (.bool false) want d op ops nid env h n S F) : GD A m (.bool (!decide p)) want d op ops nid env h n S F :=
 gd_of (fun h => h1 (by simpa using h)) (fun h => h2 (by simpa using h))
theorem cd_dec {p : Prop} [Decidable p] (h1 : p → EX A m a st S F) (h2 : ¬ p → EX A m b st S F) : CD A m (.bool (decide p)) a b st S F :=
 cd_of (fun h => h1 (of_decide_eq_true h)) (fun h => h2 (of_decide_eq_false h))
theorem cd_ndec {p : Prop} [Decidable p] (h1 : ¬ p → EX A m a st S F) (h2 : p → EX A m b st S F) : CD A m (.bool (!decide p)) a b st S F :=
 cd_of (fun h => h1 (by simpa using h)) (fun h => h2 (by simpa using h))
@[go_sem] theorem rd_nil {env : List AVal} : RD A m ps base fs [] nid env h n S F ↔ ps.all (indepB base fs) = true ∧ RT A m .norm ⟨env, h, nid⟩ S F := by
 unfold RD
 rw [feetT_nil, List.append_nil]
 exact Iff.rfl
theorem feet_step {o : AOper} {st : ASt} {K : List Foot → ASt → Prop} {x : Option ASt} (hx : stepOp A.C o nid st = x) : FeetT A (o :: ops) nid st K ↔ ∃ st1, x = some st1 ∧ FeetT A ops (nid + stride) st1 fun fs st' => K (footOf A.C o st :: fs) st' := by
 rw [feetT_cons]
 unfold StepT
 rw [hx]
@[go_sem] theorem rd_op : RD A m ps base fs (⟨d, op, none⟩ :: ops) nid env h n S F ↔ OD A m ps base fs (ftp A op env h) (stp A op env nid h) d ops nid env n S F := by
 unfold RD OD
 rw [feet_step step_stp, foot_ftp]
 cases stp A op env nid h with
 | none => simp
 | some r => simp [RD]
@[go_sem] theorem rd_guard {g : Nat} {want : Bool} : RD A m ps base fs (⟨d, op, some (g, want)⟩ :: ops) nid env h n S F ↔ GDD A m ps base fs (env.getD g .junk) want d op ops nid env h n S F := by
 unfold RD
 rw [feet_step (step_guard (A := A) (g := g) (want := want))]
 have hf : footOf A.C ⟨d, op, some (g, want)⟩ ⟨env, h, n⟩ = match env.getD g .junk with
  | .bool b => if b = want then footOf A.C ⟨d, op, none⟩ ⟨env, h, n⟩ else ⟨[], []⟩
  | _ => ⟨[], []⟩ := rfl
 rw [hf]
 unfold GDD RD
 generalize env.getD g .junk = v
 cases v with
 | bool b =>
  simp only
  by_cases hw : b = want
  ·subst hw
   simp only [if_true]
   constructor
   ·rintro ⟨st1, h1, h2⟩
    exact ⟨fun _ => (feet_step rfl).2 ⟨st1, h1, h2⟩, fun h => (h rfl).elim⟩
   ·rintro ⟨h1, _⟩
    exact (feet_step rfl).1 (h1 trivial)
  ·rw [if_neg hw, if_neg hw]
   constructor
   ·rintro ⟨st1, h1, h2⟩
    simp only [Option.some.injEq] at h1
    subst h1
    exact ⟨fun h => (hw h).elim, fun _ => by simpa using h2⟩
   ·rintro ⟨_, h2⟩
    exact ⟨_, rfl, by simpa using h2 hw⟩
 | lit v =>
  cases v with
  | tuple vs => simp
  | _ => simp
 | _ => simp
@[go_sem] theorem od_some {r : AVal × Heap} : OD A m ps base fs f (some r) d ops nid env n S F ↔ RD A m ps base (fs ++ [f]) ops (nid + stride) (setAt d r.1 env) r.2 n S F := by simp [OD]
@[go_sem] theorem od_ite {c : Prop} [Decidable c] {x : Option (AVal × Heap)} : OD A m ps base fs f (if c then x else none) d ops nid env n S F ↔ c ∧ OD A m ps base fs f x d ops nid env n S F := by
 by_cases h : c <;> simp [OD, h]
@[go_sem] theorem gdd_true_true : GDD A m ps base fs (.bool true) true d op ops nid env h n S F ↔ RD A m ps base fs (⟨d, op, none⟩ :: ops) nid env h n S F := by simp [GDD]
@[go_sem] theorem gdd_false_false : GDD A m ps base fs (.bool false) false d op ops nid env h n S F ↔ RD A m ps base fs (⟨d, op, none⟩ :: ops) nid env h n S F := by simp [GDD]
@[go_sem] theorem gdd_true_false : GDD A m ps base fs (.bool true) false d op ops nid env h n S F ↔ RD A m ps base (fs ++ [⟨[], []⟩]) ops (nid + stride) (setAt d .undef env) h n S F := by simp [GDD]
@[go_sem] theorem gdd_false_true : GDD A m ps base fs (.bool false) true d op ops nid env h n S F ↔ RD A m ps base (fs ++ [⟨[], []⟩]) ops (nid + stride) (setAt d .undef env) h n S F := by simp [GDD]
@[go_sem] theorem gdd_undef {want : Bool} : GDD A m ps base fs (.lit Go.undef) want d op ops nid env h n S F ↔ RD A m ps base (fs ++ [⟨[], []⟩]) ops (nid + stride) (setAt d .undef env) h n S F := Iff.rfl
theorem gdd_of {t want : Bool} (h1 : t = true → GDD A m ps base fs (.bool true) want d op ops nid env h n S F) (h2 : t = false → GDD A m ps base fs (.bool false) want d op ops nid env h n S F) : GDD A m ps base fs (.bool t) want d op ops nid env h n S F := by
 cases t
 ·exact h2 rfl
 ·exact h1 rfl
theorem gdd_dec {p : Prop} [Decidable p] {want : Bool} (h1 : p → GDD A m ps base fs (.bool true) want d op ops nid env h n S F) (h2 : ¬ p → GDD A m ps base fs (.bool false) want d op ops nid env h n S F) : GDD A m ps base fs (.bool (decide p)) want d op ops nid env h n S F :=
 gdd_of (fun h => h1 (of_decide_eq_true h)) (fun h => h2 (of_decide_eq_false h))
theorem enter {g : Nat} {fn : AFn} {args : List AVal} {r : AVal} (hf : A.fn g = some fn) (hp : A.prim g = none) (hn : args.length = fn.np)
  (hx : EX A h.length fn.body ⟨args ++ List.replicate (fn.ntmps - args.length) .undef, h, h.length⟩ [] (Fin fn.results h.length r h')) : callT A g args h = some (r, h') := by
 refine callT_of hp hf hn (ExecT.mono hx fun e st hk => ?_)
 cases e with
 | norm => exact hk
 | exit id => exact hk
 | ret => exact hk
@[go_sem] theorem rep_undef {n : Nat} : List.replicate (n + 1) (AVal.lit Go.undef) = AVal.lit Go.undef :: List.replicate n (AVal.lit Go.undef) := rfl
@[go_sem] theorem rep_undef0 : List.replicate 0 (AVal.lit Go.undef) = [] := rfl
attribute [go_sem] AOpd.ev setAt stride List.getD_cons_zero List.getD_cons_succ List.set_cons_zero List.set_cons_succ List.map_cons List.map_nil List.cons_append List.nil_append List.length_cons List.length_nil
attribute [go_sem] roomMax strMax Heap.get Heap.put Heap.del natOr keyOk getRes
attribute [go_sem] mask gcList reach reachFuel place pickNodes dropNodes
@[go_sem] theorem present_nil {h : Heap} : present h [] = [] := rfl
@[go_sem] theorem present_cons {h : Heap} {id : Nat} {r : List Nat} : present h (id :: r) = if (h.get id).isSome = true then id :: present h r else present h r := by
 simp only [present, List.filter_cons]
def callMove (C : Calls) (g : Nat) (args : List AVal) (moved : List Nat) (nid : Nat) (h : Heap) : Option (AVal × Heap) :=
 (C.run g (renL (place moved 0) args) (pickNodes h (place moved 0) moved)).bind fun r =>
  if r.2.all (fun e => decide (e.1 < moved.length + stride)) = true then
   some (r.1.ren (backOf moved nid), dropNodes h moved ++ r.2.map fun e => ((backOf moved nid e.1).getD 0, e.2.ren (backOf moved nid)))
  else none
def callLent (C : Calls) (g : Nat) (args0 args : List AVal) (moved : List Nat) (nid : Nat) (h : Heap) : Option (AVal × Heap) :=
 if (ownIdsL args0).any moved.contains = true then none else
 (C.run g (renL (place moved 0) args) (pickNodes h (place moved 0) moved)).bind fun r =>
  if (!(r.1.noTmp && r.2.all fun e => e.2.noTmp)) = true then none else
  if r.2.all (fun e => decide (e.1 < moved.length + stride)) = true then
   some (r.1.ren (backOf moved nid), dropNodes h moved ++ r.2.map fun e => ((backOf moved nid e.1).getD 0, e.2.ren (backOf moved nid)))
  else none
theorem callStep0_eq {C : Calls} {g nid : Nat} {args caps : List AVal} {h : Heap} : callStep0 C (.func (.func g) caps) args nid h =
  if (!C.moves g && !(ownIdsL (args ++ caps)).isEmpty) = true then (lendL h (args ++ caps)).bind fun a => callLent C g (args ++ caps) a (present h (reach h reachFuel (idsL a) [])) nid h
  else callMove C g (args ++ caps) (present h (reach h reachFuel (idsL (args ++ caps)) [])) nid h := by
 unfold callStep0
 simp only
 by_cases hl : (!C.moves g && !(ownIdsL (args ++ caps)).isEmpty) = true
 ·rw [if_pos hl, if_pos hl]
  cases lendL h (args ++ caps) with
  | none => rfl
  | some a =>
   simp only [hl, Bool.true_and, Option.bind_some]
   unfold callLent
   split
   ·rfl
   ·cases C.run g (renL (place (present h (reach h reachFuel (idsL a) [])) 0) a) (pickNodes h (place (present h (reach h reachFuel (idsL a) [])) 0) (present h (reach h reachFuel (idsL a) []))) with
    | none => rfl
    | some r => rfl
 ·rw [if_neg hl, if_neg hl]
  have hl' : (!C.moves g && !(ownIdsL (args ++ caps)).isEmpty) = false := by simpa using hl
  simp only [hl', Bool.false_and, Bool.false_eq_true, if_false]
  unfold callMove
  cases C.run g (renL (place (present h (reach h reachFuel (idsL (args ++ caps)) [])) 0) (args ++ caps)) (pickNodes h (place (present h (reach h reachFuel (idsL (args ++ caps)) [])) 0) (present h (reach h reachFuel (idsL (args ++ caps)) []))) with
  | none => rfl
  | some r => rfl
theorem callStep_eq {C : Calls} {g nid : Nat} {args caps : List AVal} {h : Heap} : callStep C (.func (.func g) caps) args nid h =
  if roFn g = true then (callStep0 C (.func (.func g) caps) args nid h).bind fun r => if roOk (callFp C (.func (.func g) caps) args h) h r.2 = true then some r else none
  else callStep0 C (.func (.func g) caps) args nid h := by
 have e : callStep C (.func (.func g) caps) args nid h = (callStep0 C (.func (.func g) caps) args nid h).bind fun r => if (roFn g && !roOk (callFp C (.func (.func g) caps) args h) h r.2) = true then none else some r := by
  unfold callStep
  cases callStep0 C (.func (.func g) caps) args nid h <;> rfl
 rw [e]
 cases hr : roFn g with
 | false => cases callStep0 C (.func (.func g) caps) args nid h <;> rfl
 | true =>
  cases callStep0 C (.func (.func g) caps) args nid h with
  | none => rfl
  | some r =>
   simp only [Option.bind_some]
   cases roOk (callFp C (.func (.func g) caps) args h) h r.2 <;> rfl
@[go_sem] theorem roFn_eq {g : Nat} : roFn g = (g == 212) := rfl
@[go_sem] theorem roCall_func {g : Nat} {caps : List AVal} : roCall (.func (.func g) caps) = (g == 212) := rfl
attribute [go_sem] callStep0_eq roOk same1 Node.same sameL AVal.same
theorem callFp_eq {C : Calls} {g : Nat} {args caps : List AVal} {h : Heap} : callFp C (.func (.func g) caps) args h =
  if (!C.moves g && !(ownIdsL (args ++ caps)).isEmpty) = true then (match lendL h (args ++ caps) with | some a => idsL (args ++ caps) ++ reach h reachFuel (idsL a) [] | none => idsL (args ++ caps))
  else idsL (args ++ caps) ++ reach h reachFuel (idsL (args ++ caps)) [] := by
 unfold callFp
 simp only
 by_cases hl : (!C.moves g && !(ownIdsL (args ++ caps)).isEmpty) = true
 ·rw [if_pos hl, if_pos hl]
  rfl
 ·rw [if_neg hl, if_neg hl]
theorem C_run {g : Nat} {args : List AVal} {h : Heap} : A.C.run g args h = callT A g args h := rfl
theorem C_moves {g : Nat} : A.C.moves g = A.moves g := rfl
attribute [go_sem] callFp_eq callStep_eq callMove callLent backOf C_run C_moves
attribute [go_sem] indepB ownB AOp.ids AOp.opds
end
section
variable {f : Nat → Option Nat} {h : Heap} {sz : Nat}
@[go_sem] theorem ids_bool {b : Bool} : AVal.ids (.bool b) = [] := rfl
@[go_sem] theorem ren_bool {b : Bool} : AVal.ren f (.bool b) = (.bool b) := rfl
@[go_sem] theorem noTmp_bool {b : Bool} : AVal.noTmp (.bool b) = true := rfl
@[go_sem] theorem ownIds_bool {b : Bool} : AVal.ownIds (.bool b) = [] := rfl
@[go_sem] theorem lend_bool {b : Bool} : AVal.lend h (.bool b) = some (.bool b) := rfl
@[go_sem] theorem cells_bool {b : Bool} : AVal.cells (.bool b) = [(.bool b)] := rfl
@[go_sem] theorem leaf_bool {b : Bool} : AVal.leaf (.bool b) = true := rfl
@[go_sem] theorem flat_bool {b : Bool} : AVal.flat (.bool b) = true := rfl
@[go_sem] theorem szIs_bool {b : Bool} : szIs sz (.bool b) = (false) := rfl
@[go_sem] theorem toNat_bool {b : Bool} : toNat? (.bool b) = none := rfl
@[go_sem] theorem ids_int {k : IntKind} {z : Int} : AVal.ids (.int k z) = [] := rfl
@[go_sem] theorem ren_int {k : IntKind} {z : Int} : AVal.ren f (.int k z) = (.int k z) := rfl
@[go_sem] theorem noTmp_int {k : IntKind} {z : Int} : AVal.noTmp (.int k z) = true := rfl
@[go_sem] theorem ownIds_int {k : IntKind} {z : Int} : AVal.ownIds (.int k z) = [] := rfl
@[go_sem] theorem lend_int {k : IntKind} {z : Int} : AVal.lend h (.int k z) = some (.int k z) := rfl
@[go_sem] theorem cells_int {k : IntKind} {z : Int} : AVal.cells (.int k z) = [(.int k z)] := rfl
@[go_sem] theorem leaf_int {k : IntKind} {z : Int} : AVal.leaf (.int k z) = true := rfl
@[go_sem] theorem flat_int {k : IntKind} {z : Int} : AVal.flat (.int k z) = true := rfl
@[go_sem] theorem szIs_int {k : IntKind} {z : Int} : szIs sz (.int k z) = (false) := rfl
@[go_sem] theorem toNat_int {k : IntKind} {z : Int} : toNat? (.int k z) = (if 0 ≤ z then some z.toNat else none) := rfl
@[go_sem] theorem ids_str {l : List UInt8} : AVal.ids (.str l) = [] := rfl
@[go_sem] theorem ren_str {l : List UInt8} : AVal.ren f (.str l) = (.str l) := rfl
@[go_sem] theorem noTmp_str {l : List UInt8} : AVal.noTmp (.str l) = true := rfl
@[go_sem] theorem ownIds_str {l : List UInt8} : AVal.ownIds (.str l) = [] := rfl
@[go_sem] theorem lend_str {l : List UInt8} : AVal.lend h (.str l) = some (.str l) := rfl
@[go_sem] theorem cells_str {l : List UInt8} : AVal.cells (.str l) = [(.str l)] := rfl
@[go_sem] theorem leaf_str {l : List UInt8} : AVal.leaf (.str l) = true := rfl
@[go_sem] theorem flat_str {l : List UInt8} : AVal.flat (.str l) = true := rfl
@[go_sem] theorem szIs_str {l : List UInt8} : szIs sz (.str l) = (sz == 1) := rfl
@[go_sem] theorem toNat_str {l : List UInt8} : toNat? (.str l) = none := rfl
@[go_sem] theorem ids_lit {v : Value} : AVal.ids (.lit v) = [] := rfl
@[go_sem] theorem ren_lit {v : Value} : AVal.ren f (.lit v) = (.lit v) := rfl
@[go_sem] theorem noTmp_lit {v : Value} : AVal.noTmp (.lit v) = true := rfl
@[go_sem] theorem ownIds_lit {v : Value} : AVal.ownIds (.lit v) = [] := rfl
@[go_sem] theorem lend_lit {v : Value} : AVal.lend h (.lit v) = some (.lit v) := rfl
@[go_sem] theorem cells_lit {v : Value} : AVal.cells (.lit v) = [(.lit v)] := rfl
@[go_sem] theorem leaf_lit {v : Value} : AVal.leaf (.lit v) = v.oneCell' := rfl
@[go_sem] theorem flat_lit {v : Value} : AVal.flat (.lit v) = v.oneCell' := rfl
@[go_sem] theorem toNat_lit {v : Value} : toNat? (.lit v) = none := rfl
@[go_sem] theorem ids_agg {cs : List AVal} : AVal.ids (.agg cs) = idsL cs := rfl
@[go_sem] theorem ren_agg {cs : List AVal} : AVal.ren f (.agg cs) = .agg (renL f cs) := rfl
@[go_sem] theorem noTmp_agg {cs : List AVal} : AVal.noTmp (.agg cs) = noTmpL cs := rfl
@[go_sem] theorem ownIds_agg {cs : List AVal} : AVal.ownIds (.agg cs) = ownIdsL cs := rfl
@[go_sem] theorem cells_agg {cs : List AVal} : AVal.cells (.agg cs) = cs := rfl
@[go_sem] theorem leaf_agg {cs : List AVal} : AVal.leaf (.agg cs) = false := rfl
@[go_sem] theorem flat_agg {cs : List AVal} : AVal.flat (.agg cs) = false := rfl
@[go_sem] theorem szIs_agg {cs : List AVal} : szIs sz (.agg cs) = (false) := rfl
@[go_sem] theorem toNat_agg {cs : List AVal} : toNat? (.agg cs) = none := rfl
@[go_sem] theorem ids_tuple {cs : List AVal} : AVal.ids (.tuple cs) = idsL cs := rfl
@[go_sem] theorem ren_tuple {cs : List AVal} : AVal.ren f (.tuple cs) = .tuple (renL f cs) := rfl
@[go_sem] theorem noTmp_tuple {cs : List AVal} : AVal.noTmp (.tuple cs) = noTmpL cs := rfl
@[go_sem] theorem ownIds_tuple {cs : List AVal} : AVal.ownIds (.tuple cs) = [] := rfl
@[go_sem] theorem lend_tuple {cs : List AVal} : AVal.lend h (.tuple cs) = some (.tuple cs) := rfl
@[go_sem] theorem cells_tuple {cs : List AVal} : AVal.cells (.tuple cs) = [(.tuple cs)] := rfl
@[go_sem] theorem leaf_tuple {cs : List AVal} : AVal.leaf (.tuple cs) = false := rfl
@[go_sem] theorem flat_tuple {cs : List AVal} : AVal.flat (.tuple cs) = false := rfl
@[go_sem] theorem szIs_tuple {cs : List AVal} : szIs sz (.tuple cs) = (false) := rfl
@[go_sem] theorem toNat_tuple {cs : List AVal} : toNat? (.tuple cs) = none := rfl
@[go_sem] theorem ids_iface {t : TypeId} {v : AVal} : AVal.ids (.iface t v) = v.ids := rfl
@[go_sem] theorem ren_iface {t : TypeId} {v : AVal} : AVal.ren f (.iface t v) = .iface t (v.ren f) := rfl
@[go_sem] theorem noTmp_iface {t : TypeId} {v : AVal} : AVal.noTmp (.iface t v) = v.noTmp := rfl
@[go_sem] theorem ownIds_iface {t : TypeId} {v : AVal} : AVal.ownIds (.iface t v) = [] := rfl
@[go_sem] theorem lend_iface {t : TypeId} {v : AVal} : AVal.lend h (.iface t v) = some (.iface t v) := rfl
@[go_sem] theorem cells_iface {t : TypeId} {v : AVal} : AVal.cells (.iface t v) = [(.iface t v)] := rfl
@[go_sem] theorem leaf_iface {t : TypeId} {v : AVal} : AVal.leaf (.iface t v) = true := rfl
@[go_sem] theorem flat_iface {t : TypeId} {v : AVal} : AVal.flat (.iface t v) = false := rfl
@[go_sem] theorem szIs_iface {t : TypeId} {v : AVal} : szIs sz (.iface t v) = (false) := rfl
@[go_sem] theorem toNat_iface {t : TypeId} {v : AVal} : toNat? (.iface t v) = none := rfl
@[go_sem] theorem ids_func {g : Fn} {cs : List AVal} : AVal.ids (.func g cs) = idsL cs := rfl
@[go_sem] theorem ren_func {g : Fn} {cs : List AVal} : AVal.ren f (.func g cs) = .func g (renL f cs) := rfl
@[go_sem] theorem noTmp_func {g : Fn} {cs : List AVal} : AVal.noTmp (.func g cs) = noTmpL cs := rfl
@[go_sem] theorem ownIds_func {g : Fn} {cs : List AVal} : AVal.ownIds (.func g cs) = [] := rfl
@[go_sem] theorem lend_func {g : Fn} {cs : List AVal} : AVal.lend h (.func g cs) = some (.func g cs) := rfl
@[go_sem] theorem cells_func {g : Fn} {cs : List AVal} : AVal.cells (.func g cs) = [(.func g cs)] := rfl
@[go_sem] theorem leaf_func {g : Fn} {cs : List AVal} : AVal.leaf (.func g cs) = true := rfl
@[go_sem] theorem flat_func {g : Fn} {cs : List AVal} : AVal.flat (.func g cs) = false := rfl
@[go_sem] theorem szIs_func {g : Fn} {cs : List AVal} : szIs sz (.func g cs) = (false) := rfl
@[go_sem] theorem toNat_func {g : Fn} {cs : List AVal} : toNat? (.func g cs) = none := rfl
@[go_sem] theorem ids_view {z : Nat} {cs : List AVal} {c t : Bool} : AVal.ids (.view z cs c t) = [] := rfl
@[go_sem] theorem ren_view {z : Nat} {cs : List AVal} {c t : Bool} : AVal.ren f (.view z cs c t) = (.view z cs c t) := rfl
@[go_sem] theorem noTmp_view {z : Nat} {cs : List AVal} {c t : Bool} : AVal.noTmp (.view z cs c t) = !t := rfl
@[go_sem] theorem ownIds_view {z : Nat} {cs : List AVal} {c t : Bool} : AVal.ownIds (.view z cs c t) = [] := rfl
@[go_sem] theorem lend_view {z : Nat} {cs : List AVal} {c t : Bool} : AVal.lend h (.view z cs c t) = some (.view z cs c t) := rfl
@[go_sem] theorem cells_view {z : Nat} {cs : List AVal} {c t : Bool} : AVal.cells (.view z cs c t) = [(.view z cs c t)] := rfl
@[go_sem] theorem leaf_view {z : Nat} {cs : List AVal} {c t : Bool} : AVal.leaf (.view z cs c t) = true := rfl
@[go_sem] theorem szIs_view {z : Nat} {cs : List AVal} {c t : Bool} : szIs sz (.view z cs c t) = (z == sz) := rfl
@[go_sem] theorem toNat_view {z : Nat} {cs : List AVal} {c t : Bool} : toNat? (.view z cs c t) = none := rfl
@[go_sem] theorem ids_rptr {cs : List AVal} {t : Bool} : AVal.ids (.rptr cs t) = idsL cs := rfl
@[go_sem] theorem ren_rptr {cs : List AVal} {t : Bool} : AVal.ren f (.rptr cs t) = .rptr (renL f cs) t := rfl
@[go_sem] theorem noTmp_rptr {cs : List AVal} {t : Bool} : AVal.noTmp (.rptr cs t) = (!t && noTmpL cs) := rfl
@[go_sem] theorem ownIds_rptr {cs : List AVal} {t : Bool} : AVal.ownIds (.rptr cs t) = [] := rfl
@[go_sem] theorem lend_rptr {cs : List AVal} {t : Bool} : AVal.lend h (.rptr cs t) = some (.rptr cs t) := rfl
@[go_sem] theorem cells_rptr {cs : List AVal} {t : Bool} : AVal.cells (.rptr cs t) = [(.rptr cs t)] := rfl
@[go_sem] theorem leaf_rptr {cs : List AVal} {t : Bool} : AVal.leaf (.rptr cs t) = true := rfl
@[go_sem] theorem flat_rptr {cs : List AVal} {t : Bool} : AVal.flat (.rptr cs t) = false := rfl
@[go_sem] theorem szIs_rptr {cs : List AVal} {t : Bool} : szIs sz (.rptr cs t) = (false) := rfl
@[go_sem] theorem toNat_rptr {cs : List AVal} {t : Bool} : toNat? (.rptr cs t) = none := rfl
@[go_sem] theorem ids_own {i z o l : Nat} {c : Bool} : AVal.ids (.own i z o l c) = [i] := rfl
@[go_sem] theorem ren_own {i z o l : Nat} {c : Bool} : AVal.ren f (.own i z o l c) = (match f i with | some k => .own k z o l c | none => .junk) := rfl
@[go_sem] theorem noTmp_own {i z o l : Nat} {c : Bool} : AVal.noTmp (.own i z o l c) = true := rfl
@[go_sem] theorem ownIds_own {i z o l : Nat} {c : Bool} : AVal.ownIds (.own i z o l c) = [i] := rfl
@[go_sem] theorem cells_own {i z o l : Nat} {c : Bool} : AVal.cells (.own i z o l c) = [(.own i z o l c)] := rfl
@[go_sem] theorem leaf_own {i z o l : Nat} {c : Bool} : AVal.leaf (.own i z o l c) = true := rfl
@[go_sem] theorem flat_own {i z o l : Nat} {c : Bool} : AVal.flat (.own i z o l c) = false := rfl
@[go_sem] theorem szIs_own {i z o l : Nat} {c : Bool} : szIs sz (.own i z o l c) = (z == sz) := rfl
@[go_sem] theorem toNat_own {i z o l : Nat} {c : Bool} : toNat? (.own i z o l c) = none := rfl
@[go_sem] theorem ids_ptr {i o : Nat} : AVal.ids (.ptr i o) = [i] := rfl
@[go_sem] theorem ren_ptr {i o : Nat} : AVal.ren f (.ptr i o) = (match f i with | some k => .ptr k o | none => .junk) := rfl
@[go_sem] theorem noTmp_ptr {i o : Nat} : AVal.noTmp (.ptr i o) = true := rfl
@[go_sem] theorem ownIds_ptr {i o : Nat} : AVal.ownIds (.ptr i o) = [] := rfl
@[go_sem] theorem lend_ptr {i o : Nat} : AVal.lend h (.ptr i o) = some (.ptr i o) := rfl
@[go_sem] theorem cells_ptr {i o : Nat} : AVal.cells (.ptr i o) = [(.ptr i o)] := rfl
@[go_sem] theorem leaf_ptr {i o : Nat} : AVal.leaf (.ptr i o) = true := rfl
@[go_sem] theorem flat_ptr {i o : Nat} : AVal.flat (.ptr i o) = false := rfl
@[go_sem] theorem szIs_ptr {i o : Nat} : szIs sz (.ptr i o) = (false) := rfl
@[go_sem] theorem toNat_ptr {i o : Nat} : toNat? (.ptr i o) = none := rfl
@[go_sem] theorem ids_eptr {i j o : Nat} : AVal.ids (.eptr i j o) = [i] := rfl
@[go_sem] theorem ren_eptr {i j o : Nat} : AVal.ren f (.eptr i j o) = (match f i with | some k => .eptr k j o | none => .junk) := rfl
@[go_sem] theorem noTmp_eptr {i j o : Nat} : AVal.noTmp (.eptr i j o) = true := rfl
@[go_sem] theorem ownIds_eptr {i j o : Nat} : AVal.ownIds (.eptr i j o) = [] := rfl
@[go_sem] theorem lend_eptr {i j o : Nat} : AVal.lend h (.eptr i j o) = some (.eptr i j o) := rfl
@[go_sem] theorem cells_eptr {i j o : Nat} : AVal.cells (.eptr i j o) = [(.eptr i j o)] := rfl
@[go_sem] theorem leaf_eptr {i j o : Nat} : AVal.leaf (.eptr i j o) = true := rfl
@[go_sem] theorem flat_eptr {i j o : Nat} : AVal.flat (.eptr i j o) = false := rfl
@[go_sem] theorem szIs_eptr {i j o : Nat} : szIs sz (.eptr i j o) = (false) := rfl
@[go_sem] theorem toNat_eptr {i j o : Nat} : toNat? (.eptr i j o) = none := rfl
@[go_sem] theorem ids_mapr {i : Nat} : AVal.ids (.mapr i) = [i] := rfl
@[go_sem] theorem ren_mapr {i : Nat} : AVal.ren f (.mapr i) = (match f i with | some k => .mapr k | none => .junk) := rfl
@[go_sem] theorem noTmp_mapr {i : Nat} : AVal.noTmp (.mapr i) = true := rfl
@[go_sem] theorem ownIds_mapr {i : Nat} : AVal.ownIds (.mapr i) = [] := rfl
@[go_sem] theorem lend_mapr {i : Nat} : AVal.lend h (.mapr i) = some (.mapr i) := rfl
@[go_sem] theorem cells_mapr {i : Nat} : AVal.cells (.mapr i) = [(.mapr i)] := rfl
@[go_sem] theorem leaf_mapr {i : Nat} : AVal.leaf (.mapr i) = true := rfl
@[go_sem] theorem flat_mapr {i : Nat} : AVal.flat (.mapr i) = false := rfl
@[go_sem] theorem szIs_mapr {i : Nat} : szIs sz (.mapr i) = (false) := rfl
@[go_sem] theorem toNat_mapr {i : Nat} : toNat? (.mapr i) = none := rfl
@[go_sem] theorem ids_junk  : AVal.ids .junk = [] := rfl
@[go_sem] theorem ren_junk  : AVal.ren f .junk = .junk := rfl
@[go_sem] theorem noTmp_junk  : AVal.noTmp .junk = true := rfl
@[go_sem] theorem ownIds_junk  : AVal.ownIds .junk = [] := rfl
@[go_sem] theorem lend_junk  : AVal.lend h .junk = some .junk := rfl
@[go_sem] theorem cells_junk  : AVal.cells .junk = [.junk] := rfl
@[go_sem] theorem leaf_junk  : AVal.leaf .junk = false := rfl
@[go_sem] theorem flat_junk  : AVal.flat .junk = false := rfl
@[go_sem] theorem szIs_junk  : szIs sz .junk = (false) := rfl
@[go_sem] theorem toNat_junk  : toNat? .junk = none := rfl
@[go_sem] theorem flat_view {z : Nat} {cs : List AVal} {c : Bool} : AVal.flat (.view z cs c false) = true := rfl
@[go_sem] theorem flat_viewt {z : Nat} {cs : List AVal} {c : Bool} : AVal.flat (.view z cs c true) = false := rfl
@[go_sem] theorem szIs_nil : szIs sz (.lit (.slice none 0 0)) = true := rfl
@[go_sem] theorem lend_agg {cs : List AVal} : AVal.lend h (.agg cs) = (lendL h cs).map .agg := rfl
@[go_sem] theorem lend_own {i z o l : Nat} {c : Bool} : AVal.lend h (.own i z o l c) = (match h.get i with | some (.row es _) => if o + l ≤ es.length then some (.view z ((es.drop o).take l) c true) else none | _ => none) := rfl
@[go_sem] theorem idsL_nil : idsL [] = [] := rfl
@[go_sem] theorem idsL_cons {c : AVal} {r : List AVal} : idsL (c :: r) = c.ids ++ idsL r := rfl
@[go_sem] theorem renL_nil : renL f [] = [] := rfl
@[go_sem] theorem renL_cons {c : AVal} {r : List AVal} : renL f (c :: r) = c.ren f :: renL f r := rfl
@[go_sem] theorem noTmpL_nil : noTmpL [] = true := rfl
@[go_sem] theorem noTmpL_cons {c : AVal} {r : List AVal} : noTmpL (c :: r) = (c.noTmp && noTmpL r) := rfl
@[go_sem] theorem ownIdsL_nil : ownIdsL [] = [] := rfl
@[go_sem] theorem ownIdsL_cons {c : AVal} {r : List AVal} : ownIdsL (c :: r) = c.ownIds ++ ownIdsL r := rfl
@[go_sem] theorem lendL_nil : lendL h [] = some [] := rfl
@[go_sem] theorem lendL_cons {c : AVal} {r : List AVal} : lendL h (c :: r) = (c.lend h).bind fun c => (lendL h r).bind fun r => some (c :: r) := rfl
@[go_sem] theorem nodeIds_var {cs : List AVal} : Node.ids (.var cs) = idsL cs := rfl
@[go_sem] theorem nodeIds_row {es : List AVal} {z : Nat} : Node.ids (.row es z) = [] := rfl
@[go_sem] theorem nodeIds_map {es : List (AVal × AVal)} : Node.ids (.map es) = [] := rfl
@[go_sem] theorem nodeIds_iter {l : List UInt8} {p : Nat} : Node.ids (.iter l p) = [] := rfl
@[go_sem] theorem nodeRen_var {cs : List AVal} : Node.ren f (.var cs) = .var (renL f cs) := rfl
@[go_sem] theorem nodeRen_row {es : List AVal} {z : Nat} : Node.ren f (.row es z) = .row es z := rfl
@[go_sem] theorem nodeRen_map {es : List (AVal × AVal)} : Node.ren f (.map es) = .map es := rfl
@[go_sem] theorem nodeRen_iter {l : List UInt8} {p : Nat} : Node.ren f (.iter l p) = .iter l p := rfl
@[go_sem] theorem nodeTmp_var {cs : List AVal} : Node.noTmp (.var cs) = noTmpL cs := rfl
@[go_sem] theorem nodeTmp_row {es : List AVal} {z : Nat} : Node.noTmp (.row es z) = true := rfl
@[go_sem] theorem nodeTmp_map {es : List (AVal × AVal)} : Node.noTmp (.map es) = true := rfl
@[go_sem] theorem nodeTmp_iter {l : List UInt8} {p : Nat} : Node.noTmp (.iter l p) = true := rfl
@[go_sem] theorem elems_view {z : Nat} {es : List AVal} {c t : Bool} : elems h (.view z es c t) = some es := rfl
@[go_sem] theorem elems_nil : elems h (.lit (.slice none 0 0)) = some [] := rfl
@[go_sem] theorem elems_own {i z o l : Nat} {c : Bool} : elems h (.own i z o l c) = (match h.get i with | some (.row es _) => if o + l ≤ es.length then some ((es.drop o).take l) else none | _ => none) := rfl
@[go_sem] theorem appended_str {l : List UInt8} : appended h (.str l) = some (l.map .byte) := rfl
@[go_sem] theorem appended_view {z : Nat} {es : List AVal} {c t : Bool} : appended h (.view z es c t) = if t = false ∨ es.all AVal.closed = true then some es else none := by
 cases t
 ·exact (if_pos (.inl rfl)).symm
 ·show (if es.all AVal.closed = true then some es else none) = _
  by_cases hc : es.all AVal.closed = true
  ·rw [if_pos hc, if_pos (.inr hc)]
  ·rw [if_neg hc, if_neg (by simp [hc])]
@[go_sem] theorem closed_bytes {l : List UInt8} : (l.map AVal.byte).all AVal.closed = true := by
 rw [List.all_map]
 exact List.all_eq_true.2 fun _ _ => rfl
@[go_sem] theorem appended_own {i z o l : Nat} {c : Bool} : appended h (.own i z o l c) = elems h (.own i z o l c) := rfl
@[go_sem] theorem appended_nil : appended h (.lit (.slice none 0 0)) = some [] := rfl
def gcW (h : Heap) (roots : List AVal) (l : List Nat) : List AVal × Heap := (renL (place l 0) roots, pickNodes h (place l 0) l)
@[go_sem] theorem gc_eq {m : Nat} {h : Heap} {roots : List AVal} : gc m h roots = gcW h roots (gcList m h (idsL roots)) := rfl
def gcS (m : Nat) (g : List AVal × Heap) : ASt := { env := g.1, heap := g.2, next := m + g.2.length }
@[go_sem] theorem gcSt_eq {m n : Nat} {live : List Nat} {env : List AVal} {h : Heap} : gcSt m live ⟨env, h, n⟩ = gcS m (gc m h (mask live 0 env)) := rfl
@[go_sem] theorem gcS_eq {m : Nat} {env : List AVal} {h : Heap} : gcS m (env, h) = ⟨env, h, m + h.length⟩ := rfl
def oneOf : List AVal → AVal
 | [v] => v
 | vs => .tuple vs
@[go_sem] theorem oneOf_one {v : AVal} : oneOf [v] = v := rfl
@[go_sem] theorem oneOf_nil : oneOf [] = .tuple [] := rfl
@[go_sem] theorem oneOf_more {v u : AVal} {r : List AVal} : oneOf (v :: u :: r) = .tuple (v :: u :: r) := rfl
def finW (g : List AVal × Heap) : Option (AVal × Heap) := some (oneOf g.1, g.2)
@[go_sem] theorem finW_eq {vs : List AVal} {h : Heap} : finW (vs, h) = some (oneOf vs, h) := rfl
@[go_sem] theorem finish_eq {fn : AFn} {m n : Nat} {env : List AVal} {h : Heap} : finish fn m ⟨env, h, n⟩ = (getRes env h fn.results).bind fun vs => finW (gc m h vs) := by
 unfold finish
 simp only
 cases getRes env h fn.results with
 | none => rfl
 | some vs => rfl
attribute [go_sem] gcW List.range_zero List.range_succ List.filter_nil List.filter_cons List.contains_nil List.contains_cons Option.isSome_some Option.isSome_none List.any_nil List.any_cons List.all_nil List.all_cons Option.getD_some Option.getD_none List.getElem?_nil List.getElem?_cons_zero List.getElem?_cons_succ List.append_nil List.drop_zero List.drop_succ_cons List.take_zero List.take_succ_cons List.drop_nil List.take_nil
theorem part_agg {cs : List AVal} {o s : Nat} : part cs o s true = if o + s ≤ cs.length then some (.agg ((cs.drop o).take s)) else none := rfl
theorem part_one {cs : List AVal} {o s : Nat} : part cs o s false = cs[o]? := rfl
attribute [go_sem] part_agg part_one splice fillA ofCells
end
section
variable {env : List AVal} {nid : Nat} {h : Heap}
@[go_sem] theorem aop_mov {x : AOpd} : aop (.mov x) env nid h = (some (x.ev env, h)) := rfl
@[go_sem] theorem aop_pick {c a b : AOpd} : aop (.pick c a b) env nid h = (match c.ev env with
  | .bool t => some (if t then a.ev env else b.ev env, h)
  | _ => none) := rfl
@[go_sem] theorem aop_bin {op : BinOp} {k : EqK} {cst : Bool} {x y : AOpd} : aop (.bin op k cst x y) env nid h = ((aBin op k cst (x.ev env) (y.ev env)).map (·, h)) := rfl
@[go_sem] theorem aop_un {op : UnOp} {x : AOpd} : aop (.un op x) env nid h = ((aUn op (x.ev env)).map (·, h)) := rfl
@[go_sem] theorem aop_cvi {k : IntKind} {x : AOpd} : aop (.cvi k x) env nid h = (match x.ev env with
  | .int _ n => some (.int k (k.wrap n), h)
  | _ => none) := rfl
@[go_sem] theorem aop_cvs {x : AOpd} : aop (.cvs x) env nid h = (match x.ev env with
  | .str s => some (.str s, h)
  | _ => none) := rfl
@[go_sem] theorem aop_cvsb {x : AOpd} : aop (.cvsb x) env nid h = (match x.ev env with
  | .str s => some (.view 1 (s.map .byte) false false, h)
  | _ => none) := rfl
@[go_sem] theorem aop_cvbs {x : AOpd} : aop (.cvbs x) env nid h = (match (elems h (x.ev env)).bind bytesOf with
  | some l => some (.str l, h)
  | none => none) := rfl
@[go_sem] theorem aop_cvb {x : AOpd} : aop (.cvb x) env nid h = (match x.ev env with
  | .own id z off len clip => match h.get id with
   | some (.row es _) => if off + len ≤ es.length ∧ z = 1 then some (.view z ((es.drop off).take len) clip false, h.del id) else none
   | _ => none
  | _ => none) := rfl
@[go_sem] theorem aop_tass {t : TypeId} {ok : Bool} {zero : AVal} {x : AOpd} : aop (.tass t ok zero x) env nid h = (match x.ev env with
  | .iface u v => if u = t then some (if ok then .tuple [v, .bool true] else v, h) else if ok then some (.tuple [zero, .bool false], h) else none
  | .lit .nilIface => if ok then some (.tuple [zero, .bool false], h) else none
  | _ => none) := rfl
@[go_sem] theorem aop_alloc {zero : List AVal} : aop (.alloc zero) env nid h = (some (.ptr nid 0, h ++ [(nid, .var zero)])) := rfl
@[go_sem] theorem aop_box {x : AOpd} : aop (.box x) env nid h = (let v := x.ev env
  if v.cells.all AVal.leaf then some (.ptr nid 0, h ++ [(nid, .var v.cells)]) else none) := rfl
@[go_sem] theorem aop_build {zero : List AVal} {parts : List (Nat × Nat × AOpd)} : aop (.build zero parts) env nid h = (match fillA zero (parts.map fun (o, s, x) => (o, s, x.ev env)) with
  | some cs => some (.agg cs, h)
  | none => none) := rfl
@[go_sem] theorem aop_bslice {sz len : Nat} {zero : List AVal} {parts : List AOpd} : aop (.bslice sz len zero parts) env nid h = (match consumeL h (parts.map (·.ev env)) with
  | none => none
  | some (vs, h) =>
  if vs.all AVal.closed = false then (if vs.length = len ∧ allSz sz vs = true ∧ vs.all AVal.closedT = true ∧ 0 < sz ∧ zero.length = sz ∧ len * sz ≤ 16777216 then some (.view sz vs true true, h) else none) else
  if vs.length = len ∧ allSz sz vs ∧ vs.all AVal.closed ∧ 0 < sz ∧ zero.length = sz ∧ len * sz ≤ 16777216 then some (.own nid sz 0 len false, h ++ [(nid, .row vs sz)]) else none) := rfl
@[go_sem] theorem aop_fa {off : Nat} {x : AOpd} : aop (.fa off x) env nid h = (match x.ev env with
  | .ptr id o => some (.ptr id (o + off), h)
  | .eptr id i o => some (.eptr id i (o + off), h)
  | .rptr cs tmp => some (.rptr (cs.drop off) tmp, h)
  | _ => none) := rfl
@[go_sem] theorem aop_fld {off sz : Nat} {agg : Bool} {x : AOpd} : aop (.fld off sz agg x) env nid h = (match x.ev env with
  | .agg cs => (part cs off sz agg).map (·, h)
  | _ => none) := rfl
@[go_sem] theorem aop_nilck {x : AOpd} : aop (.nilck x) env nid h = (match x.ev env with
  | .ptr id o => some (.ptr id o, h)
  | .eptr id i o => some (.eptr id i o, h)
  | .rptr cs tmp => some (.rptr cs tmp, h)
  | _ => none) := rfl
@[go_sem] theorem aop_slc {sz : Nat} {x : AOpd} {lo hi mx : Option AOpd} : aop (.slc sz x lo hi mx) env nid h = (match x.ev env with
  | .str _ => none
  | v => (aSlice sz v (lo.map (·.ev env)) (hi.map (·.ev env)) (mx.map (·.ev env))).map (·, h)) := rfl
@[go_sem] theorem aop_slct {x : AOpd} {lo hi : Option AOpd} : aop (.slct x lo hi) env nid h = (match x.ev env with
  | .str s => (aSlice 1 (.str s) (lo.map (·.ev env)) (hi.map (·.ev env)) none).map (·, h)
  | _ => none) := rfl
@[go_sem] theorem aop_mksl {bytes sz : Nat} {zero : List AVal} {n c : AOpd} : aop (.mksl bytes sz zero n c) env nid h = (match n.ev env, c.ev env with
  | .int .i64 n, .int .i64 c =>
   if 0 ≤ n ∧ n ≤ c ∧ c.toNat * bytes ≤ roomMax ∧ c ≤ 9223372036854775807 ∧ zero.length = sz ∧ 0 < sz ∧ zero.all AVal.flat ∧ zero.all AVal.leaf then
    some (.own nid sz 0 n.toNat false, h ++ [(nid, .row (List.replicate n.toNat (if sz = 1 then zero.headD .junk else .agg zero)) sz)])
   else none
  | _, _ => none) := rfl
@[go_sem] theorem aop_ext {x : AOpd} {i : Nat} : aop (.ext x i) env nid h = (match x.ev env with
  | .tuple vs => vs[i]?.map (·, h)
  | _ => none) := rfl
@[go_sem] theorem aop_len0 {x : AOpd} : aop (.len 0 x) env nid h = (match x.ev env with
  | .str s => some (.int .i64 s.length, h)
  | _ => none) := rfl
@[go_sem] theorem aop_len2 {x : AOpd} : aop (.len 2 x) env nid h = (match x.ev env with
  | .mapr id => match h.get id with
   | some (.map es) => some (.int .i64 es.length, h)
   | _ => none
  | _ => none) := rfl
@[go_sem] theorem aop_app {bytes sz : Nat} {s x : AOpd} : aop (.app bytes sz s x) env nid h = (if szIs sz (x.ev env) = true ∧ 0 < sz then
   match appended h (x.ev env) with
   | some xs => appendTo bytes sz (s.ev env) xs nid h
   | none => none
  else none) := rfl
@[go_sem] theorem aop_appz {bytes sz : Nat} {zero : List AVal} {s x : AOpd} : aop (.appz bytes sz zero s x) env nid h = (match x.ev env with
  | .int .i64 n => if 0 ≤ n ∧ n ≤ 9223372036854775807 ∧ n.toNat * bytes ≤ roomMax ∧ zero.length = sz ∧ 0 < sz ∧ zero.all AVal.flat = true then
    appendTo bytes sz (s.ev env) (List.replicate n.toNat (if sz = 1 then zero.headD .junk else .agg zero)) nid h
   else none
  | _ => none) := rfl
@[go_sem] theorem aop_copy {sz : Nat} {d s : AOpd} : aop (.copy sz d s) env nid h = (if szIs sz (s.ev env) = true then
  match appended h (s.ev env), d.ev env with
  | some xs, .own id z off len _ => match h.get id with
   | some (.row es _) =>
    let n := min xs.length len
    if z = sz ∧ off + len ≤ es.length then some (.int .i64 n, h.put id (.row (es.take off ++ xs.take n ++ es.drop (off + n)) z)) else none
   | _ => none
  | _, _ => none
  else none) := rfl
@[go_sem] theorem aop_minmax {mx : Bool} {x y : AOpd} : aop (.minmax mx x y) env nid h = (match x.ev env, y.ev env with
  | .int k a, .int _ b => some (.int k (if mx then (if a < b then b else a) else (if b < a then b else a)), h)
  | _, _ => none) := rfl
@[go_sem] theorem aop_mkfn {fn : Fn} {cs : List AOpd} : aop (.mkfn fn cs) env nid h = (some (.func fn (cs.map (·.ev env)), h)) := rfl
@[go_sem] theorem aop_mkmap  : aop .mkmap env nid h = (some (.mapr nid, h ++ [(nid, .map [])])) := rfl
@[go_sem] theorem aop_range {x : AOpd} : aop (.range x) env nid h = (match x.ev env with
  | .str l => some (.ptr nid 0, h ++ [(nid, .iter l 0)])
  | _ => none) := rfl
@[go_sem] theorem aop_next {x : AOpd} : aop (.next x) env nid h = (match x.ev env with
  | .ptr id 0 => match h.get id with
   | some (.iter l pos) =>
    if pos < l.length then
     let r := Utf8.decode ⟨l.toArray⟩ pos
     some (.tuple [.bool true, .int .i64 pos, .int .i32 r.1], h.put id (.iter l (pos + r.2)))
    else some (.tuple [.bool false], h)
   | _ => none
  | _ => none) := rfl
@[go_sem] theorem aop_bad  : aop .bad env nid h = (none) := rfl
def mkifV (t : TypeId) (v : AVal) (h : Heap) : Option (AVal × Heap) := match v with
  | .junk => none
  | v => some (.iface t v, h)
@[go_sem] theorem aop_mkif {t : TypeId} {x : AOpd} : aop (.mkif t x) env nid h = mkifV t (x.ev env) h := rfl
@[go_sem] theorem mkifV_int {t : TypeId} {k : IntKind} {i : Int} : mkifV t (.int k i) h = some (.iface t (.int k i), h) := rfl
@[go_sem] theorem mkifV_str {t : TypeId} {l : List UInt8} : mkifV t (.str l) h = some (.iface t (.str l), h) := rfl
end
end Go.Abs
namespace Go.Abs
variable {A : AProg} {m nid n : Nat} {d : Option Nat} {env : List AVal} {h : Heap} {st : ASt} {S : List Frame} {F : FinP} {ops : List AOper} {a b : ACode} {op : AOp} {ps : List (Nat × Nat)} {base : Nat} {fs : List Foot}
class BoolP (t : Bool) (p q : outParam Prop) : Prop where
 yes : t = true → p
 no : t = false → q
instance (priority := low) boolP_any {t : Bool} : BoolP t (t = true) (t = false) := ⟨id, id⟩
instance boolP_dec {p : Prop} [Decidable p] : BoolP (decide p) p (¬ p) := ⟨of_decide_eq_true, of_decide_eq_false⟩
instance boolP_ndec {p : Prop} [Decidable p] : BoolP (!decide p) (¬ p) p := ⟨fun h => by simpa using h, fun h => by simpa using h⟩
class Brn (P : Prop) (t : outParam Bool) (P1 P0 : outParam Prop) : Prop where
 out : (t = true → P1) → (t = false → P0) → P
instance brn_gd {t want : Bool} : Brn (GD A m (.bool t) want d op ops nid env h n S F) t (GD A m (.bool true) want d op ops nid env h n S F) (GD A m (.bool false) want d op ops nid env h n S F) := ⟨gd_of⟩
instance brn_cd {t : Bool} : Brn (CD A m (.bool t) a b st S F) t (EX A m a st S F) (EX A m b st S F) := ⟨cd_of⟩
instance brn_gdd {t want : Bool} : Brn (GDD A m ps base fs (.bool t) want d op ops nid env h n S F) t (GDD A m ps base fs (.bool true) want d op ops nid env h n S F) (GDD A m ps base fs (.bool false) want d op ops nid env h n S F) := ⟨gdd_of⟩
theorem br {P P1 P0 p q : Prop} {t : Bool} [hb : Brn P t P1 P0] [ht : BoolP t p q] (h1 : p → P1) (h2 : q → P0) : P := hb.out (fun h => h1 (ht.yes h)) (fun h => h2 (ht.no h))
def mv (a b : Nat) : AOper := ⟨some a, .mov (.t b), none⟩
def oo (a : Nat) (x : AOp) : AOper := ⟨some a, x, none⟩
def og (a : Nat) (x : AOp) (g : Nat) (w : Bool) : AOper := ⟨some a, x, some (g, w)⟩
def cl (a f : Nat) (xs : List AOpd) : AOper := ⟨some a, .call (.c (.func (.func f) [])) xs, none⟩
def rg (l : List AOper) : ACode := .reg false [] l
def ci (n : Int) : AOpd := .c (.int .i64 n)
@[go_sem] theorem mv_eq {a b : Nat} : mv a b = ⟨some a, .mov (.t b), none⟩ := rfl
@[go_sem] theorem oo_eq {a : Nat} {x : AOp} : oo a x = ⟨some a, x, none⟩ := rfl
@[go_sem] theorem og_eq {a g : Nat} {x : AOp} {w : Bool} : og a x g w = ⟨some a, x, some (g, w)⟩ := rfl
@[go_sem] theorem cl_eq {a f : Nat} {xs : List AOpd} : cl a f xs = ⟨some a, .call (.c (.func (.func f) [])) xs, none⟩ := rfl
@[go_sem] theorem rg_eq {l : List AOper} : rg l = .reg false [] l := rfl
@[go_sem] theorem ci_eq {n : Int} : ci n = .c (.int .i64 n) := rfl
end Go.Abs
namespace Go.Abs
section
variable {e : EqK} {c : Bool} {k : IntKind} {x y : Int} {s t : List UInt8} {v w : AVal}
theorem wrap_i64 (h1 : -9223372036854775808 ≤ x) (h2 : x ≤ 9223372036854775807) : IntKind.i64.wrap x = x := IntWalk.i64_in x ⟨h1, h2⟩
theorem wrap_u8 (h1 : 0 ≤ x) (h2 : x ≤ 255) : IntKind.u8.wrap x = x := IntWalk.u8_in x ⟨h1, h2⟩
theorem wrap_i32 (h1 : -2147483648 ≤ x) (h2 : x ≤ 2147483647) : IntKind.i32.wrap x = x := IntWalk.i32_in x ⟨h1, h2⟩
theorem wrap_u32 (h1 : 0 ≤ x) (h2 : x ≤ 4294967295) : IntKind.u32.wrap x = x := IntWalk.u32_in x ⟨h1, h2⟩
theorem wrap_u64 (h1 : 0 ≤ x) (h2 : x ≤ 18446744073709551615) : IntKind.u64.wrap x = x := IntWalk.u64_in x ⟨h1, h2⟩
theorem toNat_succ {i : Int} (h : 0 ≤ i) : (i + 1).toNat = i.toNat + 1 := by omega
theorem u8_back (c : UInt8) : c.toNat.toUInt8 = c := by simp
theorem cast_lit (n : Nat) : (((no_index (OfNat.ofNat n)) : Nat) : Int) = OfNat.ofNat n := rfl
@[go_sem] theorem aBin_add : aBin .add e c (.int k x) (.int k y) = some (.int k (k.wrap (x + y))) := by simp [aBin, intOp]
@[go_sem] theorem aBin_sub : aBin .sub e c (.int k x) (.int k y) = some (.int k (k.wrap (x - y))) := by simp [aBin, intOp]
@[go_sem] theorem aBin_mul : aBin .mul e c (.int k x) (.int k y) = some (.int k (k.wrap (x * y))) := by simp [aBin, intOp]
@[go_sem] theorem aBin_quo : aBin .quo e c (.int k x) (.int k y) = if y = 0 then none else some (.int k (k.wrap (x.tdiv y))) := by simp [aBin, intOp]
@[go_sem] theorem aBin_rem : aBin .rem e c (.int k x) (.int k y) = if y = 0 then none else some (.int k (x.tmod y)) := by simp [aBin, intOp]
@[go_sem] theorem aBin_and : aBin .and e c (.int k x) (.int k y) = some (.int k (k.wrap (BitVec.ofInt k.bits x &&& BitVec.ofInt k.bits y).toNat)) := by simp [aBin, intOp]
@[go_sem] theorem aBin_or : aBin .or e c (.int k x) (.int k y) = some (.int k (k.wrap (BitVec.ofInt k.bits x ||| BitVec.ofInt k.bits y).toNat)) := by simp [aBin, intOp]
@[go_sem] theorem aBin_shl {k' : IntKind} : aBin .shl e c (.int k x) (.int k' y) = if y < 0 then none else some (.int k (k.wrap (x * 2 ^ (min y.toNat k.bits)))) := by simp [aBin, intOp]
@[go_sem] theorem aBin_shr {k' : IntKind} : aBin .shr e c (.int k x) (.int k' y) = if y < 0 then none else some (.int k (x.fdiv (2 ^ (min y.toNat k.bits)))) := by simp [aBin, intOp]
@[go_sem] theorem aBin_eql : aBin .eql e c (.int k x) (.int k y) = some (.bool (decide (x = y))) := by
 simp [aBin, intOp]
 rfl
@[go_sem] theorem aBin_neq : aBin .neq e c (.int k x) (.int k y) = some (.bool (!decide (x = y))) := by
 simp [aBin, intOp]
 rfl
@[go_sem] theorem aBin_lss : aBin .lss e c (.int k x) (.int k y) = some (.bool (decide (x < y))) := by simp [aBin, intOp]
@[go_sem] theorem aBin_leq : aBin .leq e c (.int k x) (.int k y) = some (.bool (decide (x ≤ y))) := by simp [aBin, intOp]
@[go_sem] theorem aBin_gtr : aBin .gtr e c (.int k x) (.int k y) = some (.bool (decide (y < x))) := by simp [aBin, intOp]
@[go_sem] theorem aBin_geq : aBin .geq e c (.int k x) (.int k y) = some (.bool (decide (y ≤ x))) := by simp [aBin, intOp]
@[go_sem] theorem aBin_sadd : aBin .add e c (.str s) (.str t) = if s.length + t.length ≤ strMax then some (.str (s ++ t)) else none := by simp [aBin, strOp]
@[go_sem] theorem aBin_seql : aBin .eql e c (.str s) (.str t) = some (.bool (decide (s = t))) := by
 simp [aBin, strOp]
 by_cases h : s = t <;> simp [h]
@[go_sem] theorem aBin_sneq : aBin .neq e c (.str s) (.str t) = some (.bool (!decide (s = t))) := by
 simp [aBin, strOp]
 by_cases h : s = t <;> simp [h]
@[go_sem] theorem aBin_slss : aBin .lss e c (.str s) (.str t) = some (.bool (Op.bytesLess s t)) := by simp [aBin, strOp]
@[go_sem] theorem aBin_sgeq : aBin .geq e c (.str s) (.str t) = some (.bool (!Op.bytesLess s t)) := by simp [aBin, strOp]
@[go_sem] theorem aBin_sgtr : aBin .gtr e c (.str s) (.str t) = some (.bool (!(Op.bytesLess s t || decide (s = t)))) := by
 simp [aBin, strOp]
 by_cases h : s = t <;> simp [h]
variable {a b : Bool} {ts : List TypeId} {u u' : TypeId} {z : Nat} {es : List AVal} {cl tmp : Bool} {id off len p q : Nat}
@[go_sem] theorem aBin_beql : aBin .eql .bool c (.bool a) (.bool b) = some (.bool (a == b)) := rfl
@[go_sem] theorem aBin_bneq : aBin .neq .bool c (.bool a) (.bool b) = some (.bool (!(a == b))) := rfl
@[go_sem] theorem aBin_nn : aBin .eql (.iface ts) true (.lit .nilIface) (.lit .nilIface) = some (.bool true) := rfl
@[go_sem] theorem aBin_nn' : aBin .neq (.iface ts) true (.lit .nilIface) (.lit .nilIface) = some (.bool false) := rfl
@[go_sem] theorem aBin_ni : aBin .eql (.iface ts) c (.lit .nilIface) (.iface u v) = some (.bool false) := rfl
@[go_sem] theorem aBin_ni' : aBin .neq (.iface ts) c (.lit .nilIface) (.iface u v) = some (.bool true) := rfl
@[go_sem] theorem aBin_in : aBin .eql (.iface ts) c (.iface u v) (.lit .nilIface) = some (.bool false) := rfl
@[go_sem] theorem aBin_in' : aBin .neq (.iface ts) c (.iface u v) (.lit .nilIface) = some (.bool true) := rfl
@[go_sem] theorem aBin_snn : aBin .eql .slice c (.lit (.slice none p q)) (.lit (.slice none p q)) = some (.bool true) := rfl
@[go_sem] theorem aBin_snn' : aBin .neq .slice c (.lit (.slice none p q)) (.lit (.slice none p q)) = some (.bool false) := rfl
@[go_sem] theorem aBin_svn : aBin .eql .slice c (.view z es cl tmp) (.lit (.slice none p q)) = some (.bool false) := rfl
@[go_sem] theorem aBin_svn' : aBin .neq .slice c (.view z es cl tmp) (.lit (.slice none p q)) = some (.bool true) := rfl
@[go_sem] theorem aBin_son : aBin .eql .slice c (.own id z off len cl) (.lit (.slice none p q)) = some (.bool false) := rfl
@[go_sem] theorem aBin_son' : aBin .neq .slice c (.own id z off len cl) (.lit (.slice none p q)) = some (.bool true) := rfl
@[go_sem] theorem aBin_pnn : aBin .eql .ptr c (.lit (.pointer none)) (.lit (.pointer none)) = some (.bool true) := rfl
@[go_sem] theorem aBin_pnn' : aBin .neq .ptr c (.lit (.pointer none)) (.lit (.pointer none)) = some (.bool false) := rfl
@[go_sem] theorem aBin_ppn : aBin .eql .ptr c (.ptr id off) (.lit (.pointer none)) = some (.bool false) := rfl
@[go_sem] theorem aBin_ppn' : aBin .neq .ptr c (.ptr id off) (.lit (.pointer none)) = some (.bool true) := rfl
@[go_sem] theorem aUn_not : aUn .not (.bool b) = some (.bool (!b)) := rfl
@[go_sem] theorem aUn_neg : aUn .neg (.int k x) = some (.int k (k.wrap (0 - x))) := rfl
attribute [go_sem] AVal.closed AVal.undef AVal.nilS AVal.nilI AVal.nilP AVal.byte
attribute [go_sem] Option.map_some Option.map_none Option.bind_some Option.bind_none List.length_map
end
section
variable {A : AProg} {m nid n : Nat} {d : Option Nat} {env : List AVal} {h h' : Heap} {st : ASt} {S : List Frame} {F : FinP} {ops : List AOper} {s : List UInt8} {k : IntKind} {i : Int} {α : Type} {l : List α} {f : α → AVal} {x y : AOpd}
def ixsV (v w : AVal) (h : Heap) : Option (AVal × Heap) := match v, toNat? w with
 | .str s, some i => match s[i]? with
  | some b => some (.byte b, h)
  | none => none
 | _, _ => none
@[go_sem high] theorem aop_ixs : aop (.ixs x y) env nid h = ixsV (x.ev env) (y.ev env) h := rfl
theorem xp_ixs {K : AVal × Heap → Prop} : (∃ r, ixsV (.str s) (.int k i) h = some r ∧ K r) ↔ (0 ≤ i ∧ i.toNat < s.length) ∧ ∀ b, s[i.toNat]? = some b → K (.int .u8 b.toNat, h) := by
 unfold ixsV toNat?
 by_cases h0 : 0 ≤ i
 ·simp only [h0, if_true, true_and]
  by_cases h1 : i.toNat < s.length
  ·simp [List.getElem?_eq_getElem h1, h1, AVal.byte]
  ·simp [List.getElem?_eq_none (Nat.not_lt.1 h1), h1]
 ·simp [h0]
variable {ps : List (Nat × Nat)} {base : Nat} {fs : List Foot} {ft : Foot}
@[go_sem] theorem op_ixs : OP A m (ixsV (.str s) (.int k i) h) d ops nid env n S F ↔ (0 ≤ i ∧ i.toNat < s.length) ∧ ∀ b, s[i.toNat]? = some b → RN A m ops (nid + stride) (setAt d (.int .u8 b.toNat) env) h n S F := xp_ixs
end
end Go.Abs
