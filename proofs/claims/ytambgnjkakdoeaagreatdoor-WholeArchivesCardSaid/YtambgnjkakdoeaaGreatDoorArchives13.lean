import Derived.Test.YtambgnjkakdoeaaGreatDoorArchives12
/- PART OF A PROOF (texts joined by a program): F130 F131 F68 F132 F133 F134 F135 F70 F71 B6 F72 B3 F39 F73 F74 F75 F76 F77 F78 F79 F80 F81 F69 F82 F136 F137 F138 F139. -/
set_option linter.unusedVariables false
set_option linter.unusedSimpArgs false
set_option linter.unusedSectionVars false
namespace Go.Abs
open Am Go.Proofs
set_option maxRecDepth 20000
def namedB (t : List Ent) (p : List UInt8) : Bool := t.any fun e => decide (e.path = p)
theorem h90 (c tmp : Bool) (t : List Ent) (ht : t.length ≤ 1000000) (p : List UInt8) : ∀ (l d : List Ent) (i : Int), t = d ++ l → i = d.length →
  HD AA 0 [0, 1, 4, 5] l90_0 ⟨[.view 8 (t.map Ent.av) c tmp, .str p, .junk, .junk, .bool false, .int .i64 i, .junk, .junk, .junk, .junk, .junk, .junk, .junk, .junk, .junk, .junk, .junk, .junk, .junk], [], 0⟩ [.blk 0, .code r90_0] (Fin [(4, none)] 0 (.bool (namedB l p)) [])
 | [], d, i, h1, h2 => by
  have hl : t.length = d.length := by rw [h1]; simp
  have e : namedB [] p = false := rfl
  rw [e]
  refine hd_of (by unfold l90_0; rfl) ?_
  have gg:=trivial;repeat' first|simp (maxSteps:=2000000) (disch:=omega) only [gg,r90_0,go_sem]|(refine br ?_ ?_<;>intro gg<;>try omega)|(apply And.intro;focus omega)|omega
 | x :: l, d, i, h1, h2 => by
  have hl : t.length = d.length + (l.length + 1) := by rw [h1]; simp
  have hg : t[i.toNat]? = some x := by rw [h1, h2]; simp
  have ih := h90 c tmp t ht p l (d ++ [x]) (i + 1) (by simp [h1]) (by simp [h2])
  refine hd_of (by unfold l90_0; rfl) ?_
  by_cases g : x.path = p
  ·have d1 : decide (x.path = p) = true := decide_eq_true g
   have e : namedB (x :: l) p = true := by simp [namedB, g]
   rw [e]
   clear ih
   have gg:=trivial;repeat' first|simp (maxSteps:=2000000) (disch:=omega) only [gg,hg,d1,go_sem]|(refine br ?_ ?_<;>intro gg<;>try omega)|(apply And.intro;focus omega)|omega
  ·have d1 : decide (x.path = p) = false := decide_eq_false g
   have e : namedB (x :: l) p = namedB l p := by simp [namedB, g]
   rw [e]
   generalize namedB l p = B at *
   have gg:=trivial;repeat' first|simp (maxSteps:=2000000) (disch:=omega) only [gg,hg,d1,lp_head,go_sem]|(refine br ?_ ?_<;>intro gg<;>try omega)|(apply And.intro;focus omega)|omega
theorem s90 (c tmp : Bool) (t : List Ent) (ht : t.length ≤ 1000000) (p : List UInt8) : callT AA 90 [.view 8 (t.map Ent.av) c tmp, .str p] [] = some (.bool (namedB t p), []) := by
 have hh := h90 c tmp t ht p t [] 0 rfl rfl
 refine enter fn90 np90 rfl ?_
 have gg:=trivial;repeat' first|simp (maxSteps:=2000000) (disch:=omega) only [gg,b90,lp_head,go_sem]|(refine br ?_ ?_<;>intro gg<;>try omega)|(apply And.intro;focus omega)|omega
theorem ent_snoc (l : List Ent) (e : Ent) : l.map Ent.av ++ [e.av] = (l ++ [e]).map Ent.av := by simp
set_option maxHeartbeats 4000000 in
theorem h89d (c tmp : Bool) (t : List Ent) (ht : t.length ≤ 1000000) (hq : ∀ x ∈ t, x.data.isTmp = false) (e : Ent) (O : List Ent) : ∀ (l d X : List Ent) (i : Int), t = d ++ l → i = d.length → O = X ++ l → X.length ≤ d.length + 1 → X ≠ [] →
  HD AA 0 [0, 3, 4, 5, 6, 7] l89_0 ⟨[.view 8 (t.map Ent.av) c tmp, .junk, .junk, .ptr 0 0, .lit (.slice none 0 0), .own 1 8 0 X.length false, .bool true, .int .i64 i, .junk, .junk, .junk, .junk, .junk, .junk, .junk, .junk, .junk, .junk, .junk, .junk, .junk, .junk, .junk, .junk, .junk, .junk, .junk, .junk, .junk, .junk, .junk, .junk, .junk, .junk, .junk, .junk, .junk, .junk, .junk, .junk, .junk, .junk, .junk, .junk, .junk], [(0, .var e.av.cells), (1, .row (X.map Ent.av) 8)], 2⟩ [.blk 0, .code r89_0] (Fin [(4, none)] 0 (.own 0 8 0 O.length false) [(0, .row (O.map Ent.av) 8)])
 | [], d, X, i, h1, h2, h3, h4, h5 => by
  have hl : t.length = d.length := by rw [h1]; simp
  rw [List.append_nil] at h3
  subst h3
  refine hd_of (by unfold l89_0; rfl) ?_
  have gg:=trivial;repeat' first|simp (maxSteps:=2000000) (disch:=omega) only [gg,r89_0,go_sem]|(refine br ?_ ?_<;>intro gg<;>try omega)|(apply And.intro;focus omega)|omega
 | x :: l, d, X, i, h1, h2, h3, h4, h5 => by
  have hl : t.length = d.length + (l.length + 1) := by rw [h1]; simp
  have hg : t[i.toNat]? = some x := by rw [h1, h2]; simp
  have hx := hq x (by rw [h1]; simp)
  have ih := h89d c tmp t ht hq e O l (d ++ [x]) (X ++ [x]) (i + 1) (by simp [h1]) (by simp [h2]) (by simp [h3]) (by simp; omega) (by simp)
  have sn : X.map Ent.av ++ [.agg [.str x.path, .int .i64 x.kind, .int .i64 x.mode, .int .i64 x.uid, .int .i64 x.gid, .int .i64 x.time, .str x.link, x.data.av]] = (X ++ [x]).map Ent.av := ent_snoc X x
  have dl : (X ++ [x]).length = X.length + 1 := by simp
  have tk : (X.map Ent.av).take X.length = X.map Ent.av := List.take_of_length_le (by simp)
  rw [dl] at ih
  clear h3
  refine hd_of (by unfold l89_0; rfl) ?_
  generalize hX2 : X ++ [x] = X2 at *
  have gg:=trivial;repeat' first|simp (maxSteps:=2000000) (disch:=omega) only [gg,hg,hx,sn,tk,lp_head,go_sem]|(refine br ?_ ?_<;>intro gg<;>try omega)|(apply And.intro;focus omega)|omega
  all_goals exact ih
theorem insK_lt {e x : Ent} {l : List Ent} (h : cmpPath e.path x.path < 0) : insK Ent.path e (x :: l) = e :: x :: l := by
 unfold insK
 exact if_pos (decide_eq_true h)
theorem insK_ge {e x : Ent} {l : List Ent} (h : ¬ cmpPath e.path x.path < 0) : insK Ent.path e (x :: l) = x :: insK Ent.path e l := by
 show (if pLt e.path x.path = true then _ else _) = _
 rw [if_neg (by unfold pLt; simpa using h)]
set_option maxHeartbeats 4000000 in
theorem h89a (c tmp : Bool) (t : List Ent) (ht : t.length ≤ 1000000) (hq : ∀ x ∈ t, x.data.isTmp = false ∧ x.path.length ≤ 1000000) (e : Ent) (he : e.data.isTmp = false ∧ e.path.length ≤ 1000000) (O : List Ent) : ∀ (l d : List Ent) (i : Int), t = d ++ l → i = d.length → O = d ++ insK Ent.path e l → d ≠ [] →
  HD AA 0 [0, 3, 4, 5, 6, 7] l89_0 ⟨[.view 8 (t.map Ent.av) c tmp, .junk, .junk, .ptr 0 0, .lit (.slice none 0 0), .own 1 8 0 d.length false, .bool false, .int .i64 i, .junk, .junk, .junk, .junk, .junk, .junk, .junk, .junk, .junk, .junk, .junk, .junk, .junk, .junk, .junk, .junk, .junk, .junk, .junk, .junk, .junk, .junk, .junk, .junk, .junk, .junk, .junk, .junk, .junk, .junk, .junk, .junk, .junk, .junk, .junk, .junk, .junk], [(0, .var e.av.cells), (1, .row (d.map Ent.av) 8)], 2⟩ [.blk 0, .code r89_0] (Fin [(4, none)] 0 (.own 0 8 0 O.length false) [(0, .row (O.map Ent.av) 8)])
 | [], d, i, h1, h2, h3, h5 => by
  have hl : t.length = d.length := by rw [h1]; simp
  have sn : d.map Ent.av ++ [.agg [.str e.path, .int .i64 e.kind, .int .i64 e.mode, .int .i64 e.uid, .int .i64 e.gid, .int .i64 e.time, .str e.link, e.data.av]] = (d ++ [e]).map Ent.av := ent_snoc d e
  have hO : O = d ++ [e] := h3
  have dl : O.length = d.length + 1 := by rw [hO]; simp
  have tk : (d.map Ent.av).take d.length = d.map Ent.av := List.take_of_length_le (by simp)
  rw [← hO] at sn
  rw [dl]
  have hx := he.1
  clear h3 hO
  refine hd_of (by unfold l89_0; rfl) ?_
  have gg:=trivial;repeat' first|simp (maxSteps:=2000000) (disch:=omega) only [gg,r89_0,hx,sn,tk,go_sem]|(refine br ?_ ?_<;>intro gg<;>try omega)|(apply And.intro;focus omega)|omega
 | x :: l, d, i, h1, h2, h3, h5 => by
  have hl : t.length = d.length + (l.length + 1) := by rw [h1]; simp
  have hg : t[i.toNat]? = some x := by rw [h1, h2]; simp
  have hxq := hq x (by rw [h1]; simp)
  have hx := hxq.1
  have hy := he.1
  have c78 := s78 e.path x.path he.2 hxq.2
  have tk : (d.map Ent.av).take d.length = d.map Ent.av := List.take_of_length_le (by simp)
  refine hd_of (by unfold l89_0; rfl) ?_
  by_cases hc : cmpPath e.path x.path < 0
  ·have d1 : decide (cmpPath e.path x.path < 0) = true := decide_eq_true hc
   rw [insK_lt hc] at h3
   have ih := h89d c tmp t ht (fun x hx => (hq x hx).1) e O l (d ++ [x]) (d ++ [e] ++ [x]) (i + 1) (by simp [h1]) (by simp [h2]) (by simp [h3]) (by simp) (by simp)
   have sn1 : d.map Ent.av ++ [.agg [.str e.path, .int .i64 e.kind, .int .i64 e.mode, .int .i64 e.uid, .int .i64 e.gid, .int .i64 e.time, .str e.link, e.data.av]] = (d ++ [e]).map Ent.av := ent_snoc d e
   have sn2 : (d ++ [e]).map Ent.av ++ [.agg [.str x.path, .int .i64 x.kind, .int .i64 x.mode, .int .i64 x.uid, .int .i64 x.gid, .int .i64 x.time, .str x.link, x.data.av]] = (d ++ [e] ++ [x]).map Ent.av := ent_snoc _ x
   have tk2 : ((d ++ [e]).map Ent.av).take (d.length + 1) = (d ++ [e]).map Ent.av := List.take_of_length_le (by simp)
   have l2 : (d ++ [e] ++ [x]).length = d.length + 1 + 1 := by simp
   have l1 : (d ++ [e]).length = d.length + 1 := by simp
   rw [l2] at ih
   generalize d ++ [e] ++ [x] = D2 at *
   generalize d ++ [e] = D1 at *
   generalize cmpPath e.path x.path = C at *
   clear h3
   have gg:=trivial;repeat' first|simp (maxSteps:=2000000) (disch:=omega) only [gg,hg,c78,d1,hx,hy,sn1,sn2,tk,tk2,l1,lp_head,go_sem]|(refine br ?_ ?_<;>intro gg<;>try omega)|(apply And.intro;focus omega)|omega
   all_goals exact ih
  ·have d1 : decide (cmpPath e.path x.path < 0) = false := decide_eq_false hc
   rw [insK_ge hc] at h3
   have ih := h89a c tmp t ht hq e he O l (d ++ [x]) (i + 1) (by simp [h1]) (by simp [h2]) (by simp [h3]) (by simp)
   have sn2 : d.map Ent.av ++ [.agg [.str x.path, .int .i64 x.kind, .int .i64 x.mode, .int .i64 x.uid, .int .i64 x.gid, .int .i64 x.time, .str x.link, x.data.av]] = (d ++ [x]).map Ent.av := ent_snoc _ x
   have l2 : (d ++ [x]).length = d.length + 1 := by simp
   rw [l2] at ih
   generalize d ++ [x] = D2 at *
   generalize cmpPath e.path x.path = C at *
   clear h3
   have gg:=trivial;repeat' first|simp (maxSteps:=2000000) (disch:=omega) only [gg,hg,c78,d1,hx,sn2,tk,lp_head,go_sem]|(refine br ?_ ?_<;>intro gg<;>try omega)|(apply And.intro;focus omega)|omega
   all_goals exact ih
set_option maxHeartbeats 4000000 in
theorem s89 (c tmp : Bool) (t : List Ent) (ht : t.length ≤ 1000000) (hq : ∀ x ∈ t, x.data.isTmp = false ∧ x.path.length ≤ 1000000) (e : Ent) (he : e.data.isTmp = false ∧ e.path.length ≤ 1000000) :
  callT AA 89 [.view 8 (t.map Ent.av) c tmp, e.av] [] = some (.own 0 8 0 (insK Ent.path e t).length false, [(0, .row ((insK Ent.path e t).map Ent.av) 8)]) := by
 have hy := he.1
 cases t with
 | nil =>
  have e0 : insK Ent.path e [] = [e] := rfl
  rw [e0]
  refine enter fn89 np89 rfl ?_
  have gg:=trivial;repeat' first|simp (maxSteps:=2000000) (disch:=omega) only [gg,b89,hy,lp_head,go_sem]|(refine br ?_ ?_<;>intro gg<;>try omega)|(apply And.intro;focus omega)|omega
  refine hd_of (by unfold l89_0; rfl) ?_
  have gg:=trivial;repeat' first|simp (maxSteps:=2000000) (disch:=omega) only [gg,r89_0,hy,lp_head,go_sem]|(refine br ?_ ?_<;>intro gg<;>try omega)|(apply And.intro;focus omega)|omega
 | cons x l =>
  have hxq := hq x (by simp)
  have hx := hxq.1
  have c78 := s78 e.path x.path he.2 hxq.2
  have hg : (x :: l)[0]? = some x := rfl
  have hpos : 0 < (x :: l).length := by simp
  by_cases hc : cmpPath e.path x.path < 0
  ·have d1 : decide (cmpPath e.path x.path < 0) = true := decide_eq_true hc
   rw [insK_lt hc]
   have ih := h89d c tmp (x :: l) ht (fun x hx => (hq x hx).1) e (e :: x :: l) l [x] [e, x] 1 rfl rfl rfl (by simp) (by simp)
   generalize hT : x :: l = T at *
   have hT2 : T.length = l.length + 1 := by rw [← hT]; rfl
   simp only [List.length_cons, List.length_nil, List.map_cons, List.map_nil] at ih
   generalize cmpPath e.path x.path = C at *
   refine enter fn89 np89 rfl ?_
   have gg:=trivial;repeat' first|simp (maxSteps:=2000000) (disch:=omega) only [gg,b89,hy,lp_head,go_sem]|(refine br ?_ ?_<;>intro gg<;>try omega)|(apply And.intro;focus omega)|omega
   refine hd_of (by unfold l89_0; rfl) ?_
   have gg:=trivial;repeat' first|simp (maxSteps:=2000000) (disch:=omega) only [gg,hg,c78,d1,hx,hy,lp_head,go_sem]|(refine br ?_ ?_<;>intro gg<;>try omega)|(apply And.intro;focus omega)|omega
   all_goals exact ih
  ·have d1 : decide (cmpPath e.path x.path < 0) = false := decide_eq_false hc
   have ih := h89a c tmp (x :: l) ht hq e he (insK Ent.path e (x :: l)) l [x] 1 rfl rfl (by rw [insK_ge hc]; rfl) (by simp)
   generalize insK Ent.path e (x :: l) = O at *
   generalize hT : x :: l = T at *
   simp only [List.length_cons, List.length_nil, List.map_cons, List.map_nil] at ih
   generalize cmpPath e.path x.path = C at *
   refine enter fn89 np89 rfl ?_
   have gg:=trivial;repeat' first|simp (maxSteps:=2000000) (disch:=omega) only [gg,b89,hy,lp_head,go_sem]|(refine br ?_ ?_<;>intro gg<;>try omega)|(apply And.intro;focus omega)|omega
   refine hd_of (by unfold l89_0; rfl) ?_
   have gg:=trivial;repeat' first|simp (maxSteps:=2000000) (disch:=omega) only [gg,hg,c78,d1,hx,hy,lp_head,go_sem]|(refine br ?_ ?_<;>intro gg<;>try omega)|(apply And.intro;focus omega)|omega
   all_goals exact ih
theorem s89n (e : Ent) (he : e.data.isTmp = false) : callT AA 89 [.lit (.slice none 0 0), e.av] [] = some (.own 0 8 0 1 false, [(0, .row [e.av] 8)]) := by
 refine enter fn89 np89 rfl ?_
 have gg:=trivial;repeat' first|simp (maxSteps:=2000000) (disch:=omega) only [gg,b89,he,lp_head,go_sem]|(refine br ?_ ?_<;>intro gg<;>try omega)|(apply And.intro;focus omega)|omega
 refine hd_of (by unfold l89_0; rfl) ?_
 have gg:=trivial;repeat' first|simp (maxSteps:=2000000) (disch:=omega) only [gg,r89_0,he,lp_head,go_sem]|(refine br ?_ ?_<;>intro gg<;>try omega)|(apply And.intro;focus omega)|omega
end Go.Abs
namespace Go.Abs
open Am Go.Proofs
set_option maxRecDepth 20000
def BEnt (x : Ent) : Prop := x.path.length ≤ 1000000 ∧ x.link.length ≤ 1000000 ∧ x.data.l.length ≤ 1000000000
set_option maxHeartbeats 4000000 in
theorem h49bad (c tmp : Bool) (t : List Ent) (ht : t.length ≤ 200) (hq : ∀ x ∈ t, BEnt x) (x : Ent) (l d : List Ent) (i : Int) (h1 : t = d ++ x :: l) (h2 : i = d.length) (hb : nmOk x = false) (o : AVal) (hp : Heap) (ho : (o = .lit (.slice none 0 0) ∧ hp = []) ∨ ∃ es n, o = .own 0 8 0 n false ∧ hp = [(0, .row es 8)]) (S : List Frame) (hS : S = [.blk 0, .code r49_2]) :
  HD AB 0 [2, 3, 4, 21, 22, 23] l49_2 ⟨[.junk, .junk, .lit (.slice none 0 0), .lit .nilIface, o, .junk, .junk, .junk, .junk, .junk, .junk, .junk, .junk, .junk, .junk, .junk, .junk, .junk, .junk, .junk, .junk, .view 8 (t.map Ent.av) c tmp, .int .i64 t.length, .int .i64 i, .junk, .junk, .junk, .junk, .junk, .junk, .junk, .junk, .junk, .junk, .junk, .junk, .junk, .junk, .junk, .junk, .junk, .junk, .junk, .junk, .junk, .junk, .junk, .junk, .junk, .junk, .junk, .junk, .junk, .junk, .junk, .junk, .junk, .junk, .junk, .junk, .junk, .junk, .junk, .junk, .junk, .junk, .junk, .junk, .junk, .junk, .junk, .junk, .junk, .junk, .junk, .junk, .junk, .junk, .junk, .junk, .junk, .junk, .junk, .junk, .junk, .junk, .junk, .junk, .junk, .junk, .junk, .junk, .junk, .junk, .junk, .junk, .junk, .junk, .junk, .junk, .junk], hp, hp.length⟩ S (Fin [(2, none), (3, none)] 0 (.tuple [.lit (.slice none 0 0), .iface 58 (.int .i64 12)]) []) := by
 have hl : t.length = d.length + (l.length + 1) := by rw [h1]; simp
 have hg : t[i.toNat]? = some x := by rw [h1, h2]; simp
 obtain ⟨b1, b2, b3⟩ := hq x (by rw [h1]; simp)
 obtain ⟨P, L, c83⟩ := s83n x b1 b2 hb
 simp only [Ent.av] at c83
 subst hS
 refine hd_of (by unfold l49_2; rfl) ?_
 rcases ho with ⟨rfl, rfl⟩ | ⟨es, n, rfl, rfl⟩
 ·have gg:=trivial;repeat' first|simp (maxSteps:=2000000) (disch:=omega) only [gg,hg,c83,r49_2,go_sem]|(refine br ?_ ?_<;>intro gg<;>try omega)|(apply And.intro;focus omega)|omega
 ·have gg:=trivial;repeat' first|simp (maxSteps:=2000000) (disch:=omega) only [gg,hg,c83,r49_2,go_sem]|(refine br ?_ ?_<;>intro gg<;>try omega)|(apply And.intro;focus omega)|omega
def outA (O : List Ent) : AVal := if O = [] then .lit (.slice none 0 0) else .own 0 8 0 O.length false
def hpA (O : List Ent) : Heap := if O = [] then [] else [(0, .row (O.map Ent.av) 8)]
set_option maxHeartbeats 8000000 in
theorem h49ok (c tmp : Bool) (t : List Ent) (ht : t.length ≤ 200) (hq : ∀ x ∈ t, BEnt x) (x : Ent) (l d : List Ent) (i : Int) (h1 : t = d ++ x :: l) (h2 : i = d.length) (hb : nmOk x = true) (O : List Ent) (hO : O.length = d.length) (F : FinP) (S : List Frame)
  (ih : HD AB 0 [2, 3, 4, 21, 22, 23] l49_2 ⟨[.junk, .junk, .lit (.slice none 0 0), .lit .nilIface, outA (O ++ [nmE x]), .junk, .junk, .junk, .junk, .junk, .junk, .junk, .junk, .junk, .junk, .junk, .junk, .junk, .junk, .junk, .junk, .view 8 (t.map Ent.av) c tmp, .int .i64 t.length, .int .i64 (i + 1), .junk, .junk, .junk, .junk, .junk, .junk, .junk, .junk, .junk, .junk, .junk, .junk, .junk, .junk, .junk, .junk, .junk, .junk, .junk, .junk, .junk, .junk, .junk, .junk, .junk, .junk, .junk, .junk, .junk, .junk, .junk, .junk, .junk, .junk, .junk, .junk, .junk, .junk, .junk, .junk, .junk, .junk, .junk, .junk, .junk, .junk, .junk, .junk, .junk, .junk, .junk, .junk, .junk, .junk, .junk, .junk, .junk, .junk, .junk, .junk, .junk, .junk, .junk, .junk, .junk, .junk, .junk, .junk, .junk, .junk, .junk, .junk, .junk, .junk, .junk, .junk, .junk], hpA (O ++ [nmE x]), (hpA (O ++ [nmE x])).length⟩ (.blk 0 :: S) F) :
  HD AB 0 [2, 3, 4, 21, 22, 23] l49_2 ⟨[.junk, .junk, .lit (.slice none 0 0), .lit .nilIface, outA O, .junk, .junk, .junk, .junk, .junk, .junk, .junk, .junk, .junk, .junk, .junk, .junk, .junk, .junk, .junk, .junk, .view 8 (t.map Ent.av) c tmp, .int .i64 t.length, .int .i64 i, .junk, .junk, .junk, .junk, .junk, .junk, .junk, .junk, .junk, .junk, .junk, .junk, .junk, .junk, .junk, .junk, .junk, .junk, .junk, .junk, .junk, .junk, .junk, .junk, .junk, .junk, .junk, .junk, .junk, .junk, .junk, .junk, .junk, .junk, .junk, .junk, .junk, .junk, .junk, .junk, .junk, .junk, .junk, .junk, .junk, .junk, .junk, .junk, .junk, .junk, .junk, .junk, .junk, .junk, .junk, .junk, .junk, .junk, .junk, .junk, .junk, .junk, .junk, .junk, .junk, .junk, .junk, .junk, .junk, .junk, .junk, .junk, .junk, .junk, .junk, .junk, .junk], hpA O, (hpA O).length⟩ (.blk 0 :: S) F := by
 have hl : t.length = d.length + (l.length + 1) := by rw [h1]; simp
 have hg : t[i.toNat]? = some x := by rw [h1, h2]; simp
 obtain ⟨b1, b2, b3⟩ := hq x (by rw [h1]; simp)
 have c83 := s83 x b1 b2 b3 hb
 have sn : O.map Ent.av ++ [(nmE x).av] = (O ++ [nmE x]).map Ent.av := ent_snoc O (nmE x)
 have dl : (O ++ [nmE x]).length = O.length + 1 := by simp
 have dn : O ++ [nmE x] ≠ [] := by simp
 have tk : (O.map Ent.av).take O.length = O.map Ent.av := List.take_of_length_le (by simp)
 have o2 : outA (O ++ [nmE x]) = .own 0 8 0 (O.length + 1) false := by unfold outA; rw [if_neg dn, dl]
 have p2 : hpA (O ++ [nmE x]) = [(0, .row ((O ++ [nmE x]).map Ent.av) 8)] := if_neg dn
 rw [o2, p2, ← sn] at ih
 have ek : (nmE x).kind = x.kind ∧ (nmE x).mode = x.mode ∧ (nmE x).uid = x.uid ∧ (nmE x).gid = x.gid ∧ (nmE x).time = x.time ∧ (nmE x).data = x.data.cp := ⟨rfl, rfl, rfl, rfl, rfl, rfl⟩
 obtain ⟨k1, k2, k3, k4, k5, k6⟩ := ek
 clear o2 p2 sn dl dn h1
 have av : (nmE x).av = .agg [.str (nmE x).path, .int .i64 x.kind, .int .i64 x.mode, .int .i64 x.uid, .int .i64 x.gid, .int .i64 x.time, .str (nmE x).link, x.data.cp.av] := rfl
 rw [av] at ih
 have kk : x.data.cp.isTmp = false := by cases x.data <;> rfl
 generalize (nmE x).path = P at *
 generalize (nmE x).link = L at *
 clear av k1 k2 k3 k4 k5 k6
 obtain ⟨pa, ki, mo, ui, gi, ti, li, da⟩ := x
 simp only at *
 have hcl : ∀ (a : AVal), a = (da.cp).av → a.flat = true := fun a ha => by rw [ha, flat_bs, kk]; rfl
 by_cases hO0 : O = []
 ·subst hO0
  have o1 : outA [] = .lit (.slice none 0 0) := rfl
  have p1 : hpA [] = [] := rfl
  rw [o1, p1]
  simp only [List.map_nil, List.nil_append, List.length_nil, Nat.zero_add] at ih
  cases da with
  | nil =>
   simp only [Ent.av, BS.av] at c83
   refine hd_of (by unfold l49_2; rfl) ?_
   have gg:=trivial;repeat' first|simp (maxSteps:=2000000) (disch:=omega) only [gg,hg,c83,lp_head,go_sem]|(refine br ?_ ?_<;>intro gg<;>try omega)|(apply And.intro;focus omega)|omega
   all_goals exact ih
  | mk c1 t1 dl =>
   simp only [Ent.av] at c83
   refine hd_of (by unfold l49_2; rfl) ?_
   have tk2 : List.take dl.length (dl.map AVal.byte) = dl.map .byte := List.take_of_length_le (by simp)
   have gg:=trivial;repeat' first|simp (maxSteps:=2000000) (disch:=omega) only [gg,hg,c83,tk2,lp_head,go_sem]|(refine br ?_ ?_<;>intro gg<;>try omega)|(apply And.intro;focus omega)|omega
   all_goals exact ih
 ·have o1 : outA O = .own 0 8 0 O.length false := if_neg hO0
  have p1 : hpA O = [(0, .row (O.map Ent.av) 8)] := if_neg hO0
  rw [o1, p1]
  cases da with
  | nil =>
   simp only [Ent.av, BS.av] at c83
   refine hd_of (by unfold l49_2; rfl) ?_
   have gg:=trivial;repeat' first|simp (maxSteps:=2000000) (disch:=omega) only [gg,hg,c83,tk,lp_head,go_sem]|(refine br ?_ ?_<;>intro gg<;>try omega)|(apply And.intro;focus omega)|omega
   all_goals exact ih
  | mk c1 t1 dl =>
   simp only [Ent.av] at c83
   refine hd_of (by unfold l49_2; rfl) ?_
   have tk2 : List.take dl.length (dl.map AVal.byte) = dl.map .byte := List.take_of_length_le (by simp)
   have gg:=trivial;repeat' first|simp (maxSteps:=2000000) (disch:=omega) only [gg,hg,c83,tk,tk2,lp_head,go_sem]|(refine br ?_ ?_<;>intro gg<;>try omega)|(apply And.intro;focus omega)|omega
   all_goals exact ih
end Go.Abs
namespace Go.Abs
open Am Lib
set_option maxRecDepth 10000
structure CkOk (c : Ck) (done : List Ent) : Prop where
 ks : c.ks = done.map fun e => (e.path, e.kind)
 ord : ∀ d ∈ done, d.path = c.last ∨ cmpPath d.path c.last = -1
 size : 0 ≤ c.size ∧ c.size ≤ 1048576
theorem lk_kind (p : List UInt8) : ∀ done : List Ent, lk p (done.map fun e => (e.path, e.kind)) = kindF p done
 | [] => rfl
 | e :: r => by
  have ih := lk_kind p r
  simp only [List.map_cons, lk, kindF, ih]
  by_cases h : p = e.path
  ·rw [if_pos h, if_pos h.symm]
  ·rw [if_neg h, if_neg (fun hh => h hh.symm)]
theorem putK_new (p : List UInt8) (v : Int) : ∀ ks : Kinds, (∀ x ∈ ks, x.1 ≠ p) → putK p v ks = ks ++ [(p, v)]
 | [], _ => rfl
 |(q, u) :: r, h => by
  have ih := putK_new p v r fun x hx => h x (by simp [hx])
  have hq : ¬ p = q := fun hh => h (q, u) (by simp) hh.symm
  rw [putK, if_neg hq, ih]
  rfl
theorem ck_first : CkOk ⟨[], [], 0⟩ [] := ⟨rfl, by simp, by simp⟩
def stepE (done : List Ent) (last : List UInt8) (size : Int) (e : Ent) : Int :=
 if goodB e.path = false then 12 else
 if fieldsB e = false then 13 else
 if 0 < done.length ∧ cmpPath last e.path ≠ -1 then 13 else
 if (parentP e.path).2 = true ∧ kindF (parentP e.path).1 done ≠ 1 then 13 else
 if e.kind = 4 ∧ kindF e.link done ≠ 2 then 13 else
 if 1048576 < size + e.data.l.length then 18 else 0
theorem step_entry {c : Ck} {done : List Ent} (h : CkOk c done) (e : Ent) : (entryE c e).1 = stepE done c.last c.size e := by
 have hk := h.ks
 have h3 : (0 < c.ks.length ∧ 0 ≤ cmpPath c.last e.path) ↔ (0 < done.length ∧ cmpPath c.last e.path ≠ -1) := by
  rw [hk, List.length_map]
  have := path_range c.last e.path
  omega
 unfold entryE stepE
 rw [hk, lk_kind, lk_kind, ← hk]
 simp only [h3]
 repeat' split
 all_goals rfl
theorem step_ok {c : Ck} {done : List Ent} (h : CkOk c done) {e : Ent} (h0 : (entryE c e).1 = 0) : CkOk (entryE c e).2 (done ++ [e]) ∧ (entryE c e).2.last = e.path ∧ (entryE c e).2.size = c.size + e.data.l.length := by
 obtain ⟨a1, a2, a3⟩ := entryE_ok h0
 have hs := step_entry h e
 rw [h0] at hs
 have h3 : ¬ (0 < done.length ∧ cmpPath c.last e.path ≠ -1) := by
  intro hh
  unfold stepE at hs
  rw [if_pos hh] at hs
  split at hs
  ·omega
  ·split at hs
   ·omega
   ·omega
 have hn : ∀ d ∈ done, cmpPath d.path e.path = -1 := by
  intro d hd
  have hl : 0 < done.length := List.length_pos_of_mem hd
  have h4 : cmpPath c.last e.path = -1 := by
   apply Classical.byContradiction
   intro h5
   exact h3 ⟨hl, h5⟩
  rcases h.ord d hd with h5 | h5
  ·rw [h5]; exact h4
  ·exact path_trans h5 h4
 have hks : (entryE c e).2.ks = putK e.path e.kind c.ks := by
  clear hs a1 a2 a3 hn h3
  unfold entryE at h0 ⊢
  by_cases g1 : goodB e.path = false
  ·rw [if_pos g1] at h0; simp at h0
  rw [if_neg g1] at h0 ⊢
  by_cases g2 : fieldsB e = false
  ·rw [if_pos g2] at h0; simp at h0
  rw [if_neg g2] at h0 ⊢
  by_cases g3 : 0 < c.ks.length ∧ 0 ≤ cmpPath c.last e.path
  ·rw [if_pos g3] at h0; simp at h0
  rw [if_neg g3] at h0 ⊢
  by_cases g4 : (parentP e.path).2 = true ∧ lk (parentP e.path).1 c.ks ≠ 1
  ·rw [if_pos g4] at h0; simp at h0
  rw [if_neg g4] at h0 ⊢
  by_cases g5 : e.kind = 4 ∧ lk e.link c.ks ≠ 2
  ·rw [if_pos g5] at h0; simp at h0
  rw [if_neg g5] at h0 ⊢
  by_cases g6 : 1048576 < c.size + (e.data.l.length : Int)
  ·rw [if_pos g6] at h0; simp at h0
  rw [if_neg g6] at h0 ⊢
 refine ⟨⟨?_, ?_, ?_⟩, a1, a3⟩
 ·rw [hks, putK_new, h.ks]
  ·simp
  ·intro x hx hxp
   rw [h.ks] at hx
   obtain ⟨d, hd, he⟩ := List.mem_map.1 hx
   have h6 := hn d hd
   have h7 : d.path = e.path := by rw [← hxp, ← he]
   rw [h7, path_self] at h6
   omega
 ·intro d hd
  rw [a1]
  rcases List.mem_append.1 hd with hd | hd
  ·exact Or.inr (hn d hd)
  ·rw [List.mem_singleton.1 hd]; exact Or.inl rfl
 ·have := h.size
  omega
end Go.Abs
namespace Go.Abs
open Am Go.Proofs
set_option maxRecDepth 20000
theorem callT_primh {A : AProg} {g : Nat} {p : List AVal → Heap → Option (AVal × Heap)} {args : List AVal} {h h' : Heap} {r : AVal} (h0 : A.prim g = none) (h1 : A.fn g = none) (h2 : A.primh g = some p) (h3 : p args h = some (r, h')) (h4 : (h'.map (·.1)).Nodup) : callT A g args h = some (r, h') :=
 callT_iff.2 ⟨1, by simp [callF, h0, h1, h2, h3, h4]⟩
theorem fn85_none : AB.fn 85 = none := by
 show AA.fn 85 = none
 simp [AA]
theorem pthOk_av {e : Ent} (h : e.path.length ≤ 1000000) : pthOk e.av = true := by
 show decide (e.path.length ≤ 1000000) = true
 exact decide_eq_true h
theorem s85 (O : List Ent) (h0 : O ≠ []) (hl : O.length ≤ 1000000) (hp : ∀ x ∈ O, x.path.length ≤ 1000000) (hd : (O.map Ent.path).Nodup) :
  callT AB 85 [.own 0 8 0 O.length false, .func (.func 86) []] [(0, .row (O.map Ent.av) 8)] = some (.tuple [], [(0, .row ((sortK Ent.path O).map Ent.av) 8)]) := by
 refine callT_primh rfl fn85_none (p := sortH) rfl ?_ (by simp)
 have hpos : 0 < O.length := List.length_pos_iff.2 h0
 have e1 : (O.map Ent.av).all pthOk = true := by
  rw [List.all_map]
  exact List.all_eq_true.2 fun x hx => pthOk_av (hp x hx)
 have e2 : (O.map Ent.av).map pth = O.map Ent.path := by
  rw [List.map_map]
  rfl
 have e3 : sortK pth (O.map Ent.av) = (sortK Ent.path O).map Ent.av := sortK_map pth O
 simp only [sortH, Heap.get, if_true]
 rw [if_pos ⟨by simp, hpos, hl, e1, by rw [e2]; exact hd⟩, e3]
 rfl
def resD (O : List Ent) : AVal × Heap := if (checkT (sortK Ent.path O)).2 = 0 then (.tuple [.own 0 8 0 O.length false, .lit .nilIface], [(0, .row ((sortK Ent.path O).map Ent.av) 8)]) else (.tuple [.lit (.slice none 0 0), .iface 58 (.int .i64 (checkT (sortK Ent.path O)).2)], [])
set_option maxHeartbeats 4000000 in
theorem h49D (O : List Ent) (h0 : O ≠ []) (hl : O.length ≤ 1000000) (hp : ∀ x ∈ O, EntOk x) (hd : (O.map Ent.path).Nodup) (ks : Kinds) :
  HD AB 0 [2, 3, 4, 9, 12] l49_0 ⟨[.junk, .junk, .lit (.slice none 0 0), .lit .nilIface, .own 0 8 0 O.length false, .junk, .junk, .junk, .junk, .mapr 1, .junk, .junk, .int .i64 O.length, .junk, .junk, .junk, .junk, .junk, .junk, .junk, .junk, .junk, .junk, .junk, .junk, .junk, .junk, .junk, .junk, .junk, .junk, .junk, .junk, .junk, .junk, .junk, .junk, .junk, .junk, .junk, .junk, .junk, .junk, .junk, .junk, .junk, .junk, .junk, .junk, .junk, .junk, .junk, .junk, .junk, .junk, .junk, .junk, .junk, .junk, .junk, .junk, .junk, .junk, .junk, .junk, .junk, .junk, .junk, .junk, .junk, .junk, .junk, .junk, .junk, .junk, .junk, .junk, .junk, .junk, .junk, .junk, .junk, .junk, .junk, .junk, .junk, .junk, .junk, .junk, .junk, .junk, .junk, .junk, .junk, .junk, .junk, .junk, .junk, .junk, .junk, .junk], [(0, .row (O.map Ent.av) 8), (1, .map (ks.map kv))], 2⟩ [.blk 4, .code r49_0] (Fin [(2, none), (3, none)] 0 (resD O).1 (resD O).2) := by
 have c85 := s85 O h0 hl (fun x hx => (hp x hx).2.1) hd
 have hsl : (sortK Ent.path O).length = O.length := (sortK_perm Ent.path O).length_eq
 have c31 := fun cl tm => callT_ext (s31 cl tm (sortK Ent.path O) (fun x hx => hp x ((sortK_perm Ent.path O).mem_iff.1 hx)) (by omega))
 unfold resD
 have tk : (((sortK Ent.path O).map Ent.av)).take O.length = (sortK Ent.path O).map Ent.av := List.take_of_length_le (by simp; omega)
 by_cases hc : (checkT (sortK Ent.path O)).2 = 0
 ·rw [if_pos hc]
  simp only [hc, errV, if_true] at c31
  generalize (checkT (sortK Ent.path O)).1 = K at *
  generalize sortK Ent.path O = L at *
  refine hd_of (by unfold l49_0; rfl) ?_
  have gg:=trivial;repeat' first|simp (maxSteps:=2000000) (disch:=omega) only [gg,r49_0,c85,c31,tk,hsl,go_sem]|(refine br ?_ ?_<;>intro gg<;>try omega)|(apply And.intro;focus omega)|omega
 ·rw [if_neg hc]
  have hv : errV (checkT (sortK Ent.path O)).2 = .iface 58 (.int .i64 (checkT (sortK Ent.path O)).2) := if_neg hc
  rw [hv] at c31
  generalize (checkT (sortK Ent.path O)).1 = K at *
  generalize (checkT (sortK Ent.path O)).2 = E at *
  generalize sortK Ent.path O = L at *
  refine hd_of (by unfold l49_0; rfl) ?_
  have gg:=trivial;repeat' first|simp (maxSteps:=2000000) (disch:=omega) only [gg,r49_0,c85,c31,tk,hsl,go_sem]|(refine br ?_ ?_<;>intro gg<;>try omega)|(apply And.intro;focus omega)|omega
def ksE (d : List Ent) : Kinds := d.map fun e => (e.path, 1)
theorem lk_ksE (p : List UInt8) : ∀ d : List Ent, lk p (ksE d) = if p ∈ d.map Ent.path then 1 else 0
 | [] => by simp [ksE, lk]
 | e :: d => by
  have ih := lk_ksE p d
  have e1 : lk p (ksE (e :: d)) = if p = e.path then 1 else lk p (ksE d) := rfl
  rw [e1, ih]
  by_cases h : p = e.path
  ·rw [if_pos h, if_pos (by simp [h])]
  ·rw [if_neg h]
   by_cases h2 : p ∈ d.map Ent.path
   ·rw [if_pos h2, if_pos (by simp only [List.map_cons, List.mem_cons]; exact .inr h2)]
   ·rw [if_neg h2, if_neg (by simp only [List.map_cons, List.mem_cons]; exact fun h3 => h3.elim h h2)]
theorem put_ksE {d : List Ent} {e : Ent} (h : e.path ∉ d.map Ent.path) : putK e.path 1 (ksE d) = ksE (d ++ [e]) := by
 rw [putK_new e.path 1 (ksE d) fun x hx hxp => ?_]
 ·simp [ksE]
 ·obtain ⟨y, hy, rfl⟩ := List.mem_map.1 hx
  exact h (List.mem_map.2 ⟨y, hy, hxp⟩)
def dirE (p : List UInt8) : Ent := ⟨p, 1, 493, 0, 0, 0, [], .nil⟩
def missB (O : List Ent) (e : Ent) : Bool := (parentP e.path).2 && !decide ((parentP e.path).1 ∈ O.map Ent.path)
def growF : Nat → List Ent → Nat → List Ent
 | 0, O, _ => O
 | k + 1, O, i => match O[i]? with
  | none => O
  | some e => if missB O e = true then growF k (O ++ [dirE (parentP e.path).1]) (i + 1) else growF k O (i + 1)
def cnt (s : List UInt8) : Nat := (splitOn 47 s).length
def mu (l : List Ent) : Nat := (l.map fun e => cnt e.path).sum
theorem mu_app (a b : List Ent) : mu (a ++ b) = mu a + mu b := by simp [mu]
theorem cnt_pos (s : List UInt8) : 1 ≤ cnt s := List.length_pos_iff.2 (splitOn_ne 47 s)
theorem parent_cnt {s : List UInt8} (h : (parentP s).2 = true) : cnt (parentP s).1 + 1 = cnt s ∧ (parentP s).1.length ≤ s.length := by
 unfold parentP at h ⊢
 split at h
 ·rename_i hc
  rw [if_pos hc]
  rcases last_split s with ⟨h1, _⟩ | ⟨_, b, h2⟩
  ·omega
  ·refine ⟨?_, by simp; omega⟩
   unfold cnt
   rw [h2]
   simp
 ·cases h
theorem drop_some {O : List Ent} {i : Nat} {e : Ent} (h : O[i]? = some e) : O.drop i = e :: O.drop (i + 1) := by
 have := (List.getElem?_eq_some_iff.1 h)
 obtain ⟨h1, h2⟩ := this
 rw [List.drop_eq_getElem_cons h1, h2]
theorem mu_step {O : List Ent} {i k : Nat} {e : Ent} (h : O[i]? = some e) (hm : mu (O.drop i) ≤ k + 1) : mu (O.drop (i + 1)) ≤ k ∧ (missB O e = true → mu ((O ++ [dirE (parentP e.path).1]).drop (i + 1)) ≤ k) := by
 have h1 := (List.getElem?_eq_some_iff.1 h).1
 rw [drop_some h] at hm
 have e1 : mu (e :: O.drop (i + 1)) = cnt e.path + mu (O.drop (i + 1)) := by simp [mu]
 rw [e1] at hm
 have := cnt_pos e.path
 refine ⟨by omega, fun hb => ?_⟩
 rw [List.drop_append_of_le_length (by omega), mu_app]
 have hp : (parentP e.path).2 = true := by
  unfold missB at hb
  simp only [Bool.and_eq_true] at hb
  exact hb.1
 have h2 := (parent_cnt hp).1
 have e2 : mu [dirE (parentP e.path).1] = cnt (parentP e.path).1 := by simp [mu, dirE]
 omega
set_option maxHeartbeats 8000000 in
theorem h49C (RV : AVal) (RH : Heap) : ∀ (k : Nat) (O : List Ent) (i : Nat), mu (O.drop i) ≤ k → i ≤ O.length → O ≠ [] → O.length + k ≤ 1000000 → (∀ x ∈ O, x.path.length ≤ 1000000) →
  (∀ ks, HD AB 0 [2, 3, 4, 9, 12] l49_0 ⟨[.junk, .junk, .lit (.slice none 0 0), .lit .nilIface, .own 0 8 0 (growF k O i).length false, .junk, .junk, .junk, .junk, .mapr 1, .junk, .junk, .int .i64 (growF k O i).length, .junk, .junk, .junk, .junk, .junk, .junk, .junk, .junk, .junk, .junk, .junk, .junk, .junk, .junk, .junk, .junk, .junk, .junk, .junk, .junk, .junk, .junk, .junk, .junk, .junk, .junk, .junk, .junk, .junk, .junk, .junk, .junk, .junk, .junk, .junk, .junk, .junk, .junk, .junk, .junk, .junk, .junk, .junk, .junk, .junk, .junk, .junk, .junk, .junk, .junk, .junk, .junk, .junk, .junk, .junk, .junk, .junk, .junk, .junk, .junk, .junk, .junk, .junk, .junk, .junk, .junk, .junk, .junk, .junk, .junk, .junk, .junk, .junk, .junk, .junk, .junk, .junk, .junk, .junk, .junk, .junk, .junk, .junk, .junk, .junk, .junk, .junk, .junk], [(0, .row ((growF k O i).map Ent.av) 8), (1, .map (List.map kv ks))], 2⟩ [.blk 4, .code r49_0] (Fin [(2, none), (3, none)] 0 RV RH)) →
  HD AB 0 [2, 3, 4, 9, 12] l49_0 ⟨[.junk, .junk, .lit (.slice none 0 0), .lit .nilIface, .own 0 8 0 O.length false, .junk, .junk, .junk, .junk, .mapr 1, .junk, .junk, .int .i64 i, .junk, .junk, .junk, .junk, .junk, .junk, .junk, .junk, .junk, .junk, .junk, .junk, .junk, .junk, .junk, .junk, .junk, .junk, .junk, .junk, .junk, .junk, .junk, .junk, .junk, .junk, .junk, .junk, .junk, .junk, .junk, .junk, .junk, .junk, .junk, .junk, .junk, .junk, .junk, .junk, .junk, .junk, .junk, .junk, .junk, .junk, .junk, .junk, .junk, .junk, .junk, .junk, .junk, .junk, .junk, .junk, .junk, .junk, .junk, .junk, .junk, .junk, .junk, .junk, .junk, .junk, .junk, .junk, .junk, .junk, .junk, .junk, .junk, .junk, .junk, .junk, .junk, .junk, .junk, .junk, .junk, .junk, .junk, .junk, .junk, .junk, .junk, .junk], [(0, .row (O.map Ent.av) 8), (1, .map ((ksE O).map kv))], 2⟩ [.blk 4, .code r49_0] (Fin [(2, none), (3, none)] 0 RV RH)
 | 0, O, i, hm, hi, h0, hl, hp, K => by
  have hx : O[i]? = none := by
   cases h : O[i]? with
   | none => rfl
   | some e =>
    rw [drop_some h] at hm
    have := cnt_pos e.path
    have e1 : mu (e :: O.drop (i + 1)) = cnt e.path + mu (O.drop (i + 1)) := by simp [mu]
    omega
  have hil : i = O.length := by
   rw [List.getElem?_eq_none_iff] at hx
   omega
  have hg : growF 0 O i = O := rfl
  rw [hg] at K
  rw [hil]
  exact K (ksE O)
 | k + 1, O, i, hm, hi, h0, hl, hp, K => by
  cases hx : O[i]? with
  | none =>
   have hil : i = O.length := by
    rw [List.getElem?_eq_none_iff] at hx
    omega
   have hg : growF (k + 1) O i = O := by unfold growF; rw [hx]
   rw [hg] at K
   rw [hil]
   exact K (ksE O)
  | some e =>
   obtain ⟨m1, m2⟩ := mu_step hx hm
   have hlt := (List.getElem?_eq_some_iff.1 hx).1
   have hpe := hp e (List.mem_of_getElem? hx)
   have c84 := callT_ext (s84 e.path hpe)
   have hlk := lk_ksE (parentP e.path).1 O
   have hit : ((i : Int)).toNat = i := by omega
   have e3 : ((i + 1 : Nat) : Int) = (i : Int) + 1 := by omega
   cases hb : missB O e with
   | false =>
    have hg : growF (k + 1) O i = growF k O (i + 1) := by
     show (match O[i]? with | none => O | some e => if missB O e = true then growF k (O ++ [dirE (parentP e.path).1]) (i + 1) else growF k O (i + 1)) = _
     rw [hx]
     simp [hb]
    rw [hg] at K
    have ih := h49C RV RH k O (i + 1) m1 (by omega) h0 (by omega) hp K
    clear K
    rw [e3] at ih
    dsimp only at ih
    refine hd_of (by unfold l49_0; rfl) ?_
    by_cases hp2 : (parentP e.path).2 = true
    ·have hin : (parentP e.path).1 ∈ O.map Ent.path := by
      unfold missB at hb
      rw [hp2] at hb
      simpa using hb
     rw [if_pos hin] at hlk
     rw [hp2] at c84
     generalize (parentP e.path).1 = P at *
     have gg:=trivial;repeat' first|simp (maxSteps:=2000000) (disch:=omega) only [gg,hx,hit,c84,hlk,lp_head,go_sem]|(refine br ?_ ?_<;>intro gg<;>try omega)|(apply And.intro;focus omega)|omega
     all_goals exact ih
    ·have hp3 : (parentP e.path).2 = false := by simpa using hp2
     rw [hp3] at c84
     have gg:=trivial;repeat' first|simp (maxSteps:=2000000) (disch:=omega) only [gg,hx,hit,c84,lp_head,go_sem]|(refine br ?_ ?_<;>intro gg<;>try omega)|(apply And.intro;focus omega)|omega
     all_goals exact ih
   | true =>
    have hb2 := hb
    unfold missB at hb2
    simp only [Bool.and_eq_true, Bool.not_eq_true', decide_eq_false_iff_not] at hb2
    obtain ⟨hp2, hin⟩ := hb2
    have hg : growF (k + 1) O i = growF k (O ++ [dirE (parentP e.path).1]) (i + 1) := by
     show (match O[i]? with | none => O | some e => if missB O e = true then growF k (O ++ [dirE (parentP e.path).1]) (i + 1) else growF k O (i + 1)) = _
     rw [hx]
     simp [hb]
    rw [hg] at K
    have ih := h49C RV RH k (O ++ [dirE (parentP e.path).1]) (i + 1) (m2 hb) (by simp; omega) (by simp) (by simp; omega) (fun x hx => by
     rcases List.mem_append.1 hx with h | h
     ·exact hp x h
     ·rw [List.mem_singleton.1 h]
      exact Nat.le_trans (parent_cnt hp2).2 hpe) K
    clear K
    rw [e3] at ih
    dsimp only at ih
    have hpk := put_ksE (d := O) (e := dirE (parentP e.path).1) hin
    have dp : (dirE (parentP e.path).1).path = (parentP e.path).1 := rfl
    rw [dp] at hpk
    rw [if_neg hin] at hlk
    rw [hp2] at c84
    have dl : (O ++ [dirE (parentP e.path).1]).length = O.length + 1 := by simp
    have tk : (O.map Ent.av).take O.length = O.map Ent.av := List.take_of_length_le (by simp)
    have sn : O.map Ent.av ++ [.agg [.str (parentP e.path).1, .int .i64 1, .int .i64 493, .int .i64 0, .int .i64 0, .int .i64 0, .str [], .lit (.slice none 0 0)]] = (O ++ [dirE (parentP e.path).1]).map Ent.av := ent_snoc O (dirE (parentP e.path).1)
    rw [dl] at ih
    generalize O ++ [dirE (parentP e.path).1] = O2 at *
    generalize (parentP e.path).1 = P at *
    refine hd_of (by unfold l49_0; rfl) ?_
    have gg:=trivial;repeat' first|simp (maxSteps:=2000000) (disch:=omega) only [gg,hx,hit,c84,hlk,hpk,tk,sn,Int.zero_add,lp_head,go_sem]|(refine br ?_ ?_<;>intro gg<;>try omega)|(apply And.intro;focus omega)|omega
    all_goals exact ih
end Go.Abs
namespace Go.Abs
open Am Go.Proofs
set_option maxRecDepth 20000
def errB (n : Int) : AVal × Heap := (.tuple [.lit (.slice none 0 0), .iface 58 (.int .i64 n)], [])
def buildR (t : List Ent) : AVal × Heap := if t.all nmOk = true then (if ((t.map nmE).map Ent.path).Nodup then resD (growF (mu (t.map nmE)) (t.map nmE) 0) else errB 13) else errB 12
set_option maxHeartbeats 8000000 in
theorem h49B (RV : AVal) (RH : Heap) (O : List Ent) (h0 : O ≠ []) (hl : O.length ≤ 1000000) (H1 : ¬ (O.map Ent.path).Nodup → RV = (errB 13).1 ∧ RH = (errB 13).2)
  (H2 : (O.map Ent.path).Nodup → HD AB 0 [2, 3, 4, 9, 12] l49_0 ⟨[.junk, .junk, .lit (.slice none 0 0), .lit .nilIface, .own 0 8 0 O.length false, .junk, .junk, .junk, .junk, .mapr 1, .junk, .junk, .int .i64 0, .junk, .junk, .junk, .junk, .junk, .junk, .junk, .junk, .junk, .junk, .junk, .junk, .junk, .junk, .junk, .junk, .junk, .junk, .junk, .junk, .junk, .junk, .junk, .junk, .junk, .junk, .junk, .junk, .junk, .junk, .junk, .junk, .junk, .junk, .junk, .junk, .junk, .junk, .junk, .junk, .junk, .junk, .junk, .junk, .junk, .junk, .junk, .junk, .junk, .junk, .junk, .junk, .junk, .junk, .junk, .junk, .junk, .junk, .junk, .junk, .junk, .junk, .junk, .junk, .junk, .junk, .junk, .junk, .junk, .junk, .junk, .junk, .junk, .junk, .junk, .junk, .junk, .junk, .junk, .junk, .junk, .junk, .junk, .junk, .junk, .junk, .junk, .junk], [(0, .row (O.map Ent.av) 8), (1, .map ((ksE O).map kv))], 2⟩ [.blk 4, .code r49_0] (Fin [(2, none), (3, none)] 0 RV RH)) :
  ∀ (l d : List Ent) (i : Int), O = d ++ l → i = d.length → (d.map Ent.path).Nodup →
  HD AB 0 [2, 3, 4, 9, 41, 42, 43] l49_1 ⟨[.junk, .junk, .lit (.slice none 0 0), .lit .nilIface, .own 0 8 0 O.length false, .junk, .junk, .junk, .junk, .mapr 1, .junk, .junk, .junk, .junk, .junk, .junk, .junk, .junk, .junk, .junk, .junk, .junk, .junk, .junk, .junk, .junk, .junk, .junk, .junk, .junk, .junk, .junk, .junk, .junk, .junk, .junk, .junk, .junk, .junk, .junk, .junk, .own 0 8 0 O.length false, .int .i64 O.length, .int .i64 i, .junk, .junk, .junk, .junk, .junk, .junk, .junk, .junk, .junk, .junk, .junk, .junk, .junk, .junk, .junk, .junk, .junk, .junk, .junk, .junk, .junk, .junk, .junk, .junk, .junk, .junk, .junk, .junk, .junk, .junk, .junk, .junk, .junk, .junk, .junk, .junk, .junk, .junk, .junk, .junk, .junk, .junk, .junk, .junk, .junk, .junk, .junk, .junk, .junk, .junk, .junk, .junk, .junk, .junk, .junk, .junk, .junk], [(0, .row (O.map Ent.av) 8), (1, .map ((ksE d).map kv))], 2⟩ [.blk 2, .code r49_1] (Fin [(2, none), (3, none)] 0 RV RH)
 | [], d, i, h1, h2, h3 => by
  rw [List.append_nil] at h1
  subst h1
  have ih := H2 h3
  clear H1 H2
  dsimp only at ih
  refine hd_of (by unfold l49_1; rfl) ?_
  have gg:=trivial;repeat' first|simp (maxSteps:=2000000) (disch:=omega) only [gg,r49_1,lp_head,go_sem]|(refine br ?_ ?_<;>intro gg<;>try omega)|(apply And.intro;focus omega)|omega
  all_goals exact ih
 | x :: l, d, i, h1, h2, h3 => by
  have hlen : O.length = d.length + (l.length + 1) := by rw [h1]; simp
  have hg : O[i.toNat]? = some x := by rw [h1, h2]; simp
  have hlk := lk_ksE x.path d
  by_cases hin : x.path ∈ d.map Ent.path
  ·have hnd : ¬ (O.map Ent.path).Nodup := by
    rw [h1, List.map_append, List.map_cons]
    intro hn
    have := (List.nodup_append.1 hn).2.2 x.path hin x.path (by simp)
    exact this rfl
   obtain ⟨rfl, rfl⟩ := H1 hnd
   clear H1 H2
   unfold errB
   rw [if_pos hin] at hlk
   refine hd_of (by unfold l49_1; rfl) ?_
   have gg:=trivial;repeat' first|simp (maxSteps:=2000000) (disch:=omega) only [gg,hg,hlk,go_sem]|(refine br ?_ ?_<;>intro gg<;>try omega)|(apply And.intro;focus omega)|omega
  ·have hnd2 : ((d ++ [x]).map Ent.path).Nodup := by
    rw [List.map_append, List.map_cons, List.map_nil]
    refine List.nodup_append.2 ⟨h3, by simp, fun a ha b hb => ?_⟩
    rw [List.mem_singleton.1 hb]
    intro e
    exact hin (e ▸ ha)
   have ih := h49B RV RH O h0 hl H1 H2 l (d ++ [x]) (i + 1) (by simp [h1]) (by simp [h2]) hnd2
   clear H1 H2
   rw [if_neg hin] at hlk
   have hpk := put_ksE (d := d) (e := x) hin
   rw [← hpk] at ih
   dsimp only at ih
   refine hd_of (by unfold l49_1; rfl) ?_
   have gg:=trivial;repeat' first|simp (maxSteps:=2000000) (disch:=omega) only [gg,hg,hlk,Int.zero_add,lp_head,go_sem]|(refine br ?_ ?_<;>intro gg<;>try omega)|(apply And.intro;focus omega)|omega
   all_goals exact ih
theorem h49A (c tmp : Bool) (t : List Ent) (ht : t.length ≤ 200) (hq : ∀ x ∈ t, BEnt x) (RV : AVal) (RH : Heap) (H1 : t.all nmOk = false → RV = (errB 12).1 ∧ RH = (errB 12).2)
  (H2 : t.all nmOk = true → HD AB 0 [2, 3, 4, 21, 22, 23] l49_2 ⟨[.junk, .junk, .lit (.slice none 0 0), .lit .nilIface, outA (t.map nmE), .junk, .junk, .junk, .junk, .junk, .junk, .junk, .junk, .junk, .junk, .junk, .junk, .junk, .junk, .junk, .junk, .view 8 (t.map Ent.av) c tmp, .int .i64 t.length, .int .i64 t.length, .junk, .junk, .junk, .junk, .junk, .junk, .junk, .junk, .junk, .junk, .junk, .junk, .junk, .junk, .junk, .junk, .junk, .junk, .junk, .junk, .junk, .junk, .junk, .junk, .junk, .junk, .junk, .junk, .junk, .junk, .junk, .junk, .junk, .junk, .junk, .junk, .junk, .junk, .junk, .junk, .junk, .junk, .junk, .junk, .junk, .junk, .junk, .junk, .junk, .junk, .junk, .junk, .junk, .junk, .junk, .junk, .junk, .junk, .junk, .junk, .junk, .junk, .junk, .junk, .junk, .junk, .junk, .junk, .junk, .junk, .junk, .junk, .junk, .junk, .junk, .junk, .junk], hpA (t.map nmE), (hpA (t.map nmE)).length⟩ [.blk 0, .code r49_2] (Fin [(2, none), (3, none)] 0 RV RH)) :
  ∀ (l d : List Ent) (i : Int), t = d ++ l → i = d.length → d.all nmOk = true →
  HD AB 0 [2, 3, 4, 21, 22, 23] l49_2 ⟨[.junk, .junk, .lit (.slice none 0 0), .lit .nilIface, outA (d.map nmE), .junk, .junk, .junk, .junk, .junk, .junk, .junk, .junk, .junk, .junk, .junk, .junk, .junk, .junk, .junk, .junk, .view 8 (t.map Ent.av) c tmp, .int .i64 t.length, .int .i64 i, .junk, .junk, .junk, .junk, .junk, .junk, .junk, .junk, .junk, .junk, .junk, .junk, .junk, .junk, .junk, .junk, .junk, .junk, .junk, .junk, .junk, .junk, .junk, .junk, .junk, .junk, .junk, .junk, .junk, .junk, .junk, .junk, .junk, .junk, .junk, .junk, .junk, .junk, .junk, .junk, .junk, .junk, .junk, .junk, .junk, .junk, .junk, .junk, .junk, .junk, .junk, .junk, .junk, .junk, .junk, .junk, .junk, .junk, .junk, .junk, .junk, .junk, .junk, .junk, .junk, .junk, .junk, .junk, .junk, .junk, .junk, .junk, .junk, .junk, .junk, .junk, .junk], hpA (d.map nmE), (hpA (d.map nmE)).length⟩ [.blk 0, .code r49_2] (Fin [(2, none), (3, none)] 0 RV RH)
 | [], d, i, h1, h2, h3 => by
  rw [List.append_nil] at h1
  subst h1
  rw [h2]
  exact H2 h3
 | x :: l, d, i, h1, h2, h3 => by
  cases hb : nmOk x with
  | false =>
   obtain ⟨rfl, rfl⟩ := H1 (by rw [h1]; simp [hb])
   refine h49bad c tmp t ht hq x l d i h1 h2 hb _ _ ?_ _ rfl
   by_cases hd : d.map nmE = []
   ·left
    unfold outA hpA
    rw [if_pos hd, if_pos hd]
    exact ⟨rfl, rfl⟩
   ·right
    unfold outA hpA
    rw [if_neg hd, if_neg hd]
    exact ⟨_, _, rfl, rfl⟩
  | true =>
   have ih := h49A c tmp t ht hq RV RH H1 H2 l (d ++ [x]) (i + 1) (by simp [h1]) (by simp [h2]) (by simp [h3, hb])
   have e : (d ++ [x]).map nmE = d.map nmE ++ [nmE x] := by simp
   rw [e] at ih
   exact h49ok c tmp t ht hq x l d i h1 h2 hb (d.map nmE) (by simp) _ _ ih
end Go.Abs
namespace Go.Abs
open Am Go.Proofs
inductive Anc : List UInt8 → List UInt8 → Prop where
 | par {s : List UInt8} (h : (parentP s).2 = true) : Anc s (parentP s).1
 | up {s p : List UInt8} (h : Anc s p) (hp : (parentP p).2 = true) : Anc s (parentP p).1
structure Clo (N R : List Ent) : Prop where
 sub : ∀ x ∈ N, x ∈ R
 frm : ∀ x ∈ R, x ∈ N ∨ ∃ p, x = dirE p ∧ p ∉ N.map Ent.path ∧ ∃ y ∈ N, Anc y.path p
 closed : ∀ x ∈ R, (parentP x.path).2 = true → (parentP x.path).1 ∈ R.map Ent.path
 nodup : (R.map Ent.path).Nodup
theorem Clo.anc {N R : List Ent} (h : Clo N R) {y : Ent} (hy : y ∈ N) {p : List UInt8} (ha : Anc y.path p) : p ∈ R.map Ent.path := by
 induction ha with
 | par h1 => exact h.closed y (h.sub y hy) h1
 | up _ hp ih =>
  obtain ⟨x, hx, rfl⟩ := List.mem_map.1 ih
  exact h.closed x hx hp
theorem Clo.mem {N R : List Ent} (h : Clo N R) (x : Ent) : x ∈ R ↔ x ∈ N ∨ ∃ p, x = dirE p ∧ p ∉ N.map Ent.path ∧ ∃ y ∈ N, Anc y.path p := by
 refine ⟨h.frm x, ?_⟩
 rintro (hx | ⟨p, rfl, hn, y, hy, ha⟩)
 ·exact h.sub x hx
 ·obtain ⟨z, hz, hzp⟩ := List.mem_map.1 (h.anc hy ha)
  rcases h.frm z hz with h1 | ⟨q, rfl, _⟩
  ·exact absurd (List.mem_map.2 ⟨z, h1, hzp⟩) hn
  ·have e : q = p := hzp
   rw [e] at hz
   exact hz
def canE (e : Ent) : Ent := { e with data := .mk false false e.data.l }
theorem canE_path (l : List Ent) : (l.map canE).map Ent.path = l.map Ent.path := by
 rw [List.map_map]
 rfl
theorem clo_can {N R N' R' : List Ent} (h : Clo N R) (h' : Clo N' R') (hN : N.map canE = N'.map canE) (x : Ent) : x ∈ R.map canE ↔ x ∈ R'.map canE := by
 have hp : N.map Ent.path = N'.map Ent.path := by rw [← canE_path N, hN, canE_path]
 have key : ∀ {N R N' R' : List Ent}, Clo N R → Clo N' R' → N.map canE = N'.map canE → N.map Ent.path = N'.map Ent.path → x ∈ R.map canE → x ∈ R'.map canE := by
  intro N R N' R' h h' hN hp hx
  obtain ⟨z, hz, rfl⟩ := List.mem_map.1 hx
  rcases h.frm z hz with h1 | ⟨p, rfl, hn, y, hy, ha⟩
  ·have h2 : canE z ∈ N'.map canE := by rw [← hN]; exact List.mem_map.2 ⟨z, h1, rfl⟩
   obtain ⟨w, hw, e⟩ := List.mem_map.1 h2
   exact List.mem_map.2 ⟨w, h'.sub w hw, e⟩
  ·have h2 : y.path ∈ N'.map Ent.path := by rw [← hp]; exact List.mem_map.2 ⟨y, hy, rfl⟩
   obtain ⟨w, hw, e⟩ := List.mem_map.1 h2
   exact List.mem_map.2 ⟨dirE p, (h'.mem _).2 (.inr ⟨p, rfl, by rw [← hp]; exact hn, w, hw, by rw [e]; exact ha⟩), rfl⟩
 exact ⟨key h h' hN hp, key h' h hN.symm hp.symm⟩
theorem missB_iff {O : List Ent} {e : Ent} : missB O e = true ↔ (parentP e.path).2 = true ∧ (parentP e.path).1 ∉ O.map Ent.path := by
 unfold missB
 simp
structure Gro (N O : List Ent) (i : Nat) : Prop where
 sub : ∀ x ∈ N, x ∈ O
 frm : ∀ x ∈ O, x ∈ N ∨ ∃ p, x = dirE p ∧ p ∉ N.map Ent.path ∧ ∃ y ∈ N, Anc y.path p
 done : ∀ j x, j < i → O[j]? = some x → missB O x = false
 nodup : (O.map Ent.path).Nodup
theorem miss_more {O : List Ent} {x d : Ent} (h : missB O x = false) : missB (O ++ [d]) x = false := by
 cases h2 : missB (O ++ [d]) x with
 | false => rfl
 | true =>
  obtain ⟨h3, h4⟩ := missB_iff.1 h2
  have : missB O x = true := missB_iff.2 ⟨h3, fun h5 => h4 (by rw [List.map_append]; exact List.mem_append_left _ h5)⟩
  rw [h] at this
  cases this
theorem Gro.anc {N O : List Ent} {i : Nat} (h : Gro N O i) {e : Ent} (he : e ∈ O) (hp : (parentP e.path).2 = true) : ∃ y ∈ N, Anc y.path (parentP e.path).1 := by
 rcases h.frm e he with h1 | ⟨p, rfl, _, y, hy, ha⟩
 ·exact ⟨e, h1, .par hp⟩
 ·exact ⟨y, hy, .up ha hp⟩
theorem Gro.step {N O : List Ent} {i : Nat} (h : Gro N O i) {e : Ent} (he : O[i]? = some e) :
  (missB O e = false → Gro N O (i + 1)) ∧ (missB O e = true → Gro N (O ++ [dirE (parentP e.path).1]) (i + 1)) := by
 have hlt := (List.getElem?_eq_some_iff.1 he).1
 refine ⟨fun hm => ⟨h.sub, h.frm, fun j x hj hx => ?_, h.nodup⟩, fun hm => ?_⟩
 ·by_cases hji : j = i
  ·subst hji
   rw [he] at hx
   cases hx
   exact hm
  ·exact h.done j x (by omega) hx
 ·obtain ⟨hp, hn⟩ := missB_iff.1 hm
  have hmem := List.mem_of_getElem? he
  refine ⟨fun x hx => List.mem_append_left _ (h.sub x hx), fun x hx => ?_, fun j x hj hx => ?_, ?_⟩
  ·rcases List.mem_append.1 hx with h1 | h1
   ·exact h.frm x h1
   ·rw [List.mem_singleton.1 h1]
    refine .inr ⟨_, rfl, fun h2 => hn ?_, h.anc hmem hp⟩
    obtain ⟨z, hz, e⟩ := List.mem_map.1 h2
    exact List.mem_map.2 ⟨z, h.sub z hz, e⟩
  ·by_cases hji : j = i
   ·subst hji
    rw [List.getElem?_append_left hlt, he] at hx
    cases hx
    cases h2 : missB (O ++ [dirE (parentP e.path).1]) e with
    | false => rfl
    | true => exact absurd (by simp [dirE]) (missB_iff.1 h2).2
   ·rw [List.getElem?_append_left (by omega)] at hx
    exact miss_more (h.done j x (by omega) hx)
  ·rw [List.map_append]
   refine List.nodup_append.2 ⟨h.nodup, by simp, fun a ha b hb => ?_⟩
   rw [List.map_cons, List.map_nil, List.mem_singleton] at hb
   subst hb
   rintro rfl
   exact hn ha
theorem growF_gro {N : List Ent} : ∀ (k : Nat) (O : List Ent) (i : Nat), Gro N O i → mu (O.drop i) ≤ k → i ≤ O.length → Gro N (growF k O i) (growF k O i).length ∧ (growF k O i).length ≤ O.length + k
 | 0, O, i, h, hm, hi => by
  have hx : O[i]? = none := by
   cases h : O[i]? with
   | none => rfl
   | some e =>
    rw [drop_some h] at hm
    have := cnt_pos e.path
    have e1 : mu (e :: O.drop (i + 1)) = cnt e.path + mu (O.drop (i + 1)) := by simp [mu]
    omega
  rw [List.getElem?_eq_none_iff] at hx
  have e : i = O.length := by omega
  subst e
  exact ⟨h, Nat.le_refl _⟩
 | k + 1, O, i, h, hm, hi => by
  have eq : growF (k + 1) O i = match O[i]? with | none => O | some e => if missB O e = true then growF k (O ++ [dirE (parentP e.path).1]) (i + 1) else growF k O (i + 1) := rfl
  rw [eq]
  cases hx : O[i]? with
  | none =>
   rw [List.getElem?_eq_none_iff] at hx
   have e : i = O.length := by omega
   subst e
   exact ⟨h, by show O.length ≤ _; omega⟩
  | some e =>
   have hlt := (List.getElem?_eq_some_iff.1 hx).1
   obtain ⟨m1, m2⟩ := mu_step hx hm
   obtain ⟨s1, s2⟩ := h.step hx
   show Gro N (if missB O e = true then _ else _) (List.length (if missB O e = true then _ else _)) ∧ List.length (if missB O e = true then _ else _) ≤ _
   cases hb : missB O e with
   | false =>
    rw [if_neg (by simp)]
    obtain ⟨a, b⟩ := growF_gro k O (i + 1) (s1 hb) m1 (by omega)
    exact ⟨a, by omega⟩
   | true =>
    rw [if_pos rfl]
    obtain ⟨a, b⟩ := growF_gro k (O ++ [dirE (parentP e.path).1]) (i + 1) (s2 hb) (m2 hb) (by simp; omega)
    refine ⟨a, ?_⟩
    simp at b
    omega
theorem Gro.clo {N R : List Ent} (h : Gro N R R.length) : Clo N R := by
 refine ⟨h.sub, h.frm, fun x hx hp => ?_, h.nodup⟩
 obtain ⟨j, hj⟩ := List.mem_iff_getElem?.1 hx
 have hm := h.done j x (List.getElem?_eq_some_iff.1 hj).1 hj
 by_cases hin : (parentP x.path).1 ∈ R.map Ent.path
 ·exact hin
 ·rw [missB_iff.2 ⟨hp, hin⟩] at hm
  cases hm
theorem gro_start {N : List Ent} (hd : (N.map Ent.path).Nodup) : Gro N N 0 := ⟨fun _ h => h, fun _ h => .inl h, fun j x hj => absurd hj (by omega), hd⟩
end Go.Abs
namespace Go.Abs
open Am Go.Proofs
set_option maxRecDepth 20000
theorem joinR_ok {ps : List (List UInt8)} (h : (joinR ps).2 = 0) : (joinR ps).1.length ≤ 400 := by
 unfold joinR at h ⊢
 split at h
 ·rename_i hc
  rw [if_pos hc]
  exact hc.2.2
 ·cases h
theorem normQ_len (s : List UInt8) : (normQ s).1.length ≤ 400 := by
 rcases normQ_range s with h | ⟨_, h⟩
 ·unfold normQ nmRes at h ⊢
  split at h
  ·exact joinR_ok h
  ·cases h
 ·rw [h]
  simp
theorem anc_len {s p : List UInt8} (h : Anc s p) : p.length ≤ s.length := by
 induction h with
 | par h => exact (parent_cnt h).2
 | up _ hp ih => exact Nat.le_trans (parent_cnt hp).2 ih
theorem cnt_le (s : List UInt8) : cnt s ≤ s.length + 1 := (split_part_le 47 s.length s (Nat.le_refl _)).2
theorem mu_le : ∀ (l : List Ent), (∀ x ∈ l, x.path.length ≤ 400) → mu l ≤ l.length * 401
 | [], _ => by simp [mu]
 | x :: l, h => by
  have ih := mu_le l fun y hy => h y (by simp [hy])
  have h1 := h x (by simp)
  have h2 := cnt_le x.path
  have e : mu (x :: l) = cnt x.path + mu l := by simp [mu]
  rw [e, List.length_cons, Nat.succ_mul]
  omega
theorem nm_path (e : Ent) : (nmE e).path.length ≤ 400 := normQ_len _
def grownR (t : List Ent) : List Ent := growF (mu (t.map nmE)) (t.map nmE) 0
theorem grown_clo {t : List Ent} (ht : t.length ≤ 200) (hd : ((t.map nmE).map Ent.path).Nodup) : Clo (t.map nmE) (grownR t) ∧ (grownR t).length ≤ 100000 := by
 obtain ⟨a, b⟩ := growF_gro (mu (t.map nmE)) (t.map nmE) 0 (gro_start hd) (Nat.le_refl _) (Nat.zero_le _)
 refine ⟨a.clo, ?_⟩
 have := mu_le (t.map nmE) fun x hx => by
  obtain ⟨y, _, rfl⟩ := List.mem_map.1 hx
  exact nm_path y
 rw [List.length_map] at b this
 unfold grownR
 omega
theorem clo_ok {N R : List Ent} (h : Clo N R) (hN : ∀ x ∈ N, x.path.length ≤ 400 ∧ EntOk x) : ∀ x ∈ R, x.path.length ≤ 400 ∧ EntOk x := by
 intro x hx
 rcases h.frm x hx with h1 | ⟨p, rfl, _, y, hy, ha⟩
 ·exact hN x h1
 ·have h1 := anc_len ha
  have h2 := (hN y hy).1
  exact ⟨by show p.length ≤ 400; omega, by simp [dirE], by show p.length ≤ _; omega, by simp [dirE, BS.l], rfl⟩
theorem nm_ok {e : Ent} (h : BEnt e) : (nmE e).path.length ≤ 400 ∧ EntOk (nmE e) := by
 refine ⟨nm_path e, ?_, ?_, ?_, ?_⟩
 ·show (if e.kind = 4 then (normQ e.link).1 else e.link).length ≤ _
  split
  ·have := normQ_len e.link
   omega
  ·exact h.2.1
 ·have := nm_path e
  omega
 ·show e.data.cp.l.length ≤ _
  rw [cp_l]
  have := h.2.2
  omega
 ·show e.data.cp.isTmp = false
  cases e.data <;> rfl
set_option maxHeartbeats 4000000 in
theorem s49 (c tmp : Bool) (t : List Ent) (h0 : t ≠ []) (ht : t.length ≤ 200) (hq : ∀ x ∈ t, BEnt x) : callT AB 49 [.view 8 (t.map Ent.av) c tmp] [] = some (buildR t) := by
 have hN0 : t.map nmE ≠ [] := by simpa using h0
 have hl : (t.map nmE).length = t.length := List.length_map _
 obtain ⟨⟨RV, RH⟩, hR⟩ : ∃ r, buildR t = r := ⟨_, rfl⟩
 rw [hR]
 unfold buildR at hR
 have hA := h49A c tmp t ht hq RV RH (fun hb => by
  rw [if_neg (by rw [hb]; simp)] at hR
  exact ⟨(congrArg Prod.fst hR).symm, (congrArg Prod.snd hR).symm⟩) (fun hb => by
  rw [if_pos hb] at hR
  have hB := h49B RV RH (t.map nmE) hN0 (by omega) (fun hd => by
   rw [if_neg hd] at hR
   exact ⟨(congrArg Prod.fst hR).symm, (congrArg Prod.snd hR).symm⟩) (fun hd => by
   rw [if_pos hd] at hR
   obtain ⟨hclo, hlen⟩ := grown_clo ht hd
   have hok := clo_ok hclo fun x hx => by
    obtain ⟨y, hy, rfl⟩ := List.mem_map.1 hx
    exact nm_ok (hq y hy)
   have hm := mu_le (t.map nmE) fun x hx => by
    obtain ⟨y, _, rfl⟩ := List.mem_map.1 hx
    exact nm_path y
   have hne : grownR t ≠ [] := by
    obtain ⟨y, r, hy⟩ := List.exists_cons_of_ne_nil hN0
    intro h
    have := hclo.sub y (by rw [hy]; simp)
    rw [h] at this
    cases this
   refine h49C RV RH (mu (t.map nmE)) (t.map nmE) 0 (Nat.le_refl _) (Nat.zero_le _) hN0 (by omega) (fun x hx => by
    obtain ⟨y, _, rfl⟩ := List.mem_map.1 hx
    have := nm_path y
    omega) fun ks => ?_
   have hD := h49D (grownR t) hne (by omega) (fun x hx => (hok x hx).2) hclo.nodup ks
   have e1 : (resD (grownR t)).1 = RV := congrArg Prod.fst hR
   have e2 : (resD (grownR t)).2 = RH := congrArg Prod.snd hR
   rw [e1, e2] at hD
   exact hD) (t.map nmE) [] 0 rfl rfl (by simp)
  have o1 : outA (t.map nmE) = .own 0 8 0 (t.map nmE).length false := if_neg hN0
  have p1 : hpA (t.map nmE) = [(0, .row ((t.map nmE).map Ent.av) 8)] := if_neg hN0
  rw [o1, p1]
  clear hR
  have e0 : List.map kv (ksE []) = [] := rfl
  rw [e0] at hB
  dsimp only at hB
  generalize t.map nmE = N at *
  refine hd_of (by unfold l49_2; rfl) ?_
  have gg:=trivial;repeat' first|simp (maxSteps:=2000000) (disch:=omega) only [gg,r49_2,lp_head,go_sem]|(refine br ?_ ?_<;>intro gg<;>try omega)|(apply And.intro;focus omega)|omega
  all_goals exact hB) t [] 0 rfl rfl rfl
 have o1 : outA (List.map nmE []) = .lit (.slice none 0 0) := rfl
 have p1 : hpA (List.map nmE []) = [] := rfl
 rw [o1, p1] at hA
 dsimp only at hA
 clear hR
 refine enter (ab_fn fn49) rfl rfl ?_
 have gg:=trivial;repeat' first|simp (maxSteps:=2000000) (disch:=omega) only [gg,b49,lp_head,go_sem]|(refine br ?_ ?_<;>intro gg<;>try omega)|(apply And.intro;focus omega)|omega
 all_goals exact hA
set_option maxHeartbeats 4000000 in
theorem s49n : callT AB 49 [.lit (.slice none 0 0)] [] = some (.tuple [.lit (.slice none 0 0), .lit .nilIface], []) := by
 have c85 : callT AB 85 [.lit (.slice none 0 0), .func (.func 86) []] [] = some (.tuple [], []) := callT_primh rfl fn85_none (p := sortH) rfl rfl (by simp)
 have c31 := callT_ext s31n
 refine enter (ab_fn fn49) rfl rfl ?_
 have gg:=trivial;repeat' first|simp (maxSteps:=2000000) (disch:=omega) only [gg,b49,lp_head,go_sem]|(refine br ?_ ?_<;>intro gg<;>try omega)|(apply And.intro;focus omega)|omega
 refine hd_of (by unfold l49_2; rfl) ?_
 have gg:=trivial;repeat' first|simp (maxSteps:=2000000) (disch:=omega) only [gg,r49_2,lp_head,go_sem]|(refine br ?_ ?_<;>intro gg<;>try omega)|(apply And.intro;focus omega)|omega
 refine hd_of (by unfold l49_1; rfl) ?_
 have gg:=trivial;repeat' first|simp (maxSteps:=2000000) (disch:=omega) only [gg,r49_1,lp_head,go_sem]|(refine br ?_ ?_<;>intro gg<;>try omega)|(apply And.intro;focus omega)|omega
 refine hd_of (by unfold l49_0; rfl) ?_
 have gg:=trivial;repeat' first|simp (maxSteps:=2000000) (disch:=omega) only [gg,r49_0,c85,c31,go_sem]|(refine br ?_ ?_<;>intro gg<;>try omega)|(apply And.intro;focus omega)|omega
end Go.Abs
namespace Go.Abs
open Am Lib
set_option maxRecDepth 10000
end Go.Abs
namespace Go.Abs
open Am Lib
set_option maxRecDepth 10000
end Go.Abs
namespace Go.Abs
end Go.Abs
namespace Go.Abs
open Am Lib
set_option maxRecDepth 10000
end Go.Abs
namespace Go.Abs
end Go.Abs
namespace Go.Abs
open Am
set_option maxRecDepth 10000
def largeB : Int → List Ent → Bool
 | _, [] => false
 | n, e :: r => if 65536 < n + (512 + (e.data.l.length : Int) + e.path.length + e.link.length) then true else largeB (n + (512 + (e.data.l.length : Int) + e.path.length + e.link.length)) r
def EntL (e : Ent) : Prop := e.path.length ≤ 140737488351232 ∧ e.link.length ≤ 140737488351232 ∧ e.data.l.length ≤ 140737488351232
inductive RS where
 | nil
 | mk (clip tmp : Bool) (l : List Rcd)
namespace RS
def av : RS → AVal
 | .nil => .lit (.slice none 0 0)
 | .mk c t l => .view 2 (l.map Rcd.av) c t
def l : RS → List Rcd
 | .nil => []
 | .mk _ _ l => l
def isTmp : RS → Bool
 | .nil => false
 | .mk _ t _ => t
end RS
section
variable {r : RS} {f : Nat → Option Nat} {h : Heap}
end
end Go.Abs
namespace Go.Abs
open Am Lib
set_option maxRecDepth 10000
end Go.Abs
namespace Go.Abs
open Am Lib
set_option maxRecDepth 10000
end Go.Abs
namespace Go.Abs
open Am Lib
set_option maxRecDepth 10000
end Go.Abs
namespace Go.Abs
open Am Lib
set_option maxRecDepth 20000
end Go.Abs
namespace Go.Abs
open Am Lib
set_option maxRecDepth 20000
end Go.Abs
namespace Go.Abs
open Am Lib
set_option maxRecDepth 20000
end Go.Abs
namespace Go.Abs
open Am Lib
set_option maxRecDepth 20000
end Go.Abs
namespace Go.Abs
open Am Lib
set_option maxRecDepth 20000
end Go.Abs
namespace Go.Abs
open Am Lib
set_option maxRecDepth 20000
end Go.Abs
namespace Go.Abs
open Am Lib
set_option maxRecDepth 10000
set_option maxHeartbeats 4000000 in
theorem h41 (cl tmp : Bool) (t : List Ent) (ht : t.length ≤ 200) (hq : ∀ e ∈ t, EntOk e) (r0 : Int × Int) : ∀ (rest done : List Ent) (c : Ck) (i : Int), t = done ++ rest → i = done.length → CkOk c done → (∀ p ∈ done.getLast?, c.last = p.path) → r0 = checkL c i rest →
  HD AA 0 [0, 2, 3, 4, 5] l41_0 ⟨[.view 8 (t.map Ent.av) cl tmp, .junk, .int .i64 0, .int .i64 0, .int .i64 c.size, .int .i64 i, .junk, .junk, .junk, .junk, .junk, .junk, .junk, .junk, .junk, .junk, .junk, .junk, .junk, .junk, .junk, .junk, .junk, .junk, .junk, .junk, .junk, .junk, .junk, .junk, .junk, .junk, .junk, .junk, .junk, .junk, .junk, .junk, .junk, .junk, .junk, .junk, .junk, .junk, .junk, .junk, .junk, .junk, .junk, .junk, .junk, .junk, .junk, .junk, .junk, .junk, .junk, .junk, .junk, .junk, .junk, .junk, .junk, .junk, .junk, .junk, .junk, .junk, .junk, .junk, .junk, .junk, .junk, .junk, .junk, .junk, .junk, .junk, .junk, .junk, .junk, .junk, .junk, .junk, .junk, .junk, .junk, .junk, .junk, .junk, .junk], [], 0⟩ [.blk 0, .code r41_0] (Fin [(2, none), (3, none)] 0 (.tuple [.int .i64 r0.1, .int .i64 r0.2]) [])
 | [], done, c, i, h1, h2, hck, hlast, h5 => by
  have hl : t.length = done.length := by rw [h1]; simp
  have hr : r0 = (-1, 0) := h5
  subst hr
  refine hd_of (by unfold l41_0; rfl) ?_
  have gg:=trivial;repeat' first|simp (maxSteps:=2000000) (disch:=omega) only [gg,r41_0,go_sem]|(refine br ?_ ?_<;>intro gg<;>try omega)|(apply And.intro;focus omega)|omega
 | e :: rest, done, c, i, h1, h2, hck, hlast, h5 => by
  have hl : t.length = done.length + (rest.length + 1) := by rw [h1]; simp
  have hm : e ∈ t := by rw [h1]; simp
  obtain ⟨b1, b2, b3, b4⟩ := hq e hm
  have hsz := hck.size
  have hx : t[i.toNat]? = some e := by
   rw [show i.toNat = done.length by omega, h1, List.getElem?_append_right (by omega)]
   simp
  have k1 := s75 e.path b2
  have k2 := s76 e.path b2
  have k3 := s77 e b1
  have k4 := fun p => s79 cl tmp t (by omega) p i (by omega) (by omega)
  have hti : t.take i.toNat = done := by rw [show i.toNat = done.length by omega, h1, List.take_left' rfl]
  simp only [hti] at k4
  simp only [Ent.av] at k3
  have hs := step_entry hck e
  rw [checkL, hs] at h5
  have S : ∀ k, stepE done c.last c.size e = k → k ≠ 0 → r0 = (i, k) := by
   intro k h6 h7
   rw [h5, h6, if_neg h7]
  have K : stepE done c.last c.size e = 0 → HD AA 0 [0, 2, 3, 4, 5] l41_0 ⟨[.view 8 (t.map Ent.av) cl tmp, .junk, .int .i64 0, .int .i64 0, .int .i64 (c.size + e.data.l.length), .int .i64 (i + 1), .junk, .junk, .junk, .junk, .junk, .junk, .junk, .junk, .junk, .junk, .junk, .junk, .junk, .junk, .junk, .junk, .junk, .junk, .junk, .junk, .junk, .junk, .junk, .junk, .junk, .junk, .junk, .junk, .junk, .junk, .junk, .junk, .junk, .junk, .junk, .junk, .junk, .junk, .junk, .junk, .junk, .junk, .junk, .junk, .junk, .junk, .junk, .junk, .junk, .junk, .junk, .junk, .junk, .junk, .junk, .junk, .junk, .junk, .junk, .junk, .junk, .junk, .junk, .junk, .junk, .junk, .junk, .junk, .junk, .junk, .junk, .junk, .junk, .junk, .junk, .junk, .junk, .junk, .junk, .junk, .junk, .junk, .junk, .junk, .junk], [], 0⟩ [.blk 0, .code r41_0] (Fin [(2, none), (3, none)] 0 (.tuple [.int .i64 r0.1, .int .i64 r0.2]) []) := by
   intro h6
   rw [h6] at hs
   rw [h6, if_pos rfl] at h5
   obtain ⟨a1, a2, a3⟩ := step_ok hck hs
   have ih := h41 cl tmp t ht hq r0 rest (done ++ [e]) (entryE c e).2 (i + 1) (by rw [h1]; simp) (by simp; omega) a1 (by simp [a2]) h5
   rw [a3] at ih
   exact ih
  clear h5 hs
  by_cases hi : 0 < i
  ·obtain ⟨p, hp⟩ : ∃ p, done.getLast? = some p := by
    cases hd : done.getLast? with
    | none => rw [List.getLast?_eq_none_iff.1 hd] at h2; simp at h2; omega
    | some p => exact ⟨p, rfl⟩
   have hcl : c.last = p.path := hlast p (by rw [hp]; rfl)
   have hx2 : t[(i - 1).toNat]? = some p := by
    rw [show (i - 1).toNat = done.length - 1 by omega, h1, List.getElem?_append_left (by omega), ← List.getLast?_eq_getElem?, hp]
   have hpm : p ∈ t := by rw [h1]; exact List.mem_append_left _ (List.mem_of_getLast? hp)
   have k5 := s78 p.path e.path (hq p hpm).2.1 b2
   have hdl : 0 < done.length := by omega
   rw [hcl] at S K
   refine hd_of (by unfold l41_0; rfl) ?_
   have gg:=trivial;repeat' first|simp (maxSteps:=2000000) (disch:=omega) only [gg,hx,hx2,k1,k2,k3,k4,k5,lp_head,go_sem]|(refine br ?_ ?_<;>intro gg<;>try omega)|(apply And.intro;focus omega)|omega
   all_goals clear k1 k2 k3 k4 k5
   all_goals (try simp only [Bool.not_eq_true', Bool.not_eq_false'] at *)
   all_goals first
    |(refine K ?_; simp [stepE, *]; done)
    |(rw [S 12] <;> first | omega | (simp [stepE, *]; done))
    |(rw [S 13] <;> first | omega | (simp [stepE, *]; done))
    |(rw [S 18] <;> first | omega | (simp [stepE, *]; done))
  ·have hdl : ¬ 0 < done.length := by omega
   refine hd_of (by unfold l41_0; rfl) ?_
   have gg:=trivial;repeat' first|simp (maxSteps:=2000000) (disch:=omega) only [gg,hx,k1,k2,k3,k4,lp_head,go_sem]|(refine br ?_ ?_<;>intro gg<;>try omega)|(apply And.intro;focus omega)|omega
   all_goals clear k1 k2 k3 k4
   all_goals (try simp only [Bool.not_eq_true', Bool.not_eq_false'] at *)
   all_goals first
    |(refine K ?_; simp [stepE, *]; done)
    |(rw [S 12] <;> first | omega | (simp [stepE, *]; done))
    |(rw [S 13] <;> first | omega | (simp [stepE, *]; done))
    |(rw [S 18] <;> first | omega | (simp [stepE, *]; done))
theorem s41 (cl tmp : Bool) (t : List Ent) (hq : ∀ e ∈ t, EntOk e) (hl : t.length ≤ 1000000000) : callT AA 41 [.view 8 (t.map Ent.av) cl tmp] [] = some (.tuple [.int .i64 (checkT t).1, .int .i64 (checkT t).2], []) := by
 refine enter fn41 np41 rfl ?_
 unfold checkT
 by_cases h : 200 < t.length
 ·rw [if_pos h]
  have gg:=trivial;repeat' first|simp (maxSteps:=2000000) (disch:=omega) only [gg,b41,go_sem]|(refine br ?_ ?_<;>intro gg<;>try omega)|(apply And.intro;focus omega)|omega
 ·rw [if_neg h]
  have hh := h41 cl tmp t (by omega) hq (checkL ⟨[], [], 0⟩ 0 t) t [] ⟨[], [], 0⟩ 0 rfl rfl ck_first (by simp) rfl
  have gg:=trivial;repeat' first|simp (maxSteps:=2000000) (disch:=omega) only [gg,b41,lp_head,go_sem]|(refine br ?_ ?_<;>intro gg<;>try omega)|(apply And.intro;focus omega)|omega
end Go.Abs
namespace Go.Abs
open Am Lib
set_option maxRecDepth 20000
theorem kinds_of {t : List Ent} (h : (checkT t).2 = 0) : ∀ e ∈ t, FieldsOk e ∧ e.path.length ≤ 400 := by
 intro e he
 obtain ⟨_, h2⟩ := checkT_good h
 obtain ⟨g1, g2⟩ := h2 e he
 exact ⟨fields_ok g2, good_le g1⟩
def Ent.rav (e : Ent) : AVal := .agg [.str e.path, .int .i64 e.kind, .int .i64 e.mode, .int .i64 e.uid, .int .i64 e.gid, .int .i64 e.time, .str e.link, .view 1 (e.data.l.map .byte) false false]
theorem rav_eq (t : List Ent) : t.map Ent.rav = (t.map rdEnt).map Ent.av := by
 rw [List.map_map]
 rfl
theorem h16 (c tmp : Bool) (t : List Ent) (ht : t.length ≤ 1000000) (hd : ∀ e ∈ t, e.data.l.length ≤ 140737488351232) : ∀ (rest done : List Ent) (i : Int) (q : Nat), t = done ++ rest → i = done.length → q = done.length →
  HD AA 0 [0, 2, 3, 4] l16_0 ⟨[.view 8 (t.map Ent.av) c tmp, .junk, .lit (.slice none 0 0), .own 0 8 0 q false, .int .i64 i, .junk, .junk, .junk, .junk, .junk, .junk, .junk, .junk, .junk, .junk, .junk, .junk, .junk, .junk, .junk, .junk, .junk, .junk, .junk, .junk, .junk], [(0, .row (done.map Ent.rav) 8)], 1⟩ [.blk 0, .code r16_0] (Fin [(2, none)] 0 (.own 0 8 0 t.length false) [(0, .row (t.map Ent.rav) 8)])
 | [], done, i, q, h1, h2, h3 => by
  have hl : t.length = q := by rw [h1, h3]; simp
  have hl2 : t = done := by rw [h1]; simp
  rw [hl]
  subst hl2
  refine hd_of (by unfold l16_0; rfl) ?_
  have gg:=trivial;repeat' first|simp (maxSteps:=2000000) (disch:=omega) only [gg,r16_0,go_sem]|(refine br ?_ ?_<;>intro gg<;>try omega)|(apply And.intro;focus omega)|omega
 | e :: rest, done, i, q, h1, h2, h3 => by
  have hl : t.length = done.length + (rest.length + 1) := by rw [h1]; simp
  have hx : t[i.toNat]? = some e := by
   rw [h1, show i.toNat = done.length by omega]
   simp
  have hde := hd e (by rw [h1]; simp)
  have ih := h16 c tmp t ht hd rest (done ++ [e]) (i + 1) (q + 1) (by rw [h1]; simp) (by simp; omega) (by simp; omega)
  simp only [List.map_append, List.map_cons, List.map_nil, Ent.rav] at ih
  have hr : (done.map Ent.rav).take q = done.map Ent.rav := List.take_of_length_le (by simp; omega)
  refine hd_of (by unfold l16_0; rfl) ?_
  have gg:=trivial;repeat' first|simp (maxSteps:=2000000) (disch:=omega) only [gg,hx,hr,List.take_zero,List.drop_zero,take_map_len,lp_head,go_sem]|(refine br ?_ ?_<;>intro gg<;>try omega)|(apply And.intro;focus omega)|omega
theorem s16 (c tmp : Bool) (e : Ent) (r : List Ent) (ht : (e :: r).length ≤ 1000000) (hd : ∀ x ∈ e :: r, x.data.l.length ≤ 140737488351232) : callT AA 16 [.view 8 ((e :: r).map Ent.av) c tmp] [] = some (.own 0 8 0 (e :: r).length false, [(0, .row ((e :: r).map Ent.rav) 8)]) := by
 have hh := h16 c tmp (e :: r) ht hd r [e] 1 1 rfl rfl rfl
 have hde := hd e (by simp)
 have hx : (e :: r)[0]? = some e := rfl
 have hl : 0 < (e :: r).length := by simp
 generalize e :: r = t at *
 simp only [List.map_cons, List.map_nil, Ent.rav] at hh
 refine enter fn16 np16 rfl ?_
 have gg:=trivial;repeat' first|simp (maxSteps:=2000000) (disch:=omega) only [gg,b16,lp_head,go_sem]|(refine br ?_ ?_<;>intro gg<;>try omega)|(apply And.intro;focus omega)|omega
 refine hd_of (by unfold l16_0; rfl) ?_
 have gg:=trivial;repeat' first|simp (maxSteps:=2000000) (disch:=omega) only [gg,hx,List.take_zero,List.drop_zero,take_map_len,lp_head,go_sem]|(refine br ?_ ?_<;>intro gg<;>try omega)|(apply And.intro;focus omega)|omega
theorem s16n : callT AA 16 [.lit (.slice none 0 0)] [] = some (.lit (.slice none 0 0), []) := by
 refine enter fn16 np16 rfl ?_
 have gg:=trivial;repeat' first|simp (maxSteps:=2000000) (disch:=omega) only [gg,b16,lp_head,go_sem]|(refine br ?_ ?_<;>intro gg<;>try omega)|(apply And.intro;focus omega)|omega
 refine hd_of (by unfold l16_0; rfl) ?_
 have gg:=trivial;repeat' first|simp (maxSteps:=2000000) (disch:=omega) only [gg,r16_0,go_sem]|(refine br ?_ ?_<;>intro gg<;>try omega)|(apply And.intro;focus omega)|omega
theorem s16e (c tmp : Bool) : callT AA 16 [.view 8 [] c tmp] [] = some (.lit (.slice none 0 0), []) := by
 refine enter fn16 np16 rfl ?_
 have gg:=trivial;repeat' first|simp (maxSteps:=2000000) (disch:=omega) only [gg,b16,lp_head,go_sem]|(refine br ?_ ?_<;>intro gg<;>try omega)|(apply And.intro;focus omega)|omega
 refine hd_of (by unfold l16_0; rfl) ?_
 have gg:=trivial;repeat' first|simp (maxSteps:=2000000) (disch:=omega) only [gg,r16_0,go_sem]|(refine br ?_ ?_<;>intro gg<;>try omega)|(apply And.intro;focus omega)|omega
end Go.Abs
namespace Go.Abs
open Am Go.Proofs
set_option maxRecDepth 20000
def putsF (l : List Ent) : List Ent := l.foldl (fun o e => insK Ent.path e o) []
theorem putsF_snoc (d : List Ent) (x : Ent) : putsF (d ++ [x]) = insK Ent.path x (putsF d) := by simp [putsF]
theorem putsF_perm : ∀ (l o : List Ent), (l.foldl (fun o e => insK Ent.path e o) o).Perm (l ++ o)
 | [], o => .refl _
 | x :: l, o => (putsF_perm l _).trans (((insK_perm Ent.path x o).append_left l).trans List.perm_middle)
theorem putsF_len (l : List Ent) : (putsF l).length = l.length := by
 have := (putsF_perm l []).length_eq
 simpa [putsF] using this
theorem putsF_mem {l : List Ent} {x : Ent} : x ∈ putsF l ↔ x ∈ l := by
 have := (putsF_perm l []).mem_iff (a := x)
 simpa [putsF] using this
def err50 (n : Int) : AVal := .tuple [.lit (.slice none 0 0), .int .i64 n]
def cpA (O : List Ent) (n : Nat) : AVal := if O = [] then .own 0 8 0 n false else .own 1 8 0 n false
def hpB (O U : List Ent) : Heap := if O = [] then [(0, .row (U.map Ent.av) 8)] else [(0, .row (O.map Ent.av) 8), (1, .row (U.map Ent.av) 8)]
set_option maxHeartbeats 8000000 in
theorem h50bad (U : List Ent) (n : Nat) (hn : n = U.length) (hu : U.length ≤ 200) (hq : ∀ x ∈ U, BEnt x) (x : Ent) (l d : List Ent) (i : Int) (h1 : U = d ++ x :: l) (h2 : i = d.length) (hb : nmOk x = false) (hx : x.data.isTmp = false) (O : List Ent) (S : List Frame) (hS : S = [.blk 0, .code r50_2]) :
  HD AA 0 [2, 3, 4, 5, 6] l50_3 ⟨[.junk, .junk, .lit (.slice none 0 0), .int .i64 0, outA O, cpA O n, .int .i64 i, .junk, .junk, .junk, .junk, .junk, .junk, .junk, .junk, .junk, .junk, .junk, .junk, .junk, .junk, .junk, .junk, .junk, .junk, .junk, .junk, .junk, .junk, .junk, .junk, .junk, .junk, .junk, .junk, .junk, .junk, .junk, .junk, .junk, .junk, .junk, .junk, .junk, .junk, .junk, .junk, .junk, .junk, .junk, .junk, .junk, .junk, .junk, .junk, .junk, .junk, .junk, .junk, .junk, .junk, .junk, .junk, .junk, .junk, .junk, .junk, .junk, .junk, .junk, .junk, .junk, .junk, .junk, .junk, .junk, .junk, .junk, .junk, .junk, .junk, .junk, .junk, .junk, .junk, .junk, .junk, .junk, .junk, .junk, .junk, .junk, .junk, .junk, .junk, .junk, .junk, .junk, .junk, .junk, .junk, .junk, .junk, .junk, .junk, .junk, .junk, .junk, .junk, .junk, .junk, .junk, .junk, .junk, .junk, .junk, .junk, .junk, .junk, .junk, .junk], hpB O U, (hpB O U).length⟩ S (Fin [(2, none), (3, none)] 0 (err50 12) []) := by
 have hl : U.length = d.length + (l.length + 1) := by rw [h1]; simp
 have hg : U[i.toNat]? = some x := by rw [h1, h2]; simp
 obtain ⟨b1, b2, b3⟩ := hq x (by rw [h1]; simp)
 have c1 := s88 x.path b1
 have c2 := s88 x.link b2
 have tk : (U.map Ent.av).take n = U.map Ent.av := List.take_of_length_le (by simp; omega)
 unfold nmOk at hb
 have hc : (normQ x.path).2 ≠ 0 ∨ ((normQ x.path).2 = 0 ∧ x.kind = 4 ∧ (normQ x.link).2 ≠ 0) := by
  by_cases hp : (normQ x.path).2 = 0
  ·by_cases hk : x.kind = 4
   ·by_cases hl : (normQ x.link).2 = 0
    ·simp [hp, hk, hl] at hb
    ·exact .inr ⟨hp, hk, hl⟩
   ·simp [hp, hk] at hb
  ·exact .inl hp
 clear hb h1 hq
 unfold err50
 generalize (normQ x.path).1 = P at *
 generalize (normQ x.path).2 = E at *
 generalize (normQ x.link).1 = Q at *
 generalize (normQ x.link).2 = E2 at *
 have key : ∀ (o cp : AVal) (hp : Heap), (o = .lit (.slice none 0 0) ∧ cp = .own 0 8 0 n false ∧ hp = [(0, .row (U.map Ent.av) 8)]) ∨ (o = .own 0 8 0 O.length false ∧ cp = .own 1 8 0 n false ∧ hp = [(0, .row (O.map Ent.av) 8), (1, .row (U.map Ent.av) 8)]) →
   HD AA 0 [2, 3, 4, 5, 6] l50_3 ⟨[.junk, .junk, .lit (.slice none 0 0), .int .i64 0, o, cp, .int .i64 i, .junk, .junk, .junk, .junk, .junk, .junk, .junk, .junk, .junk, .junk, .junk, .junk, .junk, .junk, .junk, .junk, .junk, .junk, .junk, .junk, .junk, .junk, .junk, .junk, .junk, .junk, .junk, .junk, .junk, .junk, .junk, .junk, .junk, .junk, .junk, .junk, .junk, .junk, .junk, .junk, .junk, .junk, .junk, .junk, .junk, .junk, .junk, .junk, .junk, .junk, .junk, .junk, .junk, .junk, .junk, .junk, .junk, .junk, .junk, .junk, .junk, .junk, .junk, .junk, .junk, .junk, .junk, .junk, .junk, .junk, .junk, .junk, .junk, .junk, .junk, .junk, .junk, .junk, .junk, .junk, .junk, .junk, .junk, .junk, .junk, .junk, .junk, .junk, .junk, .junk, .junk, .junk, .junk, .junk, .junk, .junk, .junk, .junk, .junk, .junk, .junk, .junk, .junk, .junk, .junk, .junk, .junk, .junk, .junk, .junk, .junk, .junk, .junk, .junk], hp, hp.length⟩ S (Fin [(2, none), (3, none)] 0 (.tuple [.lit (.slice none 0 0), .int .i64 12]) []) := by
  intro o cp hp h
  obtain ⟨pa, ki, mo, ui, gi, ti, li, da⟩ := x
  simp only at *
  rcases h with ⟨rfl, rfl, rfl⟩ | ⟨rfl, rfl, rfl⟩ <;> rcases hc with hp | ⟨rfl, rfl, he⟩
  ·refine hd_of (by unfold l50_3; rfl) ?_
   have gg:=trivial;repeat' first|simp (maxSteps:=2000000) (disch:=omega) only [gg,hg,tk,c1,hx,hS,go_sem]|(refine br ?_ ?_<;>intro gg<;>try omega)|(apply And.intro;focus omega)|omega
  ·refine hd_of (by unfold l50_3; rfl) ?_
   have gg:=trivial;repeat' first|simp (maxSteps:=2000000) (disch:=omega) only [gg,hg,tk,c1,c2,hx,hS,go_sem]|(refine br ?_ ?_<;>intro gg<;>try omega)|(apply And.intro;focus omega)|omega
  ·refine hd_of (by unfold l50_3; rfl) ?_
   have gg:=trivial;repeat' first|simp (maxSteps:=2000000) (disch:=omega) only [gg,hg,tk,c1,hx,hS,go_sem]|(refine br ?_ ?_<;>intro gg<;>try omega)|(apply And.intro;focus omega)|omega
  ·refine hd_of (by unfold l50_3; rfl) ?_
   have gg:=trivial;repeat' first|simp (maxSteps:=2000000) (disch:=omega) only [gg,hg,tk,c1,c2,hx,hS,go_sem]|(refine br ?_ ?_<;>intro gg<;>try omega)|(apply And.intro;focus omega)|omega
 refine key _ _ _ ?_
 by_cases h0 : O = []
 ·exact .inl ⟨if_pos h0, if_pos h0, if_pos h0⟩
 ·exact .inr ⟨if_neg h0, if_neg h0, if_neg h0⟩
end Go.Abs
namespace Go.Abs
open Am Go.Proofs
set_option maxRecDepth 20000
set_option maxHeartbeats 8000000 in
theorem h50ok (U : List Ent) (n : Nat) (hn : n = U.length) (hu : U.length ≤ 200) (hq : ∀ x ∈ U, BEnt x) (x : Ent) (l d : List Ent) (i : Int) (h1 : U = d ++ x :: l) (h2 : i = d.length) (hb : nmOk x = true) (hx : x.data = .mk false false x.data.l) (O : List Ent) (hO : O.length ≤ 200) (hOq : ∀ x ∈ O, x.data.isTmp = false ∧ x.path.length ≤ 1000000) (S : List Frame) (F : FinP)
  (ih : HD AA 0 [2, 3, 4, 5, 6] l50_3 ⟨[.junk, .junk, .lit (.slice none 0 0), .int .i64 0, outA (insK Ent.path (nmE x) O), cpA (insK Ent.path (nmE x) O) n, .int .i64 (i + 1), .junk, .junk, .junk, .junk, .junk, .junk, .junk, .junk, .junk, .junk, .junk, .junk, .junk, .junk, .junk, .junk, .junk, .junk, .junk, .junk, .junk, .junk, .junk, .junk, .junk, .junk, .junk, .junk, .junk, .junk, .junk, .junk, .junk, .junk, .junk, .junk, .junk, .junk, .junk, .junk, .junk, .junk, .junk, .junk, .junk, .junk, .junk, .junk, .junk, .junk, .junk, .junk, .junk, .junk, .junk, .junk, .junk, .junk, .junk, .junk, .junk, .junk, .junk, .junk, .junk, .junk, .junk, .junk, .junk, .junk, .junk, .junk, .junk, .junk, .junk, .junk, .junk, .junk, .junk, .junk, .junk, .junk, .junk, .junk, .junk, .junk, .junk, .junk, .junk, .junk, .junk, .junk, .junk, .junk, .junk, .junk, .junk, .junk, .junk, .junk, .junk, .junk, .junk, .junk, .junk, .junk, .junk, .junk, .junk, .junk, .junk, .junk, .junk, .junk], hpB (insK Ent.path (nmE x) O) U, (hpB (insK Ent.path (nmE x) O) U).length⟩ (.blk 0 :: S) F) :
  HD AA 0 [2, 3, 4, 5, 6] l50_3 ⟨[.junk, .junk, .lit (.slice none 0 0), .int .i64 0, outA O, cpA O n, .int .i64 i, .junk, .junk, .junk, .junk, .junk, .junk, .junk, .junk, .junk, .junk, .junk, .junk, .junk, .junk, .junk, .junk, .junk, .junk, .junk, .junk, .junk, .junk, .junk, .junk, .junk, .junk, .junk, .junk, .junk, .junk, .junk, .junk, .junk, .junk, .junk, .junk, .junk, .junk, .junk, .junk, .junk, .junk, .junk, .junk, .junk, .junk, .junk, .junk, .junk, .junk, .junk, .junk, .junk, .junk, .junk, .junk, .junk, .junk, .junk, .junk, .junk, .junk, .junk, .junk, .junk, .junk, .junk, .junk, .junk, .junk, .junk, .junk, .junk, .junk, .junk, .junk, .junk, .junk, .junk, .junk, .junk, .junk, .junk, .junk, .junk, .junk, .junk, .junk, .junk, .junk, .junk, .junk, .junk, .junk, .junk, .junk, .junk, .junk, .junk, .junk, .junk, .junk, .junk, .junk, .junk, .junk, .junk, .junk, .junk, .junk, .junk, .junk, .junk, .junk], hpB O U, (hpB O U).length⟩ (.blk 0 :: S) F := by
 have hl : U.length = d.length + (l.length + 1) := by rw [h1]; simp
 have hg : U[i.toNat]? = some x := by rw [h1, h2]; simp
 obtain ⟨b1, b2, b3⟩ := hq x (by rw [h1]; simp)
 have c1 := s88 x.path b1
 have c2 := s88 x.link b2
 have tk : (U.map Ent.av).take n = U.map Ent.av := List.take_of_length_le (by simp; omega)
 have tkO : (O.map Ent.av).take O.length = O.map Ent.av := List.take_of_length_le (by simp)
 have hne : (nmE x).data.isTmp = false ∧ (nmE x).path.length ≤ 1000000 := by
  refine ⟨?_, ?_⟩
  ·show x.data.cp.isTmp = false
   cases x.data <;> rfl
  ·have := normQ_len x.path
   show (normQ x.path).1.length ≤ _
   omega
 have c89 := fun cl tm => s89 cl tm O (by omega) hOq (nmE x) hne
 have c89n := s89n (nmE x) hne.1
 have i0 : insK Ent.path (nmE x) O ≠ [] := by
  intro h
  have := (insK_perm Ent.path (nmE x) O).length_eq
  rw [h] at this
  simp at this
 have o2 : outA (insK Ent.path (nmE x) O) = .own 0 8 0 (insK Ent.path (nmE x) O).length false := if_neg i0
 have p2 : hpB (insK Ent.path (nmE x) O) U = [(0, .row ((insK Ent.path (nmE x) O).map Ent.av) 8), (1, .row (U.map Ent.av) 8)] := if_neg i0
 have q2 : cpA (insK Ent.path (nmE x) O) n = .own 1 8 0 n false := if_neg i0
 rw [o2, p2, q2] at ih
 dsimp only at ih
 have av : (nmE x).av = .agg [.str (normQ x.path).1, .int .i64 x.kind, .int .i64 x.mode, .int .i64 x.uid, .int .i64 x.gid, .int .i64 x.time, .str (if x.kind = 4 then (normQ x.link).1 else x.link), (BS.mk false false x.data.l).av] := by
  show AVal.agg [_, _, _, _, _, _, _, x.data.cp.av] = _
  rw [hx]
  rfl
 have i1 : O = [] → insK Ent.path (nmE x) O = [nmE x] := fun h => by rw [h]; rfl
 rw [av] at c89 c89n
 have s1 : O = [] → (insK Ent.path (nmE x) O).length = 1 := fun h => by rw [i1 h]; rfl
 have s2 : O = [] → (insK Ent.path (nmE x) O).map Ent.av = [.agg [.str (normQ x.path).1, .int .i64 x.kind, .int .i64 x.mode, .int .i64 x.uid, .int .i64 x.gid, .int .i64 x.time, .str (if x.kind = 4 then (normQ x.link).1 else x.link), (BS.mk false false x.data.l).av]] := fun h => by rw [i1 h, List.map_cons, av]; rfl
 clear i1 o2 p2 q2 av hne i0 h1 hq
 generalize insK Ent.path (nmE x) O = I at *
 unfold nmOk at hb
 have hp : (normQ x.path).2 = 0 := by
  by_cases hp : (normQ x.path).2 = 0
  ·exact hp
  ·simp [hp] at hb
 have hk : x.kind = 4 → (normQ x.link).2 = 0 := fun hk => by
  simpa [hp, hk] using hb
 clear hb
 rw [hp] at c1
 obtain ⟨pa, ki, mo, ui, gi, ti, li, da⟩ := x
 simp only at *
 generalize da.l = dl at *
 subst hx
 by_cases hO0 : O = []
 ·have e1 := s1 hO0
  have e2 := s2 hO0
  subst hO0
  have o1 : outA [] = .lit (.slice none 0 0) := rfl
  have p1 : hpB [] U = [(0, .row (U.map Ent.av) 8)] := rfl
  have q1 : cpA [] n = .own 0 8 0 n false := rfl
  rw [o1, p1, q1]
  rw [e1, e2] at ih
  clear s1 s2 c89 e1 e2
  by_cases k4 : ki = 4
  ·subst k4
   rw [hk rfl] at c2
   rw [if_pos rfl] at c89n ih
   generalize (normQ pa).1 = P at *
   generalize (normQ li).1 = Q at *
   refine hd_of (by unfold l50_3; rfl) ?_
   have gg:=trivial;repeat' first|simp (maxSteps:=2000000) (disch:=omega) only [gg,hg,tk,c1,c2,c89n,lp_head,go_sem]|(refine br ?_ ?_<;>intro gg<;>try omega)|(apply And.intro;focus omega)|omega
   all_goals exact ih
  ·rw [if_neg k4] at c89n ih
   generalize (normQ pa).1 = P at *
   refine hd_of (by unfold l50_3; rfl) ?_
   have gg:=trivial;repeat' first|simp (maxSteps:=2000000) (disch:=omega) only [gg,hg,tk,c1,k4,c89n,lp_head,go_sem]|(refine br ?_ ?_<;>intro gg<;>try omega)|(apply And.intro;focus omega)|omega
   all_goals exact ih
 ·have o1 : outA O = .own 0 8 0 O.length false := if_neg hO0
  have p1 : hpB O U = [(0, .row (O.map Ent.av) 8), (1, .row (U.map Ent.av) 8)] := if_neg hO0
  have q1 : cpA O n = .own 1 8 0 n false := if_neg hO0
  rw [o1, p1, q1]
  clear s1 s2 c89n
  by_cases k4 : ki = 4
  ·subst k4
   rw [hk rfl] at c2
   rw [if_pos rfl] at c89
   generalize (normQ pa).1 = P at *
   generalize (normQ li).1 = Q at *
   refine hd_of (by unfold l50_3; rfl) ?_
   have gg:=trivial;repeat' first|simp (maxSteps:=2000000) (disch:=omega) only [gg,hg,tk,tkO,c1,c2,c89,lp_head,go_sem]|(refine br ?_ ?_<;>intro gg<;>try omega)|(apply And.intro;focus omega)|omega
   all_goals exact ih
  ·rw [if_neg k4] at c89
   generalize (normQ pa).1 = P at *
   refine hd_of (by unfold l50_3; rfl) ?_
   have gg:=trivial;repeat' first|simp (maxSteps:=2000000) (disch:=omega) only [gg,hg,tk,tkO,c1,k4,c89,lp_head,go_sem]|(refine br ?_ ?_<;>intro gg<;>try omega)|(apply And.intro;focus omega)|omega
   all_goals exact ih
end Go.Abs
namespace Go.Abs
open Am Go.Proofs
set_option maxRecDepth 20000
def Ord (l : List Ent) : Prop := l.Pairwise fun a b => pLt b.path a.path = false
theorem insK_ord (x : Ent) : ∀ {l : List Ent}, Ord l → Ord (insK Ent.path x l)
 | [], _ => by simp [insK, Ord]
 | y :: r, h => by
  unfold Ord at h
  rw [List.pairwise_cons] at h
  unfold insK
  by_cases hc : pLt x.path y.path = true
  ·rw [if_pos hc]
   unfold Ord
   refine List.pairwise_cons.2 ⟨fun z hz => ?_, List.pairwise_cons.2 h⟩
   have hxy := pLt_asymm hc
   rcases List.mem_cons.1 hz with rfl | hz
   ·exact hxy
   ·exact pLt_ntrans (h.1 z hz) hxy
  ·have hc2 : pLt x.path y.path = false := by simpa using hc
   rw [if_neg hc]
   unfold Ord
   refine List.pairwise_cons.2 ⟨fun z hz => ?_, insK_ord x (show Ord r from h.2)⟩
   rcases List.mem_cons.1 ((insK_perm Ent.path x r).mem_iff.1 hz) with rfl | hz
   ·exact hc2
   ·exact h.1 z hz
theorem puts_ord : ∀ (l o : List Ent), Ord o → Ord (l.foldl (fun o e => insK Ent.path e o) o)
 | [], _, h => h
 | x :: l, _, h => puts_ord l _ (insK_ord x h)
theorem putsF_ord (l : List Ent) : Ord (putsF l) := puts_ord l [] (by simp [Ord])
set_option maxHeartbeats 8000000 in
theorem h50A (U : List Ent) (h0 : U ≠ []) (hu : U.length ≤ 200) (hq : ∀ x ∈ U, BEnt x) (hd : ∀ x ∈ U, x.data = .mk false false x.data.l) (RV : AVal) (RH : Heap)
  (H1 : U.all nmOk = false → RV = err50 12 ∧ RH = [])
  (H2 : U.all nmOk = true → HD AA 0 [2, 3, 4, 10] l50_2 ⟨[.junk, .junk, .lit (.slice none 0 0), .int .i64 0, .own 0 8 0 (putsF (U.map nmE)).length false, .junk, .junk, .junk, .junk, .junk, .int .i64 1, .junk, .junk, .junk, .junk, .junk, .junk, .junk, .junk, .junk, .junk, .junk, .junk, .junk, .junk, .junk, .junk, .junk, .junk, .junk, .junk, .junk, .junk, .junk, .junk, .junk, .junk, .junk, .junk, .junk, .junk, .junk, .junk, .junk, .junk, .junk, .junk, .junk, .junk, .junk, .junk, .junk, .junk, .junk, .junk, .junk, .junk, .junk, .junk, .junk, .junk, .junk, .junk, .junk, .junk, .junk, .junk, .junk, .junk, .junk, .junk, .junk, .junk, .junk, .junk, .junk, .junk, .junk, .junk, .junk, .junk, .junk, .junk, .junk, .junk, .junk, .junk, .junk, .junk, .junk, .junk, .junk, .junk, .junk, .junk, .junk, .junk, .junk, .junk, .junk, .junk, .junk, .junk, .junk, .junk, .junk, .junk, .junk, .junk, .junk, .junk, .junk, .junk, .junk, .junk, .junk, .junk, .junk, .junk, .junk, .junk], [(0, .row ((putsF (U.map nmE)).map Ent.av) 8)], 1⟩ [.blk 2, .code r50_1] (Fin [(2, none), (3, none)] 0 RV RH)) :
  ∀ (l d : List Ent) (i : Int), U = d ++ l → i = d.length → d.all nmOk = true →
  HD AA 0 [2, 3, 4, 5, 6] l50_3 ⟨[.junk, .junk, .lit (.slice none 0 0), .int .i64 0, outA (putsF (d.map nmE)), cpA (putsF (d.map nmE)) U.length, .int .i64 i, .junk, .junk, .junk, .junk, .junk, .junk, .junk, .junk, .junk, .junk, .junk, .junk, .junk, .junk, .junk, .junk, .junk, .junk, .junk, .junk, .junk, .junk, .junk, .junk, .junk, .junk, .junk, .junk, .junk, .junk, .junk, .junk, .junk, .junk, .junk, .junk, .junk, .junk, .junk, .junk, .junk, .junk, .junk, .junk, .junk, .junk, .junk, .junk, .junk, .junk, .junk, .junk, .junk, .junk, .junk, .junk, .junk, .junk, .junk, .junk, .junk, .junk, .junk, .junk, .junk, .junk, .junk, .junk, .junk, .junk, .junk, .junk, .junk, .junk, .junk, .junk, .junk, .junk, .junk, .junk, .junk, .junk, .junk, .junk, .junk, .junk, .junk, .junk, .junk, .junk, .junk, .junk, .junk, .junk, .junk, .junk, .junk, .junk, .junk, .junk, .junk, .junk, .junk, .junk, .junk, .junk, .junk, .junk, .junk, .junk, .junk, .junk, .junk, .junk], hpB (putsF (d.map nmE)) U, (hpB (putsF (d.map nmE)) U).length⟩ [.blk 0, .code r50_2] (Fin [(2, none), (3, none)] 0 RV RH)
 | [], d, i, h1, h2, h3 => by
  rw [List.append_nil] at h1
  subst h1
  have ih := H2 h3
  have hne : putsF (U.map nmE) ≠ [] := by
   intro h
   have := putsF_len (U.map nmE)
   rw [h] at this
   simp at this
   exact h0 (List.length_eq_zero_iff.1 this.symm)
  have o1 : outA (putsF (U.map nmE)) = .own 0 8 0 (putsF (U.map nmE)).length false := if_neg hne
  have p1 : hpB (putsF (U.map nmE)) U = [(0, .row ((putsF (U.map nmE)).map Ent.av) 8), (1, .row (U.map Ent.av) 8)] := if_neg hne
  have q1 : cpA (putsF (U.map nmE)) U.length = .own 1 8 0 U.length false := if_neg hne
  rw [o1, p1, q1]
  clear H1 H2 o1 p1 q1 hne hq hd h3
  generalize putsF (U.map nmE) = O at *
  generalize U.length = n at *
  refine hd_of (by unfold l50_3; rfl) ?_
  have gg:=trivial;repeat' first|simp (maxSteps:=2000000) (disch:=omega) only [gg,r50_2,h2,lp_head,go_sem]|(refine br ?_ ?_<;>intro gg<;>try omega)|(apply And.intro;focus omega)|omega
  all_goals exact ih
 | x :: l, d, i, h1, h2, h3 => by
  have hlx : U.length = d.length + (l.length + 1) := by rw [h1]; simp
  have hxd := hd x (by rw [h1]; simp)
  cases hb : nmOk x with
  | false =>
   obtain ⟨e1, e2⟩ := H1 (by rw [h1, List.all_append, List.all_cons, hb]; simp)
   subst e1 e2
   exact h50bad U U.length rfl hu hq x l d i h1 h2 hb (by rw [hxd]; rfl) _ _ rfl
  | true =>
   have ih := h50A U h0 hu hq hd RV RH H1 H2 l (d ++ [x]) (i + 1) (by simp [h1]) (by simp; omega) (by rw [List.all_append, h3]; simp [hb])
   rw [List.map_append, List.map_cons, List.map_nil, putsF_snoc] at ih
   refine h50ok U U.length rfl hu hq x l d i h1 h2 hb hxd _ ?_ ?_ _ _ ih
   ·rw [putsF_len, List.length_map]
    omega
   ·intro y hy
    obtain ⟨z, hz, rfl⟩ := List.mem_map.1 (putsF_mem.1 hy)
    refine ⟨?_, ?_⟩
    ·show z.data.cp.isTmp = false
     cases z.data <;> rfl
    ·have := nm_path z
     omega
set_option maxHeartbeats 8000000 in
theorem h50B (RV : AVal) (RH : Heap) (O : List Ent) (hl : O.length ≤ 200) (ho : Ord O)
  (H1 : ¬ (O.map Ent.path).Nodup → RV = err50 13 ∧ RH = [])
  (H2 : Srt Ent.path O → HD AA 0 [2, 3, 4, 11] l50_1 ⟨[.junk, .junk, .lit (.slice none 0 0), .int .i64 0, .own 0 8 0 O.length false, .junk, .junk, .junk, .junk, .junk, .junk, .bool true, .junk, .junk, .junk, .junk, .junk, .junk, .junk, .junk, .junk, .junk, .junk, .junk, .junk, .junk, .junk, .junk, .junk, .junk, .junk, .junk, .junk, .junk, .junk, .junk, .junk, .junk, .junk, .junk, .junk, .junk, .junk, .junk, .junk, .junk, .junk, .junk, .junk, .junk, .junk, .junk, .junk, .junk, .junk, .junk, .junk, .junk, .junk, .junk, .junk, .junk, .junk, .junk, .junk, .junk, .junk, .junk, .junk, .junk, .junk, .junk, .junk, .junk, .junk, .junk, .junk, .junk, .junk, .junk, .junk, .junk, .junk, .junk, .junk, .junk, .junk, .junk, .junk, .junk, .junk, .junk, .junk, .junk, .junk, .junk, .junk, .junk, .junk, .junk, .junk, .junk, .junk, .junk, .junk, .junk, .junk, .junk, .junk, .junk, .junk, .junk, .junk, .junk, .junk, .junk, .junk, .junk, .junk, .junk, .junk], [(0, .row (O.map Ent.av) 8)], 1⟩ [.blk 4, .code r50_0] (Fin [(2, none), (3, none)] 0 RV RH)) :
  ∀ (l d : List Ent) (a : Ent) (i : Int), O = d ++ a :: l → i = d.length + 1 → Srt Ent.path (d ++ [a]) →
  HD AA 0 [2, 3, 4, 10] l50_2 ⟨[.junk, .junk, .lit (.slice none 0 0), .int .i64 0, .own 0 8 0 O.length false, .junk, .junk, .junk, .junk, .junk, .int .i64 i, .junk, .junk, .junk, .junk, .junk, .junk, .junk, .junk, .junk, .junk, .junk, .junk, .junk, .junk, .junk, .junk, .junk, .junk, .junk, .junk, .junk, .junk, .junk, .junk, .junk, .junk, .junk, .junk, .junk, .junk, .junk, .junk, .junk, .junk, .junk, .junk, .junk, .junk, .junk, .junk, .junk, .junk, .junk, .junk, .junk, .junk, .junk, .junk, .junk, .junk, .junk, .junk, .junk, .junk, .junk, .junk, .junk, .junk, .junk, .junk, .junk, .junk, .junk, .junk, .junk, .junk, .junk, .junk, .junk, .junk, .junk, .junk, .junk, .junk, .junk, .junk, .junk, .junk, .junk, .junk, .junk, .junk, .junk, .junk, .junk, .junk, .junk, .junk, .junk, .junk, .junk, .junk, .junk, .junk, .junk, .junk, .junk, .junk, .junk, .junk, .junk, .junk, .junk, .junk, .junk, .junk, .junk, .junk, .junk, .junk], [(0, .row (O.map Ent.av) 8)], 1⟩ [.blk 2, .code r50_1] (Fin [(2, none), (3, none)] 0 RV RH)
 | [], d, a, i, h1, h2, h3 => by
  rw [← h1] at h3
  have ih := H2 h3
  have hln : O.length = d.length + 1 := by rw [h1]; simp
  clear H1 H2
  refine hd_of (by unfold l50_2; rfl) ?_
  have gg:=trivial;repeat' first|simp (maxSteps:=2000000) (disch:=omega) only [gg,r50_1,lp_head,go_sem]|(refine br ?_ ?_<;>intro gg<;>try omega)|(apply And.intro;focus omega)|omega
  all_goals exact ih
 | b :: l, d, a, i, h1, h2, h3 => by
  have hln : O.length = d.length + (l.length + 2) := by rw [h1]; simp
  have hg : O[i.toNat]? = some b := by
   have e : i.toNat = d.length + 1 := by omega
   rw [h1, e, List.getElem?_append_right (by omega)]
   simp
  have hg2 : O[(i - 1).toNat]? = some a := by
   have e : (i - 1).toNat = d.length := by omega
   rw [h1, e]
   simp
  by_cases hab : b.path = a.path
  ·have hnd : ¬ (O.map Ent.path).Nodup := by
    rw [h1]
    intro h
    rw [List.map_append, List.map_cons, List.map_cons] at h
    have h4 := (List.nodup_append.1 h).2.1
    rw [List.nodup_cons] at h4
    exact h4.1 (by rw [hab]; simp)
   obtain ⟨e1, e2⟩ := H1 hnd
   subst e1 e2
   clear H1 H2 hnd
   unfold err50
   refine hd_of (by unfold l50_2; rfl) ?_
   have gg:=trivial;repeat' first|simp (maxSteps:=2000000) (disch:=omega) only [gg,hg,hg2,hab,go_sem]|(refine br ?_ ?_<;>intro gg<;>try omega)|(apply And.intro;focus omega)|omega
  ·have hs : Srt Ent.path (d ++ [a] ++ [b]) := by
    unfold Srt at h3 ⊢
    have hlt : pLt a.path b.path = true := by
     unfold Ord at ho
     rw [h1, List.pairwise_append] at ho
     have h5 := (List.pairwise_cons.1 ho.2.1).1 b (by simp)
     cases h6 : pLt a.path b.path with
     | true => rfl
     | false => exact absurd (pLt_total h5 h6) hab
    refine List.pairwise_append.2 ⟨h3, by simp, fun y hy z hz => ?_⟩
    rw [List.mem_singleton.1 hz]
    rcases List.mem_append.1 hy with hy | hy
    ·exact pLt_trans ((List.pairwise_append.1 h3).2.2 y hy a (by simp)) hlt
    ·rw [List.mem_singleton.1 hy]
     exact hlt
   have ih := h50B RV RH O hl ho H1 H2 l (d ++ [a]) b (i + 1) (by simp [h1]) (by simp; omega) hs
   clear H1 H2 hs
   refine hd_of (by unfold l50_2; rfl) ?_
   have gg:=trivial;repeat' first|simp (maxSteps:=2000000) (disch:=omega) only [gg,hg,hg2,hab,lp_head,go_sem]|(refine br ?_ ?_<;>intro gg<;>try omega)|(apply And.intro;focus omega)|omega
   all_goals exact ih
end Go.Abs
namespace Go.Abs
open Am Go.Proofs
set_option maxRecDepth 20000
theorem kindF_out {p : List UInt8} : ∀ {O : List Ent}, p ∉ O.map Ent.path → kindF p O = 0
 | [], _ => rfl
 | e :: r, h => by
  rw [List.map_cons, List.mem_cons] at h
  unfold kindF
  rw [if_neg (fun h2 => h (.inl h2.symm)), kindF_out fun h2 => h (.inr h2)]
theorem named_iff {p : List UInt8} {O : List Ent} : namedB O p = true ↔ p ∈ O.map Ent.path := by
 unfold namedB
 rw [List.any_eq_true, List.mem_map]
 constructor
 ·rintro ⟨x, hx, h⟩
  exact ⟨x, hx, by simpa using h⟩
 ·rintro ⟨x, hx, h⟩
  exact ⟨x, hx, by simpa using h⟩
set_option maxHeartbeats 8000000 in
theorem h50I (F : FinP) (O : List Ent) (hl : O.length ≤ 1000000) (hp : ∀ x ∈ O, x.data.isTmp = false ∧ x.path.length ≤ 1000000)
  (K1 : (∀ x ∈ O, missB O x = false) → HD AA 0 [2, 3, 4, 11] l50_1 ⟨[.junk, .junk, .lit (.slice none 0 0), .int .i64 0, .own 0 8 0 O.length false, .junk, .junk, .junk, .junk, .junk, .junk, .bool false, .junk, .junk, .junk, .junk, .junk, .junk, .junk, .junk, .junk, .junk, .junk, .junk, .junk, .junk, .junk, .junk, .junk, .junk, .junk, .junk, .junk, .junk, .junk, .junk, .junk, .junk, .junk, .junk, .junk, .junk, .junk, .junk, .junk, .junk, .junk, .junk, .junk, .junk, .junk, .junk, .junk, .junk, .junk, .junk, .junk, .junk, .junk, .junk, .junk, .junk, .junk, .junk, .junk, .junk, .junk, .junk, .junk, .junk, .junk, .junk, .junk, .junk, .junk, .junk, .junk, .junk, .junk, .junk, .junk, .junk, .junk, .junk, .junk, .junk, .junk, .junk, .junk, .junk, .junk, .junk, .junk, .junk, .junk, .junk, .junk, .junk, .junk, .junk, .junk, .junk, .junk, .junk, .junk, .junk, .junk, .junk, .junk, .junk, .junk, .junk, .junk, .junk, .junk, .junk, .junk, .junk, .junk, .junk, .junk], [(0, .row (O.map Ent.av) 8)], 1⟩ [.blk 4, .code r50_0] F)
  (K2 : ∀ e ∈ O, missB O e = true → HD AA 0 [2, 3, 4, 11] l50_1 ⟨[.junk, .junk, .lit (.slice none 0 0), .int .i64 0, .own 0 8 0 (insK Ent.path (dirE (parentP e.path).1) O).length false, .junk, .junk, .junk, .junk, .junk, .junk, .bool true, .junk, .junk, .junk, .junk, .junk, .junk, .junk, .junk, .junk, .junk, .junk, .junk, .junk, .junk, .junk, .junk, .junk, .junk, .junk, .junk, .junk, .junk, .junk, .junk, .junk, .junk, .junk, .junk, .junk, .junk, .junk, .junk, .junk, .junk, .junk, .junk, .junk, .junk, .junk, .junk, .junk, .junk, .junk, .junk, .junk, .junk, .junk, .junk, .junk, .junk, .junk, .junk, .junk, .junk, .junk, .junk, .junk, .junk, .junk, .junk, .junk, .junk, .junk, .junk, .junk, .junk, .junk, .junk, .junk, .junk, .junk, .junk, .junk, .junk, .junk, .junk, .junk, .junk, .junk, .junk, .junk, .junk, .junk, .junk, .junk, .junk, .junk, .junk, .junk, .junk, .junk, .junk, .junk, .junk, .junk, .junk, .junk, .junk, .junk, .junk, .junk, .junk, .junk, .junk, .junk, .junk, .junk, .junk, .junk], [(0, .row ((insK Ent.path (dirE (parentP e.path).1) O).map Ent.av) 8)], 1⟩ [.blk 4, .code r50_0] F) :
  ∀ (l d : List Ent) (i : Int), O = d ++ l → i = d.length → (∀ x ∈ d, missB O x = false) →
  HD AA 0 [2, 3, 4, 11, 12] l50_0 ⟨[.junk, .junk, .lit (.slice none 0 0), .int .i64 0, .own 0 8 0 O.length false, .junk, .junk, .junk, .junk, .junk, .junk, .bool false, .int .i64 i, .junk, .junk, .junk, .junk, .junk, .junk, .junk, .junk, .junk, .junk, .junk, .junk, .junk, .junk, .junk, .junk, .junk, .junk, .junk, .junk, .junk, .junk, .junk, .junk, .junk, .junk, .junk, .junk, .junk, .junk, .junk, .junk, .junk, .junk, .junk, .junk, .junk, .junk, .junk, .junk, .junk, .junk, .junk, .junk, .junk, .junk, .junk, .junk, .junk, .junk, .junk, .junk, .junk, .junk, .junk, .junk, .junk, .junk, .junk, .junk, .junk, .junk, .junk, .junk, .junk, .junk, .junk, .junk, .junk, .junk, .junk, .junk, .junk, .junk, .junk, .junk, .junk, .junk, .junk, .junk, .junk, .junk, .junk, .junk, .junk, .junk, .junk, .junk, .junk, .junk, .junk, .junk, .junk, .junk, .junk, .junk, .junk, .junk, .junk, .junk, .junk, .junk, .junk, .junk, .junk, .junk, .junk, .junk], [(0, .row (O.map Ent.av) 8)], 1⟩ [.blk 6, .blk 5, .loop [2, 3, 4, 11] l50_1, .blk 4, .code r50_0] F
 | [], d, i, h1, h2, h3 => by
  rw [List.append_nil] at h1
  subst h1
  have ih := K1 h3
  clear K1 K2 h3
  refine hd_of (by unfold l50_0; rfl) ?_
  have gg:=trivial;repeat' first|simp (maxSteps:=2000000) (disch:=omega) only [gg,lp_head,go_sem]|(refine br ?_ ?_<;>intro gg<;>try omega)|(apply And.intro;focus omega)|omega
  all_goals exact ih
 | e :: l, d, i, h1, h2, h3 => by
  have hlx : O.length = d.length + (l.length + 1) := by rw [h1]; simp
  have he : e ∈ O := by rw [h1]; simp
  have hg : O[i.toNat]? = some e := by rw [h1, h2]; simp
  have c76 := s76 e.path (hp e he).2
  have c79 := fun cl tm => s79 cl tm O hl (parentP e.path).1 O.length (by omega) (by omega)
  have c90 := fun cl tm => s90 cl tm O hl (parentP e.path).1
  have tk : (O.map Ent.av).take O.length = O.map Ent.av := List.take_of_length_le (by simp)
  have tk2 : O.take (O.length : Int).toNat = O := List.take_of_length_le (by omega)
  rw [tk2] at c79
  cases hb : missB O e with
  | false =>
   have ih := h50I F O hl hp K1 K2 l (d ++ [e]) (i + 1) (by simp [h1]) (by simp; omega) (fun x hx => by
    rcases List.mem_append.1 hx with hx | hx
    ·exact h3 x hx
    ·rw [List.mem_singleton.1 hx]
     exact hb)
   clear K1 K2
   refine hd_of (by unfold l50_0; rfl) ?_
   by_cases hp2 : (parentP e.path).2 = true
   ·have hin : (parentP e.path).1 ∈ O.map Ent.path := by
     unfold missB at hb
     rw [hp2] at hb
     simpa using hb
    rw [named_iff.2 hin] at c90
    rw [hp2] at c76
    clear hin hb
    generalize (parentP e.path).1 = P at *
    by_cases hk : kindF P O = 0
    ·rw [hk] at c79
     have gg:=trivial;repeat' first|simp (maxSteps:=2000000) (disch:=omega) only [gg,hg,tk,c76,c79,c90,lp_head,go_sem]|(refine br ?_ ?_<;>intro gg<;>try omega)|(apply And.intro;focus omega)|omega
     all_goals exact ih
    ·generalize kindF P O = K at *
     have gg:=trivial;repeat' first|simp (maxSteps:=2000000) (disch:=omega) only [gg,hg,tk,c76,c79,hk,lp_head,go_sem]|(refine br ?_ ?_<;>intro gg<;>try omega)|(apply And.intro;focus omega)|omega
     all_goals exact ih
   ·have hp3 : (parentP e.path).2 = false := by simpa using hp2
    rw [hp3] at c76
    generalize (parentP e.path).1 = P at *
    have gg:=trivial;repeat' first|simp (maxSteps:=2000000) (disch:=omega) only [gg,hg,tk,c76,lp_head,go_sem]|(refine br ?_ ?_<;>intro gg<;>try omega)|(apply And.intro;focus omega)|omega
    all_goals exact ih
  | true =>
   have ih := K2 e he hb
   obtain ⟨hp2, hin⟩ := missB_iff.1 hb
   have c89 := fun cl tm => s89 cl tm O hl hp (dirE (parentP e.path).1) ⟨rfl, Nat.le_trans (parent_cnt hp2).2 (hp e he).2⟩
   have av : (dirE (parentP e.path).1).av = .agg [.str (parentP e.path).1, .int .i64 1, .int .i64 493, .int .i64 0, .int .i64 0, .int .i64 0, .str [], .lit (.slice none 0 0)] := rfl
   rw [av] at c89
   have hn : namedB O (parentP e.path).1 = false := by
    cases h : namedB O (parentP e.path).1 with
    | false => rfl
    | true => exact absurd (named_iff.1 h) hin
   rw [hn] at c90
   rw [kindF_out hin] at c79
   rw [hp2] at c76
   generalize insK Ent.path (dirE (parentP e.path).1) O = I at *
   clear K1 K2 hin hb av hn
   generalize (parentP e.path).1 = P at *
   refine hd_of (by unfold l50_0; rfl) ?_
   have gg:=trivial;repeat' first|simp (maxSteps:=2000000) (disch:=omega) only [gg,hg,tk,c76,c79,c90,c89,lp_head,go_sem]|(refine br ?_ ?_<;>intro gg<;>try omega)|(apply And.intro;focus omega)|omega
   all_goals exact ih
def ancsF : Nat → List UInt8 → List (List UInt8)
 | 0, _ => []
 | k + 1, s => if (parentP s).2 = true then (parentP s).1 :: ancsF k (parentP s).1 else []
theorem ancs_len : ∀ (k : Nat) (s : List UInt8), (ancsF k s).length ≤ k
 | 0, _ => Nat.le_refl 0
 | k + 1, s => by
  unfold ancsF
  have := ancs_len k (parentP s).1
  split
  ·simp; omega
  ·simp
theorem ancs_par : ∀ (k : Nat) (s p : List UInt8), cnt s ≤ k → p ∈ ancsF k s → (parentP p).2 = true → (parentP p).1 ∈ ancsF k s
 | 0, _, _, _, h, _ => by cases h
 | k + 1, s, p, hk, h, hp => by
  unfold ancsF at h ⊢
  by_cases hs : (parentP s).2 = true
  ·rw [if_pos hs] at h ⊢
   have h1 := (parent_cnt hs).1
   rcases List.mem_cons.1 h with rfl | h
   ·have h2 := (parent_cnt hp).1
    have h3 := cnt_pos (parentP (parentP s).1).1
    obtain ⟨j, rfl⟩ : ∃ j, k = j + 1 := ⟨k - 1, by omega⟩
    refine List.mem_cons_of_mem _ ?_
    unfold ancsF
    rw [if_pos hp]
    simp
   ·exact List.mem_cons_of_mem _ (ancs_par k _ p (by omega) h hp)
  ·rw [if_neg hs] at h
   cases h
theorem anc_in {k : Nat} {s p : List UInt8} (hk : cnt s ≤ k) (h : Anc s p) : p ∈ ancsF k s := by
 induction h with
 | par h =>
  have h1 := cnt_pos s
  obtain ⟨j, rfl⟩ : ∃ j, k = j + 1 := ⟨k - 1, by omega⟩
  unfold ancsF
  rw [if_pos h]
  simp
 | up _ hp ih => exact ancs_par k s _ hk ih hp
def allA (N : List Ent) : List (List UInt8) := N.flatMap fun y => ancsF 401 y.path
theorem allA_len : ∀ (N : List Ent), (allA N).length ≤ N.length * 401
 | [] => by simp [allA]
 | x :: N => by
  have ih := allA_len N
  have h1 := ancs_len 401 x.path
  have e : allA (x :: N) = ancsF 401 x.path ++ allA N := rfl
  rw [e, List.length_append, List.length_cons, Nat.succ_mul]
  omega
def free (A : List (List UInt8)) (O : List Ent) : Nat := A.countP fun p => !decide (p ∈ O.map Ent.path)
theorem free_le : ∀ (A : List (List UInt8)) {O O' : List Ent}, (∀ p ∈ O.map Ent.path, p ∈ O'.map Ent.path) → free A O' ≤ free A O
 | [], _, _, _ => Nat.le_refl 0
 | a :: A, O, O', h => by
  have ih := free_le A h
  unfold free at ih ⊢
  rw [List.countP_cons, List.countP_cons]
  by_cases h1 : a ∈ O.map Ent.path
  ·have h2 := h a h1
   simp only [h1, h2, decide_true, Bool.not_true, Bool.false_eq_true, if_false]
   omega
  ·simp only [h1, decide_false, Bool.not_false, if_true]
   split <;> omega
theorem free_lt : ∀ {A : List (List UInt8)} {O O' : List Ent} {p : List UInt8}, (∀ p ∈ O.map Ent.path, p ∈ O'.map Ent.path) → p ∈ A → p ∉ O.map Ent.path → p ∈ O'.map Ent.path → free A O' + 1 ≤ free A O
 | [], _, _, _, _, h, _, _ => by cases h
 | a :: A, O, O', p, h, hA, h1, h2 => by
  have key : free (a :: A) O' = free A O' + (if (!decide (a ∈ O'.map Ent.path)) = true then 1 else 0) := List.countP_cons ..
  have key2 : free (a :: A) O = free A O + (if (!decide (a ∈ O.map Ent.path)) = true then 1 else 0) := List.countP_cons ..
  rw [key, key2]
  rcases List.mem_cons.1 hA with rfl | hA
  ·have := free_le A h
   simp only [h1, h2, decide_true, decide_false, Bool.not_true, Bool.not_false, Bool.false_eq_true, if_false, if_true]
   omega
  ·have := free_lt h hA h1 h2
   by_cases h3 : a ∈ O.map Ent.path
   ·have h4 := h a h3
    simp only [h3, h4, decide_true, Bool.not_true, Bool.false_eq_true, if_false]
    omega
   ·simp only [h3, decide_false, Bool.not_false, if_true]
    split <;> omega
end Go.Abs
