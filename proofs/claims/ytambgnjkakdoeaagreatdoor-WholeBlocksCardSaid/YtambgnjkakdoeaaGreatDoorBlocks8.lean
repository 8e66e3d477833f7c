import Derived.Test.YtambgnjkakdoeaaGreatDoorBlocks7
import Derived.Lib.TrimAscii
import Derived.Lib.TrimUEq
/- PART OF A PROOF (texts joined by a program): F4 F5 F6 F7 F8 F9 F10 F11 F12 F13. -/
set_option linter.unusedVariables false
set_option linter.unusedSimpArgs false
set_option linter.unusedSectionVars false
namespace Go.Abs
open Am
set_option maxRecDepth 10000
set_option linter.unusedSimpArgs false
def metaB (n least : Int) : Bool := decide (least ≤ n) && decide (n ≤ 1099511627776)
theorem s150 (n least : Int) : callT AA 150 [.int .i64 n, .int .i64 least] [] = some (.bool (metaB n least), []) := by
  refine enter fn150 np150 rfl ?_
  have gg := trivial; repeat' first | simp (maxSteps := 2000000) (disch := omega) only [gg, b150, go_sem] | (refine br ?_ ?_ <;> intro gg <;> try (exfalso; omega)) | (refine And.intro ?_ ?_; focus omega) | omega
  (all_goals (first | (simp_all [metaB]; done) | (simp_all [metaB]; omega) | (simp_all [metaB]; intros; omega) | (simp_all [metaB]; rw [Bool.eq_iff_iff]; simp; done) | (simp_all [metaB]; rw [Bool.eq_iff_iff]; simp; omega)))
def fieldsB (e : Ent) : Bool :=
  if e.mode < 0 ∨ 4095 < e.mode then false else
  if metaB e.uid 0 = false ∨ metaB e.gid 0 = false ∨ metaB e.time (-1099511627776) = false then false else
  if e.kind = 1 then decide (e.link = []) && decide (e.data.l.length = 0) else
  if e.kind = 2 then decide (e.link = []) && decide (e.data.l.length ≤ 65536) else
  if e.kind = 3 then textB e.link 400 && decide (e.data.l.length = 0) else
  if e.kind = 4 then goodB e.link && decide (e.data.l.length = 0) && decide (e.mode = 0) && decide (e.uid = 0) && decide (e.gid = 0) && decide (e.time = 0) else false
set_option maxHeartbeats 1000000 in
theorem s113 (e : Ent) (hl : e.link.length ≤ 1000000) : callT AA 113 [e.av] [] = some (.bool (fieldsB e), []) := by
  have h1 := s151 e.link 400 hl
  have h2 := s112 e.link hl
  have hd : (e.data.l.length : Int) = 0 ↔ e.data.l = [] := by
    constructor
    · intro h; exact List.eq_nil_of_length_eq_zero (by omega)
    · intro h; simp [h]
  refine enter fn113 np113 rfl ?_
  have gg := trivial; repeat' first | simp (maxSteps := 2000000) (disch := omega) only [gg, b113, s150, h1, h2, go_sem] | (refine br ?_ ?_ <;> intro gg <;> try (exfalso; omega)) | (refine And.intro ?_ ?_; focus omega) | omega
  all_goals (clear h1 h2 hl)
  (all_goals (first | (simp_all [fieldsB]; done) | (simp_all [fieldsB]; omega) | (simp_all [fieldsB]; intros; omega) | (simp_all [fieldsB]; rw [Bool.eq_iff_iff]; simp; done) | (simp_all [fieldsB]; rw [Bool.eq_iff_iff]; simp; omega)))
structure Ck where
  ks : Kinds
  last : List UInt8
  size : Int
def Ck.heap (c : Ck) : Heap := [(0, .var [.mapr 1, .str c.last, .int .i64 c.size]), (1, .map (c.ks.map kv))]
attribute [go_sem] Ck.heap
/-- an entry behind others: the error's number, what is known behind it -/
def entryE (c : Ck) (e : Ent) : Int × Ck :=
  if goodB e.path = false then (12, c) else
  if fieldsB e = false then (13, c) else
  if 0 < c.ks.length ∧ 0 ≤ cmpPath c.last e.path then (13, c) else
  if (parentP e.path).2 = true ∧ lk (parentP e.path).1 c.ks ≠ 1 then (13, c) else
  if e.kind = 4 ∧ lk e.link c.ks ≠ 2 then (13, c) else
  if 1048576 < c.size + e.data.l.length then (18, { c with size := c.size + e.data.l.length }) else
  (0, { ks := putK e.path e.kind c.ks, last := e.path, size := c.size + e.data.l.length })
set_option maxHeartbeats 2000000 in
theorem s67 (c : Ck) (e : Ent) (hl : e.link.length ≤ 1000000) (hp : e.path.length ≤ 1000000) (hc : c.last.length ≤ 1000000) (hs : 0 ≤ c.size ∧ c.size ≤ 1048576) (hd : e.data.l.length ≤ 281474976710656) :
    callT AA 67 [.ptr 0 0, e.av] c.heap = some (errV (entryE c e).1, (entryE c e).2.heap) := by
  have h1 := s112 e.path hp
  have h2 := s113 e hl
  have h3 := s87 c.last e.path hc hp
  have h4 := s84 e.path hp
  simp only [Ent.av] at h2
  have e12 : errV 12 = .iface 58 (.int .i64 12) := rfl
  have e13 : errV 13 = .iface 58 (.int .i64 13) := rfl
  have e18 : errV 18 = .iface 58 (.int .i64 18) := rfl
  have e0 : errV 0 = .lit .nilIface := rfl
  refine enter fn67 np67 rfl ?_
  cases g1 : goodB e.path with
  | false =>
    have he : entryE c e = (12, c) := by simp [entryE, g1]
    rw [g1] at h1
    rw [he, e12]
    have gg := trivial; repeat' first | simp (maxSteps := 2000000) (disch := omega) only [gg, b67, h1, go_sem] | (refine br ?_ ?_ <;> intro gg <;> try (exfalso; omega)) | (refine And.intro ?_ ?_; focus omega) | omega
  | true =>
    rw [g1] at h1
    cases g2 : fieldsB e with
    | false =>
      have he : entryE c e = (13, c) := by simp [entryE, g1, g2]
      rw [g2] at h2
      rw [he, e13]
      have gg := trivial; repeat' first | simp (maxSteps := 2000000) (disch := omega) only [gg, b67, h1, h2, go_sem] | (refine br ?_ ?_ <;> intro gg <;> try (exfalso; omega)) | (refine And.intro ?_ ?_; focus omega) | omega
    | true =>
      rw [g2] at h2
      by_cases g3 : 0 < c.ks.length ∧ 0 ≤ cmpPath c.last e.path
      · have he : entryE c e = (13, c) := by simp [entryE, g1, g2, g3]
        obtain ⟨g3a, g3b⟩ := g3
        rw [he, e13]
        have gg := trivial; repeat' first | simp (maxSteps := 2000000) (disch := omega) only [gg, b67, h1, h2, h3, go_sem] | (refine br ?_ ?_ <;> intro gg <;> try (exfalso; omega)) | (refine And.intro ?_ ?_; focus omega) | omega
      · by_cases g4 : (parentP e.path).2 = true ∧ lk (parentP e.path).1 c.ks ≠ 1
        · have he : entryE c e = (13, c) := by
            unfold entryE
            rw [if_neg (by simp [g1]), if_neg (by simp [g2]), if_neg g3, if_pos g4]
          obtain ⟨g4a, g4b⟩ := g4
          rw [g4a] at h4
          rw [he, e13]
          have gg := trivial; repeat' first | simp (maxSteps := 2000000) (disch := omega) only [gg, b67, h1, h2, h3, h4, go_sem] | (refine br ?_ ?_ <;> intro gg <;> try (exfalso; omega)) | (refine And.intro ?_ ?_; focus omega) | omega
        · by_cases g5 : e.kind = 4 ∧ lk e.link c.ks ≠ 2
          · have he : entryE c e = (13, c) := by
              unfold entryE
              rw [if_neg (by simp [g1]), if_neg (by simp [g2]), if_neg g3, if_neg g4, if_pos g5]
            obtain ⟨g5a, g5b⟩ := g5
            rw [he, e13]
            have gg := trivial; repeat' first | simp (maxSteps := 2000000) (disch := omega) only [gg, b67, h1, h2, h3, h4, go_sem] | (refine br ?_ ?_ <;> intro gg <;> try (exfalso; omega)) | (refine And.intro ?_ ?_; focus omega) | omega
            (all_goals (first | (simp_all []; done) | (simp_all []; omega) | (simp_all []; intros; omega) | (simp_all []; rw [Bool.eq_iff_iff]; simp; done) | (simp_all []; rw [Bool.eq_iff_iff]; simp; omega)))
          · by_cases g6 : 1048576 < c.size + e.data.l.length
            · have he : entryE c e = (18, { c with size := c.size + e.data.l.length }) := by
                unfold entryE
                rw [if_neg (by simp [g1]), if_neg (by simp [g2]), if_neg g3, if_neg g4, if_neg g5, if_pos g6]
              rw [he, e18]
              have gg := trivial; repeat' first | simp (maxSteps := 2000000) (disch := omega) only [gg, b67, h1, h2, h3, h4, go_sem] | (refine br ?_ ?_ <;> intro gg <;> try (exfalso; omega)) | (refine And.intro ?_ ?_; focus omega) | omega
              (all_goals (first | (simp_all []; done) | (simp_all []; omega) | (simp_all []; intros; omega) | (simp_all []; rw [Bool.eq_iff_iff]; simp; done) | (simp_all []; rw [Bool.eq_iff_iff]; simp; omega)))
            · have he : entryE c e = (0, { ks := putK e.path e.kind c.ks, last := e.path, size := c.size + e.data.l.length }) := by
                unfold entryE
                rw [if_neg (by simp [g1]), if_neg (by simp [g2]), if_neg g3, if_neg g4, if_neg g5, if_neg g6]
              rw [he, e0]
              have gg := trivial; repeat' first | simp (maxSteps := 2000000) (disch := omega) only [gg, b67, h1, h2, h3, h4, go_sem] | (refine br ?_ ?_ <;> intro gg <;> try (exfalso; omega)) | (refine And.intro ?_ ?_; focus omega) | omega
              (all_goals (first | (simp_all []; done) | (simp_all []; omega) | (simp_all []; intros; omega) | (simp_all []; rw [Bool.eq_iff_iff]; simp; done) | (simp_all []; rw [Bool.eq_iff_iff]; simp; omega)))
end Go.Abs
namespace Go.Abs
open Am
set_option maxRecDepth 10000
set_option linter.unusedSimpArgs false
def checkL (c : Ck) (i : Int) : List Ent → Int × Int
  | [] => (-1, 0)
  | e :: r => if (entryE c e).1 = 0 then checkL (entryE c e).2 (i + 1) r else (i, (entryE c e).1)
def checkT (t : List Ent) : Int × Int := if 200 < t.length then (t.length, 19) else checkL ⟨[], [], 0⟩ 0 t
/-- what texts and rows there may be -/
def EntOk (e : Ent) : Prop := e.link.length ≤ 1000000 ∧ e.path.length ≤ 1000000 ∧ e.data.l.length ≤ 281474976710656 ∧ e.data.isTmp = false
theorem entryE_err (c : Ck) (e : Ent) : (entryE c e).1 = 0 ∨ 0 < (entryE c e).1 := by
  unfold entryE
  repeat' split
  all_goals simp
theorem entryE_ok {c : Ck} {e : Ent} (h : (entryE c e).1 = 0) : (entryE c e).2.last = e.path ∧ (entryE c e).2.size ≤ 1048576 ∧ (entryE c e).2.size = c.size + e.data.l.length := by
  unfold entryE at h ⊢
  by_cases g1 : goodB e.path = false
  · rw [if_pos g1] at h; simp at h
  rw [if_neg g1] at h ⊢
  by_cases g2 : fieldsB e = false
  · rw [if_pos g2] at h; simp at h
  rw [if_neg g2] at h ⊢
  by_cases g3 : 0 < c.ks.length ∧ 0 ≤ cmpPath c.last e.path
  · rw [if_pos g3] at h; simp at h
  rw [if_neg g3] at h ⊢
  by_cases g4 : (parentP e.path).2 = true ∧ lk (parentP e.path).1 c.ks ≠ 1
  · rw [if_pos g4] at h; simp at h
  rw [if_neg g4] at h ⊢
  by_cases g5 : e.kind = 4 ∧ lk e.link c.ks ≠ 2
  · rw [if_pos g5] at h; simp at h
  rw [if_neg g5] at h ⊢
  by_cases g6 : 1048576 < c.size + e.data.l.length
  · rw [if_pos g6] at h; simp at h
  rw [if_neg g6]
  exact ⟨rfl, by show c.size + e.data.l.length ≤ 1048576; omega, rfl⟩
theorem h31 (cl tmp : Bool) (t : List Ent) (ht : t.length ≤ 200) (hq : ∀ e ∈ t, EntOk e) (r0 : Int × Int) : ∀ (rest done : List Ent) (c : Ck) (n i : Int), t = done ++ rest → i = done.length → n = t.length → c.last.length ≤ 1000000 → (0 ≤ c.size ∧ c.size ≤ 1048576) → r0 = checkL c i rest →
    HD AA 0 [2, 3, 4, 17, 18, 19] l31_0 ⟨[.junk, .junk, .int .i64 0, .lit .nilIface, .ptr 0 0, .junk, .junk, .junk, .junk, .junk, .junk, .junk, .junk, .junk, .junk, .junk, .junk, .view 8 (t.map Ent.av) cl tmp, .int .i64 n, .int .i64 i, .junk, .junk, .junk, .junk, .junk, .junk, .junk, .junk, .junk, .junk, .junk, .junk], c.heap, 2⟩ [.blk 0, .code r31_0] (Fin [(2, none), (3, none)] 0 (.tuple [.int .i64 r0.1, errV r0.2]) [])
  | [], done, c, n, i, h1, h2, h3, h4, h5, h6 => by
    subst h1
    refine hd_of (by unfold l31_0; rfl) ?_
    simp at h3
    have e0 : errV 0 = .lit .nilIface := rfl
    have gg := trivial; repeat' first | simp (maxSteps := 2000000) (disch := omega) only [gg, r31_0, go_sem] | (refine br ?_ ?_ <;> intro gg <;> try (exfalso; omega)) | (refine And.intro ?_ ?_; focus omega) | omega
    simp [h6, checkL, errV]
  | e :: r, done, c, n, i, h1, h2, h3, h4, h5, h6 => by
    obtain ⟨q1, q2, q3, q4⟩ := hq e (by simp [h1])
    have hp := s67 c e q1 q2 h4 h5 q3
    simp only [Ent.av] at hp
    have hg : t[i.toNat]? = some e := by
      rw [h1]
      simp [h2]
    have hl : i.toNat < t.length := by rw [h1]; simp; omega
    refine hd_of (by unfold l31_0; rfl) ?_
    unfold checkL at h6
    rcases entryE_err c e with he | he
    · rw [if_pos he] at h6
      obtain ⟨k1, k2, k3⟩ := entryE_ok he
      have ih := h31 cl tmp t ht hq r0 r (done ++ [e]) (entryE c e).2 n (i + 1) (by simp [h1]) (by first | omega | (simp; omega) | (simp; done)) h3 (by rw [k1]; exact q2) ⟨by omega, k2⟩ h6
      have e0 : errV (entryE c e).1 = .lit .nilIface := by rw [he]; rfl
      rw [e0] at hp
      simp only [Ck.heap] at hp ih
      have gg := trivial; repeat' first | simp (maxSteps := 2000000) (disch := omega) only [gg, hp, hg, lp_head, ih, go_sem] | (refine br ?_ ?_ <;> intro gg <;> try (exfalso; omega)) | (refine And.intro ?_ ?_; focus omega) | omega
    · rw [if_neg (by omega)] at h6
      have e0 : errV (entryE c e).1 = .iface 58 (.int .i64 (entryE c e).1) := by unfold errV; rw [if_neg (by omega)]
      rw [e0] at hp
      simp only [Ck.heap] at hp
      have gg := trivial; repeat' first | simp (maxSteps := 2000000) (disch := omega) only [gg, hp, hg, lp_head, go_sem] | (refine br ?_ ?_ <;> intro gg <;> try (exfalso; omega)) | (refine And.intro ?_ ?_; focus omega) | omega
      simp [h6, e0]
theorem s31 (cl tmp : Bool) (t : List Ent) (hq : ∀ e ∈ t, EntOk e) (hl : t.length ≤ 1000000000) : callT AA 31 [.view 8 (t.map Ent.av) cl tmp] [] = some (.tuple [.int .i64 (checkT t).1, errV (checkT t).2], []) := by
  refine enter fn31 np31 rfl ?_
  unfold checkT
  by_cases ht : 200 < t.length
  · rw [if_pos ht]
    have e0 : errV 19 = .iface 58 (.int .i64 19) := rfl
    have gg := trivial; repeat' first | simp (maxSteps := 2000000) (disch := omega) only [gg, b31, e0, go_sem] | (refine br ?_ ?_ <;> intro gg <;> try (exfalso; omega)) | (refine And.intro ?_ ?_; focus omega) | omega
  · rw [if_neg ht]
    have gg := trivial; repeat' first | simp (maxSteps := 2000000) (disch := omega) only [gg, b31, lp_head, go_sem] | (refine br ?_ ?_ <;> intro gg <;> try (exfalso; omega)) | (refine And.intro ?_ ?_; focus omega) | omega
    exact h31 cl tmp t (by omega) hq _ t [] ⟨[], [], 0⟩ _ _ rfl rfl rfl (by simp) (by simp) rfl
theorem s31n : callT AA 31 [.lit (.slice none 0 0)] [] = some (.tuple [.int .i64 (-1), .lit .nilIface], []) := by
  refine enter fn31 np31 rfl ?_
  have gg := trivial; repeat' first | simp (maxSteps := 2000000) (disch := omega) only [gg, b31, lp_head, go_sem] | (refine br ?_ ?_ <;> intro gg <;> try (exfalso; omega)) | (refine And.intro ?_ ?_; focus omega) | omega
  refine hd_of (by unfold l31_0; rfl) ?_
  have gg := trivial; repeat' first | simp (maxSteps := 2000000) (disch := omega) only [gg, r31_0, go_sem] | (refine br ?_ ?_ <;> intro gg <;> try (exfalso; omega)) | (refine And.intro ?_ ?_; focus omega) | omega
theorem s101 (c t : Bool) (l : List UInt8) (hl : l.length ≤ 281474976710656 / 4) : callT AA 101 [(BS.mk c t l).av] [] = some (.own 0 1 0 l.length false, [(0, .row (l.map .byte) 1)]) := by
  refine enter fn101 np101 rfl ?_
  have gg := trivial; repeat' first | simp (maxSteps := 2000000) (disch := omega) only [gg, b101, BS.isNil, go_sem] | (refine br ?_ ?_ <;> intro gg <;> try (exfalso; omega)) | (refine And.intro ?_ ?_; focus omega) | omega
theorem s101n : callT AA 101 [.lit (.slice none 0 0)] [] = some (.lit (.slice none 0 0), []) := by
  refine enter fn101 np101 rfl ?_
  have gg := trivial; repeat' first | simp (maxSteps := 2000000) (disch := omega) only [gg, b101, BS.isNil, go_sem] | (refine br ?_ ?_ <;> intro gg <;> try (exfalso; omega)) | (refine And.intro ?_ ?_; focus omega) | omega
theorem s108 (e : Ent) (c t : Bool) (l : List UInt8) (he : e.data = .mk c t l) (hl : l.length ≤ 281474976710656 / 4) : callT AA 108 [e.av] [] = some (.agg [.str e.path, .int .i64 e.kind, .int .i64 e.mode, .int .i64 e.uid, .int .i64 e.gid, .int .i64 e.time, .str e.link, .own 0 1 0 l.length false], [(0, .row (l.map .byte) 1)]) := by
  have h := s101 c t l hl
  refine enter fn108 np108 rfl ?_
  have gg := trivial; repeat' first | simp (maxSteps := 2000000) (disch := omega) only [gg, b108, h, he, go_sem] | (refine br ?_ ?_ <;> intro gg <;> try (exfalso; omega)) | (refine And.intro ?_ ?_; focus omega) | omega
theorem s108n (e : Ent) (he : e.data = .nil) : callT AA 108 [e.av] [] = some (e.av, []) := by
  refine enter fn108 np108 rfl ?_
  have gg := trivial; repeat' first | simp (maxSteps := 2000000) (disch := omega) only [gg, b108, s101n, he, go_sem] | (refine br ?_ ?_ <;> intro gg <;> try (exfalso; omega)) | (refine And.intro ?_ ?_; focus omega) | omega
theorem h65 (c tmp : Bool) (t : List Ent) (ht : t.length ≤ 1000000) (hq : ∀ e ∈ t, e.data.l.length ≤ 281474976710656 / 4) : ∀ (rest done : List Ent) (n i : Int) (q : Nat), t = done ++ rest → i = done.length → n = t.length → q = done.length →
    HD AA 0 [2, 3, 6, 7, 8] l65_0 ⟨[.junk, .junk, .lit (.slice none 0 0), .own 0 8 0 q false, .junk, .junk, .view 8 (t.map Ent.av) c tmp, .int .i64 n, .int .i64 i, .junk, .junk, .junk, .junk, .junk, .junk, .junk, .junk, .junk, .junk], [(0, .row (done.map Ent.cav) 8)], 1⟩ [.blk 0, .code r65_0] (Fin [(2, none)] 0 (.own 0 8 0 t.length false) [(0, .row (t.map Ent.cav) 8)])
  | [], done, n, i, q, h1, h2, h3, h4 => by
    subst h1
    refine hd_of (by unfold l65_0; rfl) ?_
    simp at h3
    have gg := trivial; repeat' first | simp (maxSteps := 2000000) (disch := omega) only [gg, r65_0, go_sem] | (refine br ?_ ?_ <;> intro gg <;> try (exfalso; omega)) | (refine And.intro ?_ ?_; focus omega) | omega
    simp [h4]
  | e :: r, done, n, i, q, h1, h2, h3, h4 => by
    have hg : t[i.toNat]? = some e := by
      rw [h1]
      simp [h2]
    have hl : i.toNat < t.length := by rw [h1]; simp; omega
    have he := hq e (by simp [h1])
    have ih := h65 c tmp t ht hq r (done ++ [e]) n (i + 1) (q + 1) (by simp [h1]) (by first | omega | (simp; omega) | (simp; done)) h3 (by first | omega | (simp; omega) | (simp; done))
    refine hd_of (by unfold l65_0; rfl) ?_
    subst h4
    cases hd : e.data with
    | nil =>
      have hp := s108n e hd
      simp only [Ent.av, hd, av_nil] at hp
      simp only [List.map_append, List.map_cons, List.map_nil, Ent.cav, hd, cp_nil, av_nil] at ih
      have gg := trivial; repeat' first | simp (maxSteps := 2000000) (disch := omega) only [gg, hp, hg, hd, lp_head, go_sem] | (refine br ?_ ?_ <;> intro gg <;> try (exfalso; omega)) | (refine And.intro ?_ ?_; focus omega) | omega
    | mk cc tt l =>
      rw [hd] at he
      have hp := s108 e cc tt l hd he
      simp only [Ent.av, hd] at hp
      simp only [List.map_append, List.map_cons, List.map_nil, Ent.cav, hd, cp_mk, mk_av] at ih
      have gg := trivial; repeat' first | simp (maxSteps := 2000000) (disch := omega) only [gg, hp, hg, hd, lp_head, go_sem] | (refine br ?_ ?_ <;> intro gg <;> try (exfalso; omega)) | (refine And.intro ?_ ?_; focus omega) | omega
/-- what Copy gives: nil, or a row of one's own -/
theorem s65n : callT AA 65 [.lit (.slice none 0 0)] [] = some (.lit (.slice none 0 0), []) := by
  refine enter fn65 np65 rfl ?_
  have gg := trivial; repeat' first | simp (maxSteps := 2000000) (disch := omega) only [gg, b65, lp_head, go_sem] | (refine br ?_ ?_ <;> intro gg <;> try (exfalso; omega)) | (refine And.intro ?_ ?_; focus omega) | omega
  refine hd_of (by unfold l65_0; rfl) ?_
  have gg := trivial; repeat' first | simp (maxSteps := 2000000) (disch := omega) only [gg, r65_0, go_sem] | (refine br ?_ ?_ <;> intro gg <;> try (exfalso; omega)) | (refine And.intro ?_ ?_; focus omega) | omega
theorem s65e (c tmp : Bool) : callT AA 65 [.view 8 [] c tmp] [] = some (.lit (.slice none 0 0), []) := by
  refine enter fn65 np65 rfl ?_
  have gg := trivial; repeat' first | simp (maxSteps := 2000000) (disch := omega) only [gg, b65, lp_head, go_sem] | (refine br ?_ ?_ <;> intro gg <;> try (exfalso; omega)) | (refine And.intro ?_ ?_; focus omega) | omega
  refine hd_of (by unfold l65_0; rfl) ?_
  have gg := trivial; repeat' first | simp (maxSteps := 2000000) (disch := omega) only [gg, r65_0, go_sem] | (refine br ?_ ?_ <;> intro gg <;> try (exfalso; omega)) | (refine And.intro ?_ ?_; focus omega) | omega
theorem s65 (c tmp : Bool) (e : Ent) (r : List Ent) (ht : (e :: r).length ≤ 1000000) (hq : ∀ x ∈ e :: r, x.data.l.length ≤ 281474976710656 / 4) : callT AA 65 [.view 8 ((e :: r).map Ent.av) c tmp] [] = some (.own 0 8 0 (e :: r).length false, [(0, .row ((e :: r).map Ent.cav) 8)]) := by
  have he := hq e (by simp)
  have ih := h65 c tmp (e :: r) ht hq r [e] (e :: r).length 1 1 rfl rfl rfl rfl
  refine enter fn65 np65 rfl ?_
  generalize ht' : e :: r = t at *
  have hg : t[0]? = some e := by rw [← ht']; rfl
  have hl : 0 < t.length := by rw [← ht']; simp
  have gg := trivial; repeat' first | simp (maxSteps := 2000000) (disch := omega) only [gg, b65, lp_head, go_sem] | (refine br ?_ ?_ <;> intro gg <;> try (exfalso; omega)) | (refine And.intro ?_ ?_; focus omega) | omega
  refine hd_of (by unfold l65_0; rfl) ?_
  cases hd : e.data with
  | nil =>
    have hp := s108n e hd
    simp only [Ent.av, hd, av_nil] at hp
    simp only [List.map_append, List.map_cons, List.map_nil, Ent.cav, hd, cp_nil, av_nil] at ih
    have gg := trivial; repeat' first | simp (maxSteps := 2000000) (disch := omega) only [gg, hp, hg, hd, lp_head, go_sem] | (refine br ?_ ?_ <;> intro gg <;> try (exfalso; omega)) | (refine And.intro ?_ ?_; focus omega) | omega
  | mk cc tt l =>
    rw [hd] at he
    have hp := s108 e cc tt l hd he
    simp only [Ent.av, hd] at hp
    simp only [List.map_append, List.map_cons, List.map_nil, Ent.cav, hd, cp_mk, mk_av] at ih
    have gg := trivial; repeat' first | simp (maxSteps := 2000000) (disch := omega) only [gg, hp, hg, hd, lp_head, go_sem] | (refine br ?_ ?_ <;> intro gg <;> try (exfalso; omega)) | (refine And.intro ?_ ?_; focus omega) | omega
end Go.Abs
namespace Go.Abs
open Am
set_option maxRecDepth 10000
set_option linter.unusedSimpArgs false
theorem s46 (n : Int) : callT AA 46 [.int .i64 n] [] = some (.bool (decide (0 ≤ n ∧ n < 2097152)), []) := by
  refine enter fn46 np46 rfl ?_
  have gg := trivial; repeat' first | simp (maxSteps := 2000000) (disch := omega) only [gg, b46, go_sem] | (refine br ?_ ?_ <;> intro gg <;> try (exfalso; omega)) | (refine And.intro ?_ ?_; focus omega) | omega
  (all_goals (first | (simp_all []; done) | (simp_all []; omega) | (simp_all []; intros; omega) | (simp_all []; rw [Bool.eq_iff_iff]; simp; done) | (simp_all []; rw [Bool.eq_iff_iff]; simp; omega)))
theorem s48 (n : Int) : callT AA 48 [.int .i64 n] [] = some (.bool (decide (0 ≤ n ∧ n < 8589934592)), []) := by
  refine enter fn48 np48 rfl ?_
  have gg := trivial; repeat' first | simp (maxSteps := 2000000) (disch := omega) only [gg, b48, go_sem] | (refine br ?_ ?_ <;> intro gg <;> try (exfalso; omega)) | (refine And.intro ?_ ?_; focus omega) | omega
  (all_goals (first | (simp_all []; done) | (simp_all []; omega) | (simp_all []; intros; omega) | (simp_all []; rw [Bool.eq_iff_iff]; simp; done) | (simp_all []; rw [Bool.eq_iff_iff]; simp; omega)))
theorem s127 (n : Int) : callT AA 127 [.int .i32 n] [] = some (.bool (decide (n = 0 ∨ 127 < n)), []) := by
  refine enter fn127 np127 rfl ?_
  have gg := trivial; repeat' first | simp (maxSteps := 2000000) (disch := omega) only [gg, b127, go_sem] | (refine br ?_ ?_ <;> intro gg <;> try (exfalso; omega)) | (refine And.intro ?_ ?_; focus omega) | omega
  (all_goals (first | (simp_all []; done) | (simp_all []; omega) | (simp_all []; intros; omega) | (simp_all []; rw [Bool.eq_iff_iff]; simp; done) | (simp_all []; rw [Bool.eq_iff_iff]; simp; omega)))
def okByte (b : UInt8) : Bool := decide (b.toNat ≠ 0 ∧ b.toNat < 128)
theorem decode_high (b : UInt8) (t : List UInt8) (h : 128 ≤ b.toNat) : 128 ≤ (Lib.decodeL (b :: t)).1 := by
  rw [Lib.decodeL_N]
  have h0 : ((b :: t).getD 0 0).toNat = b.toNat := rfl
  rw [h0]
  have hb := b.toNat_lt
  unfold Lib.decodeN
  repeat' split
  all_goals (simp only []; omega)
/-- the place of the first byte that is none of 1..127 -/
def badByte : Int → List UInt8 → Int
  | _, [] => -1
  | i, b :: r => if okByte b = true then badByte (i + 1) r else i
theorem badByte_neg : ∀ (s : List UInt8) (i : Int), 0 ≤ i → (decide (badByte i s < 0) = s.all okByte)
  | [], i, _ => by simp [badByte]
  | b :: r, i, h => by
    unfold badByte
    have ih := badByte_neg r (i + 1) (by omega)
    by_cases hp : okByte b = true
    · simp [hp, ih]
    · simp [hp]; omega
theorem h161 (s : List UInt8) (hs : s.length ≤ 1000000) (r0 : Int) : ∀ (rest done : List UInt8) (pos : Nat), s = done ++ rest → pos = done.length → r0 = badByte pos rest →
    HD AA 0 [1, 2, 6, 10] l161_0 ⟨[.junk, .func (.func 127) [], .bool true, .junk, .junk, .junk, .int .i64 0, .junk, .junk, .junk, .ptr 0 0, .junk, .junk, .junk, .junk, .junk, .junk, .junk, .junk, .junk, .junk], [(0, .iter s pos)], 1⟩ [.blk 0, .code r161_0] (Fin [(6, none)] 0 (.int .i64 r0) [])
  | [], done, pos, h1, h2, h3 => by
    subst h1
    have hn : ¬ pos < done.length := by omega
    refine hd_of (by unfold l161_0; rfl) ?_
    have gg := trivial; repeat' first | simp (maxSteps := 2000000) (disch := omega) only [gg, r161_0, List.append_nil, hn, go_sem] | (refine br ?_ ?_ <;> intro gg <;> try (exfalso; omega)) | (refine And.intro ?_ ?_; focus omega) | omega
    simp [h3, badByte]
  | b :: r, done, pos, h1, h2, h3 => by
    have hp : pos < s.length := by rw [h1, h2]; simp
    have hd : Utf8.decode ⟨s.toArray⟩ pos = Lib.decodeL (b :: r) := by
      rw [← Lib.decodeL_drop]
      have : (ByteArray.mk s.toArray).data.toList.drop pos = b :: r := by
        rw [h1, h2]; simp
      rw [this]
    refine hd_of (by unfold l161_0; rfl) ?_
    unfold badByte at h3
    by_cases hb : b.toNat < 128
    · have ha := Lib.decodeL_ascii b r hb
      rw [ha] at hd
      by_cases hz : b.toNat = 0
      · rw [if_neg (by simp [okByte, hz])] at h3
        have hf := s127 (b.toNat : Int)
        rw [decide_eq_true (by omega)] at hf
        have gg := trivial; repeat' first | simp (maxSteps := 2000000) (disch := omega) only [gg, hp, hd, hf, lp_head, go_sem] | (refine br ?_ ?_ <;> intro gg <;> try (exfalso; omega)) | (refine And.intro ?_ ?_; focus omega) | omega
        simp [h3]
      · rw [if_pos (by simp [okByte, hz, hb])] at h3
        have ih := h161 s hs r0 r (done ++ [b]) (pos + 1) (by simp [h1]) (by first | omega | (simp; omega) | (simp; done)) (by rw [h3]; simp)
        have hf := s127 (b.toNat : Int)
        rw [decide_eq_false (by omega)] at hf
        have gg := trivial; repeat' first | simp (maxSteps := 2000000) (disch := omega) only [gg, hp, hd, hf, lp_head, go_sem] | (refine br ?_ ?_ <;> intro gg <;> try (exfalso; omega)) | (refine And.intro ?_ ?_; focus omega) | omega
    · rw [if_neg (by simp [okByte]; omega)] at h3
      have hh := decode_high b r (by omega)
      generalize Lib.decodeL (b :: r) = dd at hd hh
      obtain ⟨d1, d2⟩ := dd
      simp only at hh
      have hf := s127 (d1 : Int)
      rw [decide_eq_true (by omega)] at hf
      have gg := trivial; repeat' first | simp (maxSteps := 2000000) (disch := omega) only [gg, hp, hd, hf, lp_head, go_sem] | (refine br ?_ ?_ <;> intro gg <;> try (exfalso; omega)) | (refine And.intro ?_ ?_; focus omega) | omega
      simp [h3]
def asciiB (s : List UInt8) : Bool := s.all okByte
theorem s82 (s : List UInt8) (hs : s.length ≤ 1000000) : callT AA 82 [.str s] [] = some (.bool (asciiB s), []) := by
  have h1 : callT AA 161 [.str s, .func (.func 127) [], .bool true] [] = some (.int .i64 (badByte 0 s), []) := by
    refine enter fn161 np161 rfl ?_
    have gg := trivial; repeat' first | simp (maxSteps := 2000000) (disch := omega) only [gg, b161, lp_head, go_sem] | (refine br ?_ ?_ <;> intro gg <;> try (exfalso; omega)) | (refine And.intro ?_ ?_; focus omega) | omega
    exact h161 s hs _ s [] 0 rfl rfl rfl
  have h2 : callT AA 126 [.str s, .func (.func 127) []] [] = some (.int .i64 (badByte 0 s), []) := by
    refine enter fn126 np126 rfl ?_
    have gg := trivial; repeat' first | simp (maxSteps := 2000000) (disch := omega) only [gg, b126, h1, go_sem] | (refine br ?_ ?_ <;> intro gg <;> try (exfalso; omega)) | (refine And.intro ?_ ?_; focus omega) | omega
  have h3 := badByte_neg s 0 (by omega)
  refine enter fn82 np82 rfl ?_
  have gg := trivial; repeat' first | simp (maxSteps := 2000000) (disch := omega) only [gg, b82, h2, h3, asciiB, go_sem] | (refine br ?_ ?_ <;> intro gg <;> try (exfalso; omega)) | (refine And.intro ?_ ?_; focus omega) | omega
theorem s45 (s : List UInt8) (hs : s.length ≤ 1000000) : callT AA 45 [.str s] [] = some (.bool (decide (s ≠ []) && decide ((s.length : Int) ≤ 100) && asciiB s), []) := by
  have h1 := s82 s hs
  refine enter fn45 np45 rfl ?_
  have gg := trivial; repeat' first | simp (maxSteps := 2000000) (disch := omega) only [gg, b45, h1, go_sem] | (refine br ?_ ?_ <;> intro gg <;> try (exfalso; omega)) | (refine And.intro ?_ ?_; focus omega) | omega
  (all_goals (first | (simp_all []; done) | (simp_all []; omega) | (simp_all []; intros; omega) | (simp_all []; rw [Bool.eq_iff_iff]; simp; done) | (simp_all []; rw [Bool.eq_iff_iff]; simp; omega)))
end Go.Abs
namespace Go.Abs
open Am
set_option maxRecDepth 10000
set_option linter.unusedSimpArgs false
def spOk (p : List UInt8) (i : Nat) : Bool := decide (p[i]? = some 47) && decide (1 ≤ i) && decide (i ≤ 155) && decide (i + 2 ≤ p.length) && decide (p.length ≤ i + 101)
def spAt (p : List UInt8) : Nat → Nat → List UInt8 × List UInt8 × Bool
  | 0, _ => ([], [], false)
  | k + 1, i => if spOk p i = true then (p.take i, p.drop (i + 1), true) else spAt p k (i + 1)
def splitN (p : List UInt8) : List UInt8 × List UInt8 × Bool :=
  if p = [] ∨ asciiB p = false then ([], [], false) else if p.length ≤ 100 then ([], p, true) else spAt p p.length 0
theorem h81 (p : List UInt8) (hp : p.length ≤ 1000000) (r0 : List UInt8 × List UInt8 × Bool) : ∀ (k i : Nat) (n j : Int), i + k = p.length → j = i → n = p.length → r0 = spAt p k i →
    HD AA 0 [0, 2, 3, 4, 18, 19] l81_0 ⟨[.str p, .junk, .str [], .str [], .bool false, .junk, .junk, .junk, .junk, .junk, .junk, .junk, .junk, .junk, .junk, .junk, .junk, .junk, .int .i64 n, .int .i64 j, .junk, .junk, .junk, .junk, .junk, .junk, .junk, .junk, .junk, .junk, .junk, .junk, .junk, .junk, .junk, .junk, .junk, .junk, .junk, .junk, .junk, .junk, .junk, .junk, .junk, .junk, .junk, .junk, .junk, .junk, .junk, .junk, .junk, .junk, .junk, .junk, .junk, .junk], [], 0⟩ [.blk 0, .code r81_0] (Fin [(2, none), (3, none), (4, none)] 0 (.tuple [.str r0.1, .str r0.2.1, .bool r0.2.2]) [])
  | 0, i, n, j, h1, h2, h3, h4 => by
    refine hd_of (by unfold l81_0; rfl) ?_
    have gg := trivial; repeat' first | simp (maxSteps := 2000000) (disch := omega) only [gg, r81_0, go_sem] | (refine br ?_ ?_ <;> intro gg <;> try (exfalso; omega)) | (refine And.intro ?_ ?_; focus omega) | omega
    simp [h4, spAt]
  | k + 1, i, n, j, h1, h2, h3, h4 => by
    have hl : i < p.length := by omega
    have hg : p[i]? = some p[i] := List.getElem?_eq_getElem hl
    have hj : j.toNat = i := by omega
    refine hd_of (by unfold l81_0; rfl) ?_
    unfold spAt at h4
    by_cases hok : spOk p i = true
    · rw [if_pos hok] at h4
      simp only [spOk, hg, Bool.and_eq_true, decide_eq_true_eq, Option.some.injEq] at hok
      have h47 : (p[i].toNat : Int) = 47 := by rw [hok.1.1.1.1]; rfl
      have gg := trivial; repeat' first | simp (maxSteps := 2000000) (disch := omega) only [gg, hg, hj, h47, go_sem] | (refine br ?_ ?_ <;> intro gg <;> try (exfalso; omega)) | (refine And.intro ?_ ?_; focus omega) | omega
      simp [h4]
    · rw [if_neg hok] at h4
      have ih := h81 p hp r0 k (i + 1) n (j + 1) (by first | omega | (simp; omega) | (simp; done)) (by first | omega | (simp; omega) | (simp; done)) h3 h4
      simp only [spOk, hg, Bool.and_eq_true, decide_eq_true_eq, Option.some.injEq] at hok
      have hne : ¬ ((p[i].toNat : Int) = 47 ∧ 1 ≤ i ∧ i ≤ 155 ∧ i + 2 ≤ p.length ∧ p.length ≤ i + 101) := by
        rintro ⟨a, b⟩
        refine hok ⟨⟨⟨⟨UInt8.toNat_inj.1 (by rw [show (47 : UInt8).toNat = 47 from rfl]; omega), b.1⟩, b.2.1⟩, b.2.2.1⟩, b.2.2.2⟩
      have gg := trivial; repeat' first | simp (maxSteps := 2000000) (disch := omega) only [gg, hg, hj, lp_head, go_sem] | (refine br ?_ ?_ <;> intro gg <;> try (exfalso; omega)) | (refine And.intro ?_ ?_; focus omega) | omega
theorem s81 (p : List UInt8) (hp : p.length ≤ 1000000) : callT AA 81 [.str p] [] = some (.tuple [.str (splitN p).1, .str (splitN p).2.1, .bool (splitN p).2.2], []) := by
  have h1 := s82 p hp
  refine enter fn81 np81 rfl ?_
  unfold splitN
  by_cases h0 : p = [] ∨ asciiB p = false
  · rw [if_pos h0]
    by_cases he : p = []
    · have gg := trivial; repeat' first | simp (maxSteps := 2000000) (disch := omega) only [gg, b81, h1, he, go_sem] | (refine br ?_ ?_ <;> intro gg <;> try (exfalso; omega)) | (refine And.intro ?_ ?_; focus omega) | omega
    · have ha : asciiB p = false := by simpa [he] using h0
      have gg := trivial; repeat' first | simp (maxSteps := 2000000) (disch := omega) only [gg, b81, h1, he, ha, go_sem] | (refine br ?_ ?_ <;> intro gg <;> try (exfalso; omega)) | (refine And.intro ?_ ?_; focus omega) | omega
  · rw [if_neg h0]
    have he : ¬ p = [] := fun h => h0 (.inl h)
    have ha : asciiB p = true := by
      cases hx : asciiB p with
      | true => rfl
      | false => exact (h0 (.inr hx)).elim
    by_cases hl : p.length ≤ 100
    · rw [if_pos hl]
      have gg := trivial; repeat' first | simp (maxSteps := 2000000) (disch := omega) only [gg, b81, h1, he, ha, go_sem] | (refine br ?_ ?_ <;> intro gg <;> try (exfalso; omega)) | (refine And.intro ?_ ?_; focus omega) | omega
    · rw [if_neg hl]
      have gg := trivial; repeat' first | simp (maxSteps := 2000000) (disch := omega) only [gg, b81, h1, he, ha, lp_head, go_sem] | (refine br ?_ ?_ <;> intro gg <;> try (exfalso; omega)) | (refine And.intro ?_ ?_; focus omega) | omega
      exact h81 p hp _ p.length 0 _ _ (by omega) rfl rfl rfl
theorem s44 (p : List UInt8) (hp : p.length ≤ 1000000) : callT AA 44 [.str p] [] = some (.bool (splitN p).2.2, []) := by
  have h1 := s81 p hp
  refine enter fn44 np44 rfl ?_
  have gg := trivial; repeat' first | simp (maxSteps := 2000000) (disch := omega) only [gg, b44, h1, go_sem] | (refine br ?_ ?_ <;> intro gg <;> try (exfalso; omega)) | (refine And.intro ?_ ?_; focus omega) | omega
def idB (n : Int) : Bool := decide (0 ≤ n ∧ n < 2097152)
def timeB (n : Int) : Bool := decide (0 ≤ n ∧ n < 8589934592)
def linkB (s : List UInt8) : Bool := decide (s ≠ []) && decide ((s.length : Int) ≤ 100) && asciiB s
theorem i46 (n : Int) : callT AA 46 [.int .i64 n] [] = some (.bool (idB n), []) := s46 n
theorem i48 (n : Int) : callT AA 48 [.int .i64 n] [] = some (.bool (timeB n), []) := s48 n
theorem i45 (s : List UInt8) (hs : s.length ≤ 1000000) : callT AA 45 [.str s] [] = some (.bool (linkB s), []) := s45 s hs
theorem idB_iff {n : Int} : idB n = true ↔ 0 ≤ n ∧ n < 2097152 := by simp [idB]
theorem timeB_iff {n : Int} : timeB n = true ↔ 0 ≤ n ∧ n < 8589934592 := by simp [timeB]
attribute [irreducible] idB timeB linkB
def fitsB (h : Hd) : Bool :=
  idB h.mode && idB h.uid && idB h.gid && timeB h.size && timeB h.time &&
  (if h.type = 49 ∨ h.type = 50 then linkB h.link && decide (h.size = 0) else
   if h.type = 53 then decide (h.link = []) && decide (h.size = 0) else
   if h.type = 48 ∨ h.type = 120 then decide (h.link = []) else false)
theorem ty_eq (t : UInt8) (n : Nat) (hn : n < 256) : ((t.toNat : Int) = n) = (t = UInt8.ofNat n) := by
  apply propext
  constructor
  · intro h
    have : t.toNat = n := by omega
    rw [← this]; simp
  · rintro rfl
    simp; omega
theorem s115 (h : Hd) (hl : h.link.length ≤ 1000000) : callT AA 115 [h.av] [] = some (.bool (fitsB h), []) := by
  have h1 := i45 h.link hl
  have t49 : ((h.type.toNat : Int) = 49) = (h.type = 49) := ty_eq _ 49 (by omega)
  have t50 : ((h.type.toNat : Int) = 50) = (h.type = 50) := ty_eq _ 50 (by omega)
  have t53 : ((h.type.toNat : Int) = 53) = (h.type = 53) := ty_eq _ 53 (by omega)
  have t48 : ((h.type.toNat : Int) = 48) = (h.type = 48) := ty_eq _ 48 (by omega)
  have t120 : ((h.type.toNat : Int) = 120) = (h.type = 120) := ty_eq _ 120 (by omega)
  refine enter fn115 np115 rfl ?_
  have gg := trivial; repeat' first | simp (maxSteps := 2000000) (disch := omega) only [gg, b115, h1, i46, i48, t49, t50, t53, t48, t120, go_sem] | (refine br ?_ ?_ <;> intro gg <;> try (exfalso; omega)) | (refine And.intro ?_ ?_; focus omega) | omega
  all_goals (clear h1 t49 t50 t53 t48 t120)
  (all_goals (first | (simp_all [fitsB]; done) | (simp_all [fitsB]; omega) | (simp_all [fitsB]; intros; omega) | (simp_all [fitsB]; rw [Bool.eq_iff_iff]; simp; done) | (simp_all [fitsB]; rw [Bool.eq_iff_iff]; simp; omega)))
end Go.Abs
namespace Go.Abs
open Am
set_option maxRecDepth 10000
set_option linter.unusedSimpArgs false
@[go_sem high] theorem aBin_and7 {e : EqK} {c : Bool} {x : Int} (h0 : 0 ≤ x) (h1 : x ≤ 9223372036854775807) : aBin .and e c (.int .i64 x) (.int .i64 7) = some (.int .i64 (x % 8)) := by
  rw [aBin_and]
  have e : ((BitVec.ofInt IntKind.i64.bits x &&& BitVec.ofInt IntKind.i64.bits 7).toNat : Int) = x % 8 := and7 h0 h1
  rw [e, wrap_i64 (by omega) (by omega)]
/-- digits in octal, from the last on -/
def octW (bs : List UInt8) (pos : Nat) : Nat → Int → List UInt8
  | 0, _ => bs
  | k + 1, n => octW (bs.set (pos + k) (UInt8.ofNat (48 + n % 8).toNat)) pos k (n / 8)
theorem octW_length (pos : Nat) : ∀ (k : Nat) (bs : List UInt8) (n : Int), (octW bs pos k n).length = bs.length
  | 0, bs, n => rfl
  | k + 1, bs, n => by
    unfold octW
    rw [octW_length pos k]
    simp
theorem h116 (pos : Nat) (r0 : List UInt8) : ∀ (k : Nat) (bs : List UInt8) (q : Nat) (n i p : Int), p = pos → i = (k : Int) - 1 → q = bs.length → bs.length ≤ 1000000 → pos + k ≤ bs.length → 0 ≤ n → n ≤ 9223372036854775807 → r0 = octW bs pos k n →
    HD AA 1 [0, 1, 3, 8] l116_0 ⟨[.own 0 1 0 q false, .int .i64 p, .junk, .int .i64 n, .junk, .junk, .junk, .junk, .int .i64 i, .junk, .junk, .junk, .junk, .junk, .junk, .junk, .junk, .junk, .junk, .junk, .junk, .junk, .junk, .junk, .junk, .junk], [(0, .row (bs.map .byte) 1)], 2⟩ [.blk 0] (Fin [] 1 (.tuple []) [(0, .row (r0.map .byte) 1)])
  | 0, bs, q, n, i, p, h1, h2, h3, h4, h5, h6, h7, h8 => by
    refine hd_of (by unfold l116_0; rfl) ?_
    have gg := trivial; repeat' first | simp (maxSteps := 2000000) (disch := omega) only [gg, go_sem] | (refine br ?_ ?_ <;> intro gg <;> try (exfalso; omega)) | (refine And.intro ?_ ?_; focus omega) | omega
    simp [h8, octW]
  | k + 1, bs, q, n, i, p, h1, h2, h3, h4, h5, h6, h7, h8 => by
    have ih := h116 pos r0 k (bs.set (pos + k) (UInt8.ofNat (48 + n % 8).toNat)) q (n / 8) (i - 1) p h1 (by first | omega | (simp; omega) | (simp; done)) (by simp [h3]) (by simp [h4]) (by simp; omega) (by omega) (by omega) h8
    have hi : (p + i).toNat = pos + k := by omega
    refine hd_of (by unfold l116_0; rfl) ?_
    have gg := trivial; repeat' first | simp (maxSteps := 2000000) (disch := omega) only [gg, and7, hi, lp_head, go_sem] | (refine br ?_ ?_ <;> intro gg <;> try (exfalso; omega)) | (refine And.intro ?_ ?_; focus omega) | omega
theorem s116 (bs : List UInt8) (p digits n : Int) (pos k q : Nat) (h1 : p = pos) (h2 : digits = k) (h3 : q = bs.length) (h4 : bs.length ≤ 1000000) (h5 : pos + k ≤ bs.length) (h6 : 0 ≤ n) (h7 : n ≤ 9223372036854775807) :
    callT AA 116 [.own 0 1 0 q false, .int .i64 p, .int .i64 digits, .int .i64 n] [(0, .row (bs.map .byte) 1)] = some (.tuple [], [(0, .row ((octW bs pos k n).map .byte) 1)]) := by
  refine enter fn116 np116 rfl ?_
  have gg := trivial; repeat' first | simp (maxSteps := 2000000) (disch := omega) only [gg, b116, lp_head, go_sem] | (refine br ?_ ?_ <;> intro gg <;> try (exfalso; omega)) | (refine And.intro ?_ ?_; focus omega) | omega
  exact h116 pos _ k bs q n (digits - 1) p h1 (by omega) h3 h4 h5 h6 h7 rfl
def sumL : Nat → List UInt8 → Int
  | _, [] => 0
  | i, c :: r => (if i < 148 ∨ 156 ≤ i then (c.toNat : Int) else 0) + sumL (i + 1) r
theorem sumL_le : ∀ (r : List UInt8) (i : Nat), 0 ≤ sumL i r ∧ sumL i r ≤ 255 * r.length
  | [], i => by simp [sumL]
  | c :: r, i => by
    have ih := sumL_le r (i + 1)
    have hc := c.toNat_lt
    unfold sumL
    simp only [List.length_cons]
    split <;> omega
theorem h117 (c t : Bool) (bs : List UInt8) (hb : bs.length ≤ 1000000) (r0 : Int) : ∀ (rest done : List UInt8) (acc n i : Int), bs = done ++ rest → i = done.length → n = bs.length → (0 ≤ acc ∧ acc ≤ 256 + 255 * done.length) → r0 = acc + sumL done.length rest →
    HD AA 0 [2, 3, 6, 7, 8] l117_0 ⟨[.junk, .junk, .int .i64 0, .int .i64 acc, .junk, .junk, .view 1 (bs.map .byte) c t, .int .i64 n, .int .i64 i, .junk, .junk, .junk, .junk, .junk, .junk, .junk, .junk, .junk, .junk, .junk, .junk, .junk, .junk, .junk, .junk], [], 0⟩ [.blk 0, .code r117_0] (Fin [(2, none)] 0 (.int .i64 r0) [])
  | [], done, acc, n, i, h1, h2, h3, h4, h5 => by
    subst h1
    simp at h3
    refine hd_of (by unfold l117_0; rfl) ?_
    have gg := trivial; repeat' first | simp (maxSteps := 2000000) (disch := omega) only [gg, r117_0, go_sem] | (refine br ?_ ?_ <;> intro gg <;> try (exfalso; omega)) | (refine And.intro ?_ ?_; focus omega) | omega
    simp [h5, sumL]
  | x :: r, done, acc, n, i, h1, h2, h3, h4, h5 => by
    have hg : bs[i.toNat]? = some x := by
      rw [h1]
      simp [h2]
    have hl : i.toNat < bs.length := by rw [h1]; simp; omega
    have hx := x.toNat_lt
    refine hd_of (by unfold l117_0; rfl) ?_
    unfold sumL at h5
    by_cases hs : done.length < 148 ∨ 156 ≤ done.length
    · rw [if_pos hs] at h5
      have ih := h117 c t bs hb r0 r (done ++ [x]) (acc + x.toNat) n (i + 1) (by simp [h1]) (by first | omega | (simp; omega) | (simp; done)) h3 (by first | omega | (simp; omega) | (simp; done)) (by rw [h5]; simp; omega)
      have gg := trivial; repeat' first | simp (maxSteps := 2000000) (disch := omega) only [gg, hg, lp_head, go_sem] | (refine br ?_ ?_ <;> intro gg <;> try (exfalso; omega)) | (refine And.intro ?_ ?_; focus omega) | omega
    · rw [if_neg hs] at h5
      have ih := h117 c t bs hb r0 r (done ++ [x]) acc n (i + 1) (by simp [h1]) (by first | omega | (simp; omega) | (simp; done)) h3 (by first | omega | (simp; omega) | (simp; done)) (by rw [h5]; simp)
      have gg := trivial; repeat' first | simp (maxSteps := 2000000) (disch := omega) only [gg, hg, lp_head, go_sem] | (refine br ?_ ?_ <;> intro gg <;> try (exfalso; omega)) | (refine And.intro ?_ ?_; focus omega) | omega
theorem s117 (c t : Bool) (bs : List UInt8) (hb : bs.length ≤ 1000000) : callT AA 117 [.view 1 (bs.map .byte) c t] [] = some (.int .i64 (256 + sumL 0 bs), []) := by
  refine enter fn117 np117 rfl ?_
  have gg := trivial; repeat' first | simp (maxSteps := 2000000) (disch := omega) only [gg, b117, lp_head, go_sem] | (refine br ?_ ?_ <;> intro gg <;> try (exfalso; omega)) | (refine And.intro ?_ ?_; focus omega) | omega
  exact h117 c t bs hb _ bs [] _ _ _ rfl rfl rfl (by simp) rfl
end Go.Abs
namespace Go.Abs
open Am
set_option maxRecDepth 10000
set_option linter.unusedSimpArgs false
def putA (bs : List UInt8) (off n : Nat) (xs : List UInt8) : List UInt8 := bs.take off ++ xs.take (min xs.length n) ++ bs.drop (off + min xs.length n)
theorem putA_length {bs xs : List UInt8} {off n : Nat} (h : off + n ≤ bs.length) : (putA bs off n xs).length = bs.length := by
  unfold putA
  simp
  omega
@[go_sem high] theorem row_put {off n : Nat} {bs xs : List UInt8} : List.take off (bs.map AVal.byte) ++ List.take (min xs.length n) (xs.map AVal.byte) ++ List.drop (off + min xs.length n) (bs.map AVal.byte) = (putA bs off n xs).map .byte := by
  simp [putA]
@[go_sem high] theorem row_put0 {n : Nat} {bs xs : List UInt8} : List.take (min xs.length n) (xs.map AVal.byte) ++ List.drop (min xs.length n) (bs.map AVal.byte) = (putA bs 0 n xs).map .byte := by
  simp [putA]
def zeros512 : List UInt8 := List.replicate 512 0
theorem zeros512_eq : List.replicate 512 (0 : UInt8) = zeros512 := rfl
theorem zeros512_length : zeros512.length = 512 := by simp [zeros512]
def magicB : List UInt8 := [117, 115, 116, 97, 114, 0, 48, 48]
theorem magic_eq : AVal.str [117, 115, 116, 97, 114, 0, 48, 48] = AVal.str magicB := rfl
/-- the block ahead of its sum -/
def encH (h : Hd) (pre name : List UInt8) : List UInt8 :=
  let b1 := putA zeros512 0 512 name
  let b2 := octW b1 100 7 h.mode
  let b3 := octW b2 108 7 h.uid
  let b4 := octW b3 116 7 h.gid
  let b5 := octW b4 124 11 h.size
  let b6 := octW b5 136 11 h.time
  let b7 := b6.set 156 h.type
  let b8 := putA b7 157 355 h.link
  let b9 := putA b8 257 255 magicB
  let b10 := octW b9 329 7 0
  let b11 := octW b10 337 7 0
  putA b11 345 167 pre
def encB (h : Hd) : List UInt8 :=
  let b := encH h (splitN h.path).1 (splitN h.path).2.1
  (octW b 148 6 (256 + sumL 0 b)).set 155 32
def encOk (h : Hd) : Bool := (splitN h.path).2.2 && fitsB h
set_option maxHeartbeats 2000000 in
theorem s70 (h : Hd) (hp : h.path.length ≤ 1000000) (hl : h.link.length ≤ 1000000) (hok : encOk h = true) : callT AA 70 [h.av] [] = some (.tuple [.own 0 1 0 512 false, .lit .nilIface], [(0, .row ((encB h).map .byte) 1)]) := by
  have h1 := s81 h.path hp
  have h2 := s115 h hl
  simp only [encOk, Bool.and_eq_true] at hok
  obtain ⟨k1, k2⟩ := hok
  rw [k1] at h1
  rw [k2] at h2
  simp only [Hd.av] at h2
  have f : idB h.mode = true ∧ idB h.uid = true ∧ idB h.gid = true ∧ timeB h.size = true ∧ timeB h.time = true := by
    simp only [fitsB, Bool.and_eq_true] at k2
    exact ⟨k2.1.1.1.1.1, k2.1.1.1.1.2, k2.1.1.1.2, k2.1.1.2, k2.1.2⟩
  simp only [idB_iff, timeB_iff] at f
  obtain ⟨f1, f2, f3, f4, f5⟩ := f
  unfold encB encH
  simp only []
  generalize (splitN h.path).1 = pre at *
  generalize (splitN h.path).2.1 = name at *
  have l0 := zeros512_length
  generalize e1 : putA zeros512 0 512 name = b1
  have l1 : b1.length = 512 := by rw [← e1, putA_length (by omega)]; exact l0
  have c2 := s116 b1 100 7 h.mode 100 7 512 rfl rfl l1.symm (by omega) (by omega) f1.1 (by omega)
  generalize e2 : octW b1 100 7 h.mode = b2 at c2
  have l2 : b2.length = 512 := by rw [← e2, octW_length]; exact l1
  have c3 := s116 b2 108 7 h.uid 108 7 512 rfl rfl l2.symm (by omega) (by omega) f2.1 (by omega)
  generalize e3 : octW b2 108 7 h.uid = b3 at c3
  have l3 : b3.length = 512 := by rw [← e3, octW_length]; exact l2
  have c4 := s116 b3 116 7 h.gid 116 7 512 rfl rfl l3.symm (by omega) (by omega) f3.1 (by omega)
  generalize e4 : octW b3 116 7 h.gid = b4 at c4
  have l4 : b4.length = 512 := by rw [← e4, octW_length]; exact l3
  have c5 := s116 b4 124 11 h.size 124 11 512 rfl rfl l4.symm (by omega) (by omega) f4.1 (by omega)
  generalize e5 : octW b4 124 11 h.size = b5 at c5
  have l5 : b5.length = 512 := by rw [← e5, octW_length]; exact l4
  have c6 := s116 b5 136 11 h.time 136 11 512 rfl rfl l5.symm (by omega) (by omega) f5.1 (by omega)
  generalize e6 : octW b5 136 11 h.time = b6 at c6
  have l6 : b6.length = 512 := by rw [← e6, octW_length]; exact l5
  generalize e7 : b6.set 156 h.type = b7
  have l7 : b7.length = 512 := by rw [← e7, List.length_set]; exact l6
  generalize e8 : putA b7 157 355 h.link = b8
  have l8 : b8.length = 512 := by rw [← e8, putA_length (by omega)]; exact l7
  generalize e9 : putA b8 257 255 magicB = b9
  have l9 : b9.length = 512 := by rw [← e9, putA_length (by omega)]; exact l8
  have c10 := s116 b9 329 7 0 329 7 512 rfl rfl l9.symm (by omega) (by omega) (by omega) (by omega)
  generalize e10 : octW b9 329 7 0 = b10 at c10
  have l10 : b10.length = 512 := by rw [← e10, octW_length]; exact l9
  have c11 := s116 b10 337 7 0 337 7 512 rfl rfl l10.symm (by omega) (by omega) (by omega) (by omega)
  generalize e11 : octW b10 337 7 0 = b11 at c11
  have l11 : b11.length = 512 := by rw [← e11, octW_length]; exact l10
  generalize e12 : putA b11 345 167 pre = b12
  have l12 : b12.length = 512 := by rw [← e12, putA_length (by omega)]; exact l11
  have hs := sumL_le b12 0
  have c12 := fun c t => s117 c t b12 (by omega)
  have c13 := s116 b12 148 6 (256 + sumL 0 b12) 148 6 512 rfl rfl l12.symm (by omega) (by omega) (by omega) (by omega)
  generalize e13 : octW b12 148 6 (256 + sumL 0 b12) = b13 at c13
  have l13 : b13.length = 512 := by rw [← e13, octW_length]; exact l12
  have ht := h.type.toNat_lt
  have t8 : UInt8.ofNat (h.type.toNat : Int).toNat = h.type := by simp
  have t12 : (b12.map AVal.byte).take 512 = b12.map AVal.byte := List.take_of_length_le (by simp; omega)
  refine enter fn70 np70 rfl ?_
  have gg := trivial; repeat' first | simp (maxSteps := 2000000) (disch := omega) only [gg, b70, h1, h2, t12, magic_eq, zeros512_eq, e1, c2, c3, c4, c5, c6, t8, e7, e8, e9, c10, c11, e12, c12, c13, go_sem] | (refine br ?_ ?_ <;> intro gg <;> try (exfalso; omega)) | (refine And.intro ?_ ?_; focus omega) | omega
  rfl
theorem s70no (h : Hd) (hp : h.path.length ≤ 1000000) (hl : h.link.length ≤ 1000000) (hok : encOk h = false) : callT AA 70 [h.av] [] = some (.tuple [.lit (.slice none 0 0), .iface 58 (.int .i64 14)], []) := by
  have h1 := s81 h.path hp
  have h2 := s115 h hl
  simp only [Hd.av] at h2
  unfold encOk at hok
  refine enter fn70 np70 rfl ?_
  cases hk : (splitN h.path).2.2 with
  | false =>
    rw [hk] at h1
    have gg := trivial; repeat' first | simp (maxSteps := 2000000) (disch := omega) only [gg, b70, h1, h2, go_sem] | (refine br ?_ ?_ <;> intro gg <;> try (exfalso; omega)) | (refine And.intro ?_ ?_; focus omega) | omega
  | true =>
    rw [hk] at h1
    have hf : fitsB h = false := by simpa [hk] using hok
    rw [hf] at h2
    have gg := trivial; repeat' first | simp (maxSteps := 2000000) (disch := omega) only [gg, b70, h1, h2, go_sem] | (refine br ?_ ?_ <;> intro gg <;> try (exfalso; omega)) | (refine And.intro ?_ ?_; focus omega) | omega
end Go.Abs
namespace Go.Abs
open Am
set_option maxRecDepth 10000
set_option linter.unusedSimpArgs false
@[go_sem high] theorem aBin_saddc {e : EqK} {c : Bool} {s t : List UInt8} (h : s.length + t.length ≤ 4611686018427387904) : aBin .add e c (.str s) (.str t) = some (.str (s ++ t)) := by
  rw [aBin_sadd]
  exact if_pos h
theorem s56 (n : Int) (h1 : -9223372036854775808 ≤ n) (h2 : n ≤ 9223372036854775807) : callT AA 56 [.int .i64 n] [] = some (.str (Lib.itoa n), []) := by
  have h := call98 h1 h2
  refine enter fn56 np56 rfl ?_
  have gg := trivial; repeat' first | simp (maxSteps := 2000000) (disch := omega) only [gg, b56, h, go_sem] | (refine br ?_ ?_ <;> intro gg <;> try (exfalso; omega)) | (refine And.intro ?_ ?_; focus omega) | omega
theorem itoa_length {n : Int} (h : 0 ≤ n) : (Lib.itoa n).length = Lib.nDigits n.toNat := by
  unfold Lib.itoa
  rw [if_neg (by omega), Lib.decDigits_length]
theorem nDigits_mono : ∀ {u v : Nat}, u ≤ v → Lib.nDigits u ≤ Lib.nDigits v := by
  intro u
  induction u using Nat.strongRecOn with
  | _ u ih =>
    intro v h
    by_cases hu : u < 10
    · rw [Lib.nDigits_small hu]
      exact Lib.nDigits_pos v
    · rw [Lib.nDigits_big hu, Lib.nDigits_big (by omega : ¬ v < 10)]
      have := ih (u / 10) (by omega) (v := v / 10) (by omega)
      omega
theorem nDigits_le7 {u : Nat} (h : u < 10000000) : Lib.nDigits u ≤ 7 := by
  have h1 := nDigits_mono (u := u) (v := 9999999) (by omega)
  have h2 : Lib.nDigits 9999999 = 7 := Lib.nDigits_unique 6 9999999 (by decide) (by decide)
  omega
def digs (n : Int) : Int := ((Lib.itoa n).length : Int)
theorem digs_pos {n : Int} (h : 0 ≤ n) : 1 ≤ digs n := by
  have := Lib.nDigits_pos n.toNat
  rw [digs, itoa_length h]
  omega
theorem digs_mono {a b : Int} (h : 0 ≤ a) (h' : a ≤ b) : digs a ≤ digs b := by
  have := nDigits_mono (u := a.toNat) (v := b.toNat) (by omega)
  rw [digs, digs, itoa_length h, itoa_length (by omega)]
  omega
theorem digs_le7 {a : Int} (h : 0 ≤ a) (h' : a < 10000000) : digs a ≤ 7 := by
  have := nDigits_le7 (u := a.toNat) (by omega)
  rw [digs, itoa_length h]
  omega
def lenF (rest : Int) : Nat → Int → Int
  | 0, n => n
  | k + 1, n => if n = rest + digs n then n else lenF rest k (rest + digs n)
def paxLen (rest : Int) : Int := lenF rest 6 (rest + 1)
theorem h158 (rest : Int) (hr : 0 ≤ rest) (hr' : rest ≤ 1000000) (r0 : Int) : ∀ (k : Nat) (n d : Int), n = rest + d → 7 ≤ d + k → 1 ≤ d → d ≤ 7 → d ≤ digs n → r0 = lenF rest k n →
    HD AA 0 [0, 2, 3] l158_0 ⟨[.int .i64 rest, .junk, .int .i64 0, .int .i64 n, .junk, .junk, .junk, .junk, .junk, .junk, .junk, .junk, .junk, .junk, .junk, .junk, .junk, .junk, .junk], [], 0⟩ [.blk 0, .code r158_0] (Fin [(2, none)] 0 (.int .i64 r0) [])
  | 0, n, d, h1, h2, h3, h3', h4, h5 => by
    have h6 := digs_le7 (a := n) (by omega) (by omega)
    have hs := s56 n (by omega) (by omega)
    have h7 : ((Lib.itoa n).length : Int) = digs n := rfl
    refine hd_of (by unfold l158_0; rfl) ?_
    have gg := trivial; repeat' first | simp (maxSteps := 2000000) (disch := omega) only [gg, hs, h7, r158_0, go_sem] | (refine br ?_ ?_ <;> intro gg <;> try (exfalso; omega)) | (refine And.intro ?_ ?_; focus omega) | omega
    simp [h5, lenF]
  | k + 1, n, d, h1, h2, h3, h3', h4, h5 => by
    have h6 := digs_le7 (a := n) (by omega) (by omega)
    have hs := s56 n (by omega) (by omega)
    have h7 : ((Lib.itoa n).length : Int) = digs n := rfl
    refine hd_of (by unfold l158_0; rfl) ?_
    unfold lenF at h5
    by_cases hn : n = rest + digs n
    · rw [if_pos hn] at h5
      have gg := trivial; repeat' first | simp (maxSteps := 2000000) (disch := omega) only [gg, hs, h7, r158_0, go_sem] | (refine br ?_ ?_ <;> intro gg <;> try (exfalso; omega)) | (refine And.intro ?_ ?_; focus omega) | omega
      simp [h5]
    · rw [if_neg hn] at h5
      have hd : d < digs n := by omega
      have hm := digs_mono (a := n) (b := rest + digs n) (by omega) (by omega)
      have ih := h158 rest hr hr' r0 k (rest + digs n) (digs n) rfl (by omega) (by omega) h6 hm h5
      have gg := trivial; repeat' first | simp (maxSteps := 2000000) (disch := omega) only [gg, hs, h7, lp_head, go_sem] | (refine br ?_ ?_ <;> intro gg <;> try (exfalso; omega)) | (refine And.intro ?_ ?_; focus omega) | omega
theorem s158 (rest : Int) (hr : 0 ≤ rest) (hr' : rest ≤ 1000000) : callT AA 158 [.int .i64 rest] [] = some (.int .i64 (paxLen rest), []) := by
  have h1 := digs_pos (n := rest + 1) (by omega)
  refine enter fn158 np158 rfl ?_
  have gg := trivial; repeat' first | simp (maxSteps := 2000000) (disch := omega) only [gg, b158, lp_head, go_sem] | (refine br ?_ ?_ <;> intro gg <;> try (exfalso; omega)) | (refine And.intro ?_ ?_; focus omega) | omega
  exact h158 rest hr hr' _ 6 (rest + 1) 1 rfl (by omega) (by omega) (by omega) h1 rfl
theorem lenF_le (rest : Int) (hr : 0 ≤ rest) (hr' : rest ≤ 1000000) : ∀ (k : Nat) (n d : Int), n = rest + d → 1 ≤ d → d ≤ 7 → rest < lenF rest k n ∧ lenF rest k n ≤ rest + 7
  | 0, n, d, h1, h2, h3 => by
    unfold lenF
    omega
  | k + 1, n, d, h1, h2, h3 => by
    have h4 := digs_pos (n := n) (by omega)
    have h5 := digs_le7 (a := n) (by omega) (by omega)
    have ih := lenF_le rest hr hr' k (rest + digs n) (digs n) rfl h4 h5
    unfold lenF
    split
    · omega
    · exact ih
theorem paxLen_le {rest : Int} (hr : 0 ≤ rest) (hr' : rest ≤ 1000000) : rest < paxLen rest ∧ paxLen rest ≤ rest + 7 := lenF_le rest hr hr' 6 _ 1 rfl (by omega) (by omega)
def kwByte (b : UInt8) : Bool := decide (33 ≤ (b.toNat : Int)) && decide ((b.toNat : Int) ≤ 126) && decide ((b.toNat : Int) ≠ 61)
def kwB (s : List UInt8) : Bool := decide (s ≠ []) && decide (s.length ≤ 100) && s.all kwByte
theorem h157 (s : List UInt8) (hs : s.length ≤ 1000000) (r0 : Bool) : ∀ (rest done : List UInt8) (n i : Int), s = done ++ rest → i = done.length → n = s.length → r0 = rest.all kwByte →
    HD AA 0 [0, 2, 12, 13] l157_0 ⟨[.str s, .junk, .bool false, .junk, .junk, .junk, .junk, .junk, .junk, .junk, .junk, .junk, .int .i64 n, .int .i64 i, .junk, .junk, .junk, .junk, .junk, .junk, .junk, .junk, .junk, .junk, .junk, .junk, .junk, .junk, .junk, .junk, .junk, .junk, .junk], [], 0⟩ [.blk 0, .code r157_0] (Fin [(2, none)] 0 (.bool r0) [])
  | [], done, n, i, h1, h2, h3, h4 => by
    subst h1
    simp at h3
    refine hd_of (by unfold l157_0; rfl) ?_
    have gg := trivial; repeat' first | simp (maxSteps := 2000000) (disch := omega) only [gg, r157_0, go_sem] | (refine br ?_ ?_ <;> intro gg <;> try (exfalso; omega)) | (refine And.intro ?_ ?_; focus omega) | omega
    simp [h4]
  | x :: r, done, n, i, h1, h2, h3, h4 => by
    have hg0 : s[i.toNat]? = some x := by
      rw [h1]
      simp [h2]
    have hl : i.toNat < s.length := by rw [h1]; simp; omega
    have hx := x.toNat_lt
    refine hd_of (by unfold l157_0; rfl) ?_
    rw [List.all_cons] at h4
    cases hk : kwByte x with
    | true =>
      rw [hk, Bool.true_and] at h4
      simp only [kwByte, Bool.and_eq_true, decide_eq_true_eq] at hk
      have ih := h157 s hs r0 r (done ++ [x]) n (i + 1) (by simp [h1]) (by first | omega | (simp; omega) | (simp; done)) h3 h4
      have gg := trivial; repeat' first | simp (maxSteps := 2000000) (disch := omega) only [gg, hg0, lp_head, go_sem] | (refine br ?_ ?_ <;> intro gg <;> try (exfalso; omega)) | (refine And.intro ?_ ?_; focus omega) | omega
    | false =>
      rw [hk, Bool.false_and] at h4
      simp only [kwByte, Bool.and_eq_false_iff, decide_eq_false_iff_not] at hk
      have gg := trivial; repeat' first | simp (maxSteps := 2000000) (disch := omega) only [gg, hg0, lp_head, go_sem] | (refine br ?_ ?_ <;> intro gg <;> try (exfalso; omega)) | (refine And.intro ?_ ?_; focus omega) | omega
      all_goals simp [h4]
theorem s157 (s : List UInt8) (hs : s.length ≤ 1000000) : callT AA 157 [.str s] [] = some (.bool (kwB s), []) := by
  refine enter fn157 np157 rfl ?_
  unfold kwB
  by_cases h0 : s = []
  · subst h0
    have gg := trivial; repeat' first | simp (maxSteps := 2000000) (disch := omega) only [gg, b157, go_sem] | (refine br ?_ ?_ <;> intro gg <;> try (exfalso; omega)) | (refine And.intro ?_ ?_; focus omega) | omega
    simp
  · by_cases h1 : s.length ≤ 100
    · have gg := trivial; repeat' first | simp (maxSteps := 2000000) (disch := omega) only [gg, b157, h0, lp_head, go_sem] | (refine br ?_ ?_ <;> intro gg <;> try (exfalso; omega)) | (refine And.intro ?_ ?_; focus omega) | omega
      refine h157 s hs _ s [] _ _ rfl rfl rfl ?_
      simp [h0, h1]
    · have gg := trivial; repeat' first | simp (maxSteps := 2000000) (disch := omega) only [gg, b157, h0, lp_head, go_sem] | (refine br ?_ ?_ <;> intro gg <;> try (exfalso; omega)) | (refine And.intro ?_ ?_; focus omega) | omega
def restP (k v : List UInt8) : List UInt8 := 32 :: (k ++ [61] ++ v ++ [10])
def lineB (k v : List UInt8) : List UInt8 := Lib.itoa (paxLen (restP k v).length) ++ restP k v
def lineOk (k v : List UInt8) : Bool := kwB k && decide (v.length ≤ 65536) && decide (paxLen (restP k v).length ≤ 65536)
theorem restP_length {k v : List UInt8} : (restP k v).length = k.length + v.length + 3 := by
  simp [restP]
  omega
theorem restP_eq {k v : List UInt8} : 32 :: (k ++ [61] ++ v ++ [10]) = restP k v := rfl
theorem s121 (k v : List UInt8) (hk : k.length ≤ 1000000) (hv : v.length ≤ 1000000) : callT AA 121 [.str k, .str v] [] = some (if lineOk k v = true then .tuple [.str (lineB k v), .lit .nilIface] else .tuple [.str [], .iface 58 (.int .i64 15)], []) := by
  have h1 := s157 k hk
  have hl := restP_length (k := k) (v := v)
  refine enter fn121 np121 rfl ?_
  unfold lineOk
  by_cases h2 : kwB k = true
  · have h3 : k.length ≤ 100 := by
      simp only [kwB, Bool.and_eq_true, decide_eq_true_eq] at h2
      exact h2.1.2
    by_cases h4 : v.length ≤ 65536
    · have h5 := s158 ((restP k v).length : Int) (by omega) (by omega)
      have h6 := paxLen_le (rest := ((restP k v).length : Int)) (by omega) (by omega)
      have h7 := s56 (paxLen (restP k v).length) (by omega) (by omega)
      have h9 : (Lib.itoa (paxLen (restP k v).length)).length ≤ 7 := by
        have := digs_le7 (a := paxLen (restP k v).length) (by omega) (by omega)
        unfold digs at this
        omega
      rw [h2]
      by_cases h8 : paxLen (restP k v).length ≤ 65536
      · have e : (if (true && decide (v.length ≤ 65536) && decide (paxLen (restP k v).length ≤ 65536)) = true then AVal.tuple [.str (lineB k v), .lit .nilIface] else .tuple [.str [], .iface 58 (.int .i64 15)]) = .tuple [.str (lineB k v), .lit .nilIface] := if_pos (by simp [h4, h8])
        rw [e]
        simp only [lineB]
        rw [h2] at h1
        generalize hq : paxLen (restP k v).length = q at *
        generalize hR : restP k v = R at *
        have gg := trivial; repeat' first | simp (maxSteps := 2000000) (disch := omega) only [gg, b121, h1, restP_eq, hR, h5, h7, go_sem] | (refine br ?_ ?_ <;> intro gg <;> try (exfalso; omega)) | (refine And.intro ?_ ?_; focus omega) | omega
      · have e : (if (true && decide (v.length ≤ 65536) && decide (paxLen (restP k v).length ≤ 65536)) = true then AVal.tuple [.str (lineB k v), .lit .nilIface] else .tuple [.str [], .iface 58 (.int .i64 15)]) = .tuple [.str [], .iface 58 (.int .i64 15)] := if_neg (by simp [h8])
        rw [e]
        rw [h2] at h1
        generalize hq : paxLen (restP k v).length = q at *
        generalize hR : restP k v = R at *
        have gg := trivial; repeat' first | simp (maxSteps := 2000000) (disch := omega) only [gg, b121, h1, restP_eq, hR, h5, h7, go_sem] | (refine br ?_ ?_ <;> intro gg <;> try (exfalso; omega)) | (refine And.intro ?_ ?_; focus omega) | omega
    · have e : (if (kwB k && decide (v.length ≤ 65536) && decide (paxLen (restP k v).length ≤ 65536)) = true then AVal.tuple [.str (lineB k v), .lit .nilIface] else .tuple [.str [], .iface 58 (.int .i64 15)]) = .tuple [.str [], .iface 58 (.int .i64 15)] := if_neg (by simp [h4])
      rw [e]
      rw [h2] at h1
      have gg := trivial; repeat' first | simp (maxSteps := 2000000) (disch := omega) only [gg, b121, h1, go_sem] | (refine br ?_ ?_ <;> intro gg <;> try (exfalso; omega)) | (refine And.intro ?_ ?_; focus omega) | omega
  · have h2' : kwB k = false := by simpa using h2
    have e : (if (kwB k && decide (v.length ≤ 65536) && decide (paxLen (restP k v).length ≤ 65536)) = true then AVal.tuple [.str (lineB k v), .lit .nilIface] else .tuple [.str [], .iface 58 (.int .i64 15)]) = .tuple [.str [], .iface 58 (.int .i64 15)] := if_neg (by simp [h2'])
    rw [e]
    rw [h2'] at h1
    have gg := trivial; repeat' first | simp (maxSteps := 2000000) (disch := omega) only [gg, b121, h1, go_sem] | (refine br ?_ ?_ <;> intro gg <;> try (exfalso; omega)) | (refine And.intro ?_ ?_; focus omega) | omega
theorem lineB_length {k v : List UInt8} (hk : k.length ≤ 100) (hv : v.length ≤ 65536) : (lineB k v).length ≤ k.length + v.length + 10 := by
  have hl := restP_length (k := k) (v := v)
  have h6 := paxLen_le (rest := ((restP k v).length : Int)) (by omega) (by omega)
  have := digs_le7 (a := paxLen (restP k v).length) (by omega) (by omega)
  unfold digs at this
  unfold lineB
  rw [List.length_append]
  omega
end Go.Abs
namespace Go.Abs
open Am
set_option maxRecDepth 10000
set_option linter.unusedSimpArgs false
structure Rcd where
  key : List UInt8
  value : List UInt8
def Rcd.av (r : Rcd) : AVal := .agg [.str r.key, .str r.value]
attribute [go_sem] Rcd.av
theorem s55a (k v : List UInt8) : callT AA 55 [.bool true, .str k, .str v, .ptr 0 0] [(0, .var [.lit (.slice none 0 0)])] = some (.tuple [], [(0, .var [.lit (.slice none 0 0)])]) := by
  refine enter fn55 np55 rfl ?_
  have gg := trivial; repeat' first | simp (maxSteps := 2000000) (disch := omega) only [gg, b55, go_sem] | (refine br ?_ ?_ <;> intro gg <;> try (exfalso; omega)) | (refine And.intro ?_ ?_; focus omega) | omega
theorem s55b (k v : List UInt8) : callT AA 55 [.bool false, .str k, .str v, .ptr 0 0] [(0, .var [.lit (.slice none 0 0)])] = some (.tuple [], [(0, .var [.own 1 2 0 1 false]), (1, .row [.agg [.str k, .str v]] 2)]) := by
  refine enter fn55 np55 rfl ?_
  have gg := trivial; repeat' first | simp (maxSteps := 2000000) (disch := omega) only [gg, b55, go_sem] | (refine br ?_ ?_ <;> intro gg <;> try (exfalso; omega)) | (refine And.intro ?_ ?_; focus omega) | omega
theorem s55c (k v : List UInt8) (n : Nat) (rs : List AVal) : callT AA 55 [.bool true, .str k, .str v, .ptr 0 0] [(0, .var [.own 1 2 0 n false]), (1, .row rs 2)] = some (.tuple [], [(0, .var [.own 1 2 0 n false]), (1, .row rs 2)]) := by
  refine enter fn55 np55 rfl ?_
  have gg := trivial; repeat' first | simp (maxSteps := 2000000) (disch := omega) only [gg, b55, go_sem] | (refine br ?_ ?_ <;> intro gg <;> try (exfalso; omega)) | (refine And.intro ?_ ?_; focus omega) | omega
theorem s55d (k v : List UInt8) (n : Nat) (rs : List AVal) (hn : n = rs.length) (hl : n ≤ 10000) : callT AA 55 [.bool false, .str k, .str v, .ptr 0 0] [(0, .var [.own 1 2 0 n false]), (1, .row rs 2)] = some (.tuple [], [(0, .var [.own 2 2 0 (n + 1) false]), (2, .row (rs ++ [.agg [.str k, .str v]]) 2)]) := by
  have h : rs.take n = rs := List.take_of_length_le (by omega)
  refine enter fn55 np55 rfl ?_
  have gg := trivial; repeat' first | simp (maxSteps := 2000000) (disch := omega) only [gg, b55, h, go_sem] | (refine br ?_ ?_ <;> intro gg <;> try (exfalso; omega)) | (refine And.intro ?_ ?_; focus omega) | omega
def gidB : List UInt8 := [103, 105, 100]
def linkpathB : List UInt8 := [108, 105, 110, 107, 112, 97, 116, 104]
def mtimeB : List UInt8 := [109, 116, 105, 109, 101]
def pathB : List UInt8 := [112, 97, 116, 104]
def uidB : List UInt8 := [117, 105, 100]
theorem gidB_eq : AVal.str [103, 105, 100] = .str gidB := rfl
theorem linkpathB_eq : AVal.str [108, 105, 110, 107, 112, 97, 116, 104] = .str linkpathB := rfl
theorem mtimeB_eq : AVal.str [109, 116, 105, 109, 101] = .str mtimeB := rfl
theorem pathB_eq : AVal.str [112, 97, 116, 104] = .str pathB := rfl
theorem uidB_eq : AVal.str [117, 105, 100] = .str uidB := rfl
def recIf (f : Bool) (k v : List UInt8) : List Rcd := if f then [] else [⟨k, v⟩]
def linkE (l : List UInt8) : Bool := decide (l = []) || linkB l
/-- bounds of an entry's numbers and texts -/
def EntB (e : Ent) : Prop := -9223372036854775808 ≤ e.gid ∧ e.gid ≤ 9223372036854775807 ∧ -9223372036854775808 ≤ e.uid ∧ e.uid ≤ 9223372036854775807 ∧ -9223372036854775808 ≤ e.time ∧ e.time ≤ 9223372036854775807 ∧ e.link.length ≤ 1000000 ∧ e.path.length ≤ 1000000
def recV (l : List Rcd) : AVal := if l = [] then .lit (.slice none 0 0) else .own 0 2 0 l.length false
def recH (l : List Rcd) : Heap := if l = [] then [] else [(0, .row (l.map Rcd.av) 2)]
def FinR (l : List Rcd) : FinP := Fin [(2, none)] 0 (recV l) (recH l)
theorem FinR_ne {l : List Rcd} (h : l ≠ []) : FinR l = Fin [(2, none)] 0 (.own 0 2 0 l.length false) [(0, .row (l.map Rcd.av) 2)] := by
  simp [FinR, recV, recH, h]
def p21_9 : ACode := .ret
def p21_8 : ACode := .seq (.reg false [] [⟨(some 49), (.ld 1 false (.t 3)), none⟩, ⟨(some 2), (.mov (.t 49)), none⟩]) p21_9
def p21_7 : ACode := .seq (.reg true [(0, 2), (0, 3), (2, 4), (3, 4), (0, 5), (1, 5), (2, 5), (3, 5), (0, 6)] [⟨(some 41), (.mov (.t 4)), none⟩, ⟨(some 42), (.fa 3 (.t 1)), none⟩, ⟨(some 43), (.ld 1 false (.t 42)), none⟩, ⟨(some 44), (.call (.c (.func (.func 46) [])) [(.t 43)]), none⟩, ⟨(some 45), (.fa 3 (.t 1)), none⟩, ⟨(some 46), (.ld 1 false (.t 45)), none⟩, ⟨(some 47), (.call (.c (.func (.func 56) [])) [(.t 46)]), none⟩, ⟨(some 48), (.call (.t 41) [(.t 44), (.c (.str [117, 105, 100])), (.t 47)]), none⟩]) p21_8
def p21_6 : ACode := .seq (.reg true [(0, 2), (0, 3), (2, 4), (3, 4), (0, 5), (1, 5), (2, 5), (3, 5)] [⟨(some 34), (.mov (.t 4)), none⟩, ⟨(some 35), (.fa 0 (.t 1)), none⟩, ⟨(some 36), (.ld 1 false (.t 35)), none⟩, ⟨(some 37), (.call (.c (.func (.func 44) [])) [(.t 36)]), none⟩, ⟨(some 38), (.fa 0 (.t 1)), none⟩, ⟨(some 39), (.ld 1 false (.t 38)), none⟩, ⟨(some 40), (.call (.t 34) [(.t 37), (.c (.str [112, 97, 116, 104])), (.t 39)]), none⟩]) p21_7
def p21_5 : ACode := .seq (.reg true [(0, 2), (0, 3), (2, 4), (3, 4), (0, 5), (1, 5), (2, 5), (3, 5), (0, 6)] [⟨(some 26), (.mov (.t 4)), none⟩, ⟨(some 27), (.fa 5 (.t 1)), none⟩, ⟨(some 28), (.ld 1 false (.t 27)), none⟩, ⟨(some 29), (.call (.c (.func (.func 48) [])) [(.t 28)]), none⟩, ⟨(some 30), (.fa 5 (.t 1)), none⟩, ⟨(some 31), (.ld 1 false (.t 30)), none⟩, ⟨(some 32), (.call (.c (.func (.func 56) [])) [(.t 31)]), none⟩, ⟨(some 33), (.call (.t 26) [(.t 29), (.c (.str [109, 116, 105, 109, 101])), (.t 32)]), none⟩]) p21_6
def p21_4 : ACode := .seq (.reg true [(0, 2), (0, 6), (0, 7), (2, 9), (6, 9), (7, 9), (0, 10), (1, 10), (2, 10), (3, 10), (4, 10), (5, 10), (6, 10), (7, 10), (8, 10)] [⟨(some 14), (.mov (.t 4)), none⟩, ⟨(some 15), (.fa 6 (.t 1)), none⟩, ⟨(some 16), (.ld 1 false (.t 15)), none⟩, ⟨(some 17), (.bin .eql .other true (.t 16) (.c (.str []))), none⟩, ⟨(some 18), (.mov (.t 17)), none⟩, ⟨(some 19), (.fa 6 (.t 1)), (some (18, false))⟩, ⟨(some 20), (.ld 1 false (.t 19)), (some (18, false))⟩, ⟨(some 21), (.call (.c (.func (.func 45) [])) [(.t 20)]), (some (18, false))⟩, ⟨(some 22), (.pick (.t 18) (.c (.bool true)) (.t 21)), none⟩, ⟨(some 23), (.fa 6 (.t 1)), none⟩, ⟨(some 24), (.ld 1 false (.t 23)), none⟩, ⟨(some 25), (.call (.t 14) [(.t 22), (.c (.str [108, 105, 110, 107, 112, 97, 116, 104])), (.t 24)]), none⟩]) p21_5
def p21_3 : ACode := .seq (.reg true [(0, 2), (0, 3), (2, 4), (3, 4), (0, 5), (1, 5), (2, 5), (3, 5), (0, 6)] [⟨(some 6), (.mov (.t 4)), none⟩, ⟨(some 7), (.fa 4 (.t 1)), none⟩, ⟨(some 8), (.ld 1 false (.t 7)), none⟩, ⟨(some 9), (.call (.c (.func (.func 46) [])) [(.t 8)]), none⟩, ⟨(some 10), (.fa 4 (.t 1)), none⟩, ⟨(some 11), (.ld 1 false (.t 10)), none⟩, ⟨(some 12), (.call (.c (.func (.func 56) [])) [(.t 11)]), none⟩, ⟨(some 13), (.call (.t 6) [(.t 9), (.c (.str [103, 105, 100])), (.t 12)]), none⟩]) p21_4
def p21_2 : ACode := .seq (.reg false [] [⟨(some 5), (.mkfn (.func 55) [(.t 3)]), none⟩, ⟨(some 4), (.mov (.t 5)), none⟩]) p21_3
def p21_1 : ACode := .seq (.reg false [] [⟨(some 3), (.alloc [(.lit (.slice none 0 0))]), none⟩]) p21_2
def p21_0 : ACode := .seq (.reg false [] [⟨(some 1), (.box (.t 0)), none⟩, ⟨(some 2), (.mov (.c (.lit (.slice none 0 0)))), none⟩]) p21_1
theorem b21_p : b21 = ⟨1, 50, [(2, none)], p21_0⟩ := rfl
def rst7 (e : Ent) : List Rcd := recIf (idB e.uid) uidB (Lib.itoa e.uid)
def rst6 (e : Ent) : List Rcd := recIf (splitN e.path).2.2 pathB e.path ++ rst7 e
def rst5 (e : Ent) : List Rcd := recIf (timeB e.time) mtimeB (Lib.itoa e.time) ++ rst6 e
def rst4 (e : Ent) : List Rcd := recIf (linkE e.link) linkpathB e.link ++ rst5 e
def rst3 (e : Ent) : List Rcd := recIf (idB e.gid) gidB (Lib.itoa e.gid) ++ rst4 e
def recsE (e : Ent) : List Rcd := rst3 e
theorem q21_8_own (e : Ent) (hb : EntB e) (l0 rs : List Rcd) (es : List AVal) (n r : Nat) (hr : 64 < r) (hn : n = rs.length) (he : es = rs.map Rcd.av) (hl : rs.length ≤ 8) (hne : rs ≠ []) (h : l0 = rs ++ []) :
    ∀ x5 x6 x7 x8 x9 x10 x11 x12 x13 x14 x15 x16 x17 x18 x19 x20 x21 x22 x23 x24 x25 x26 x27 x28 x29 x30 x31 x32 x33 x34 x35 x36 x37 x38 x39 x40 x41 x42 x43 x44 x45 x46 x47 x48 : AVal, EX AA 0 p21_8 ⟨[e.av, .ptr 0 0, .lit (.slice none 0 0), .ptr 64 0, .func (.func 55) [.ptr 64 0], x5, x6, x7, x8, x9, x10, x11, x12, x13, x14, x15, x16, x17, x18, x19, x20, x21, x22, x23, x24, x25, x26, x27, x28, x29, x30, x31, x32, x33, x34, x35, x36, x37, x38, x39, x40, x41, x42, x43, x44, x45, x46, x47, x48, .lit Go.undef], [(0, .var e.av.cells), (64, .var [.own r 2 0 n false]), (r, .row es 2)], 1536⟩ [] (FinR l0) := by
  intro x5 x6 x7 x8 x9 x10 x11 x12 x13 x14 x15 x16 x17 x18 x19 x20 x21 x22 x23 x24 x25 x26 x27 x28 x29 x30 x31 x32 x33 x34 x35 x36 x37 x38 x39 x40 x41 x42 x43 x44 x45 x46 x47 x48
  have a0 : (0 = r) = False := by simp; omega
  have b0 : (0 == r) = false := by simp; omega
  have a1 : (r = 0) = False := by simp; omega
  have b1 : (r == 0) = false := by simp; omega
  have a2 : (64 = r) = False := by simp; omega
  have b2 : (64 == r) = false := by simp; omega
  have a3 : (r = 64) = False := by simp; omega
  have b3 : (r == 64) = false := by simp; omega
  have h0 : FinR l0 = Fin [(2, none)] 0 (.own 0 2 0 n false) [(0, .row es 2)] := by
    have hl0 : l0 = rs := by rw [h, List.append_nil]
    rw [FinR_ne (by rw [hl0]; exact hne), hl0, hn, he]
  have h1 : n = es.length := by rw [he, hn, List.length_map]
  rw [h0]
  have gg := trivial; repeat' first | simp (maxSteps := 2000000) (disch := omega) only [gg, p21_8, p21_9, a0, a1, a2, a3, b0, b1, b2, b3, beq_self_eq_true, go_sem] | (refine br ?_ ?_ <;> intro gg <;> try (exfalso; omega)) | (refine And.intro ?_ ?_; focus omega) | omega
theorem q21_8_nil (e : Ent) (hb : EntB e) (l0 : List Rcd) (h : l0 = []) :
    ∀ x5 x6 x7 x8 x9 x10 x11 x12 x13 x14 x15 x16 x17 x18 x19 x20 x21 x22 x23 x24 x25 x26 x27 x28 x29 x30 x31 x32 x33 x34 x35 x36 x37 x38 x39 x40 x41 x42 x43 x44 x45 x46 x47 x48 : AVal, EX AA 0 p21_8 ⟨[e.av, .ptr 0 0, .lit (.slice none 0 0), .ptr 64 0, .func (.func 55) [.ptr 64 0], x5, x6, x7, x8, x9, x10, x11, x12, x13, x14, x15, x16, x17, x18, x19, x20, x21, x22, x23, x24, x25, x26, x27, x28, x29, x30, x31, x32, x33, x34, x35, x36, x37, x38, x39, x40, x41, x42, x43, x44, x45, x46, x47, x48, .lit Go.undef], [(0, .var e.av.cells), (64, .var [.lit (.slice none 0 0)])], 1536⟩ [] (FinR l0) := by
  intro x5 x6 x7 x8 x9 x10 x11 x12 x13 x14 x15 x16 x17 x18 x19 x20 x21 x22 x23 x24 x25 x26 x27 x28 x29 x30 x31 x32 x33 x34 x35 x36 x37 x38 x39 x40 x41 x42 x43 x44 x45 x46 x47 x48
  have h0 : FinR l0 = Fin [(2, none)] 0 (.lit (.slice none 0 0)) [] := by rw [h]; rfl
  rw [h0]
  have gg := trivial; repeat' first | simp (maxSteps := 2000000) (disch := omega) only [gg, p21_8, p21_9, go_sem] | (refine br ?_ ?_ <;> intro gg <;> try (exfalso; omega)) | (refine And.intro ?_ ?_; focus omega) | omega
theorem q21_7_own (e : Ent) (hb : EntB e) (l0 rs : List Rcd) (es : List AVal) (n r : Nat) (hr : 64 < r) (hn : n = rs.length) (he : es = rs.map Rcd.av) (hl : rs.length ≤ 7) (hne : rs ≠ []) (h : l0 = rs ++ rst7 e) :
    ∀ x5 x6 x7 x8 x9 x10 x11 x12 x13 x14 x15 x16 x17 x18 x19 x20 x21 x22 x23 x24 x25 x26 x27 x28 x29 x30 x31 x32 x33 x34 x35 x36 x37 x38 x39 x40 : AVal, EX AA 0 p21_7 ⟨[e.av, .ptr 0 0, .lit (.slice none 0 0), .ptr 64 0, .func (.func 55) [.ptr 64 0], x5, x6, x7, x8, x9, x10, x11, x12, x13, x14, x15, x16, x17, x18, x19, x20, x21, x22, x23, x24, x25, x26, x27, x28, x29, x30, x31, x32, x33, x34, x35, x36, x37, x38, x39, x40, .lit Go.undef, .lit Go.undef, .lit Go.undef, .lit Go.undef, .lit Go.undef, .lit Go.undef, .lit Go.undef, .lit Go.undef, .lit Go.undef], [(0, .var e.av.cells), (64, .var [.own r 2 0 n false]), (r, .row es 2)], 1280⟩ [] (FinR l0) := by
  intro x5 x6 x7 x8 x9 x10 x11 x12 x13 x14 x15 x16 x17 x18 x19 x20 x21 x22 x23 x24 x25 x26 x27 x28 x29 x30 x31 x32 x33 x34 x35 x36 x37 x38 x39 x40
  have a0 : (0 = r) = False := by simp; omega
  have b0 : (0 == r) = false := by simp; omega
  have a1 : (r = 0) = False := by simp; omega
  have b1 : (r == 0) = false := by simp; omega
  have a2 : (64 = r) = False := by simp; omega
  have b2 : (64 == r) = false := by simp; omega
  have a3 : (r = 64) = False := by simp; omega
  have b3 : (r == 64) = false := by simp; omega
  have c := i46 e.uid
  have d := s56 e.uid hb.2.2.1 hb.2.2.2.1
  have w := s55d uidB (Lib.itoa e.uid) n es (by rw [he, hn, List.length_map]) (by omega)
  unfold rst7 at h
  cases hf : (idB e.uid) with
  | true =>
    rw [hf] at c h
    have ih := q21_8_own e hb l0 rs es n r hr hn he (by omega) hne (by rw [h]; simp [recIf])
    have gg := trivial; repeat' first | simp (maxSteps := 2000000) (disch := omega) only [gg, p21_7, c, d, a0, a1, a2, a3, b0, b1, b2, b3, beq_self_eq_true, s55c, uidB_eq, go_sem] | (refine br ?_ ?_ <;> intro gg <;> try (exfalso; omega)) | (refine And.intro ?_ ?_; focus omega) | omega
    apply ih
  | false =>
    rw [hf] at c h
    have ih := fun r hr => q21_8_own e hb l0 (rs ++ [⟨uidB, (Lib.itoa e.uid)⟩]) (es ++ [.agg [.str uidB, .str (Lib.itoa e.uid)]]) (n + 1) r hr (by simp [hn]) (by simp [he, Rcd.av]) (by simp; omega) (by simp) (by rw [h]; simp [recIf])
    have gg := trivial; repeat' first | simp (maxSteps := 2000000) (disch := omega) only [gg, p21_7, c, d, a0, a1, a2, a3, b0, b1, b2, b3, beq_self_eq_true, w, uidB_eq, go_sem] | (refine br ?_ ?_ <;> intro gg <;> try (exfalso; omega)) | (refine And.intro ?_ ?_; focus omega) | omega
    apply ih
    omega
theorem q21_7_nil (e : Ent) (hb : EntB e) (l0 : List Rcd) (h : l0 = rst7 e) :
    ∀ x5 x6 x7 x8 x9 x10 x11 x12 x13 x14 x15 x16 x17 x18 x19 x20 x21 x22 x23 x24 x25 x26 x27 x28 x29 x30 x31 x32 x33 x34 x35 x36 x37 x38 x39 x40 : AVal, EX AA 0 p21_7 ⟨[e.av, .ptr 0 0, .lit (.slice none 0 0), .ptr 64 0, .func (.func 55) [.ptr 64 0], x5, x6, x7, x8, x9, x10, x11, x12, x13, x14, x15, x16, x17, x18, x19, x20, x21, x22, x23, x24, x25, x26, x27, x28, x29, x30, x31, x32, x33, x34, x35, x36, x37, x38, x39, x40, .lit Go.undef, .lit Go.undef, .lit Go.undef, .lit Go.undef, .lit Go.undef, .lit Go.undef, .lit Go.undef, .lit Go.undef, .lit Go.undef], [(0, .var e.av.cells), (64, .var [.lit (.slice none 0 0)])], 1280⟩ [] (FinR l0) := by
  intro x5 x6 x7 x8 x9 x10 x11 x12 x13 x14 x15 x16 x17 x18 x19 x20 x21 x22 x23 x24 x25 x26 x27 x28 x29 x30 x31 x32 x33 x34 x35 x36 x37 x38 x39 x40
  have c := i46 e.uid
  have d := s56 e.uid hb.2.2.1 hb.2.2.2.1
  have w := s55b uidB (Lib.itoa e.uid)
  unfold rst7 at h
  cases hf : (idB e.uid) with
  | true =>
    rw [hf] at c h
    have ih := q21_8_nil e hb l0 (by rw [h]; simp [recIf])
    have gg := trivial; repeat' first | simp (maxSteps := 2000000) (disch := omega) only [gg, p21_7, c, d, s55a, go_sem] | (refine br ?_ ?_ <;> intro gg <;> try (exfalso; omega)) | (refine And.intro ?_ ?_; focus omega) | omega
    apply ih
  | false =>
    rw [hf] at c h
    have ih := fun r hr => q21_8_own e hb l0 [⟨uidB, (Lib.itoa e.uid)⟩] [.agg [.str uidB, .str (Lib.itoa e.uid)]] 1 r hr rfl rfl (by simp) (by simp) (by rw [h]; simp [recIf])
    have gg := trivial; repeat' first | simp (maxSteps := 2000000) (disch := omega) only [gg, p21_7, c, d, w, uidB_eq, go_sem] | (refine br ?_ ?_ <;> intro gg <;> try (exfalso; omega)) | (refine And.intro ?_ ?_; focus omega) | omega
    apply ih
    omega
theorem q21_6_own (e : Ent) (hb : EntB e) (l0 rs : List Rcd) (es : List AVal) (n r : Nat) (hr : 64 < r) (hn : n = rs.length) (he : es = rs.map Rcd.av) (hl : rs.length ≤ 6) (hne : rs ≠ []) (h : l0 = rs ++ rst6 e) :
    ∀ x5 x6 x7 x8 x9 x10 x11 x12 x13 x14 x15 x16 x17 x18 x19 x20 x21 x22 x23 x24 x25 x26 x27 x28 x29 x30 x31 x32 x33 : AVal, EX AA 0 p21_6 ⟨[e.av, .ptr 0 0, .lit (.slice none 0 0), .ptr 64 0, .func (.func 55) [.ptr 64 0], x5, x6, x7, x8, x9, x10, x11, x12, x13, x14, x15, x16, x17, x18, x19, x20, x21, x22, x23, x24, x25, x26, x27, x28, x29, x30, x31, x32, x33, .lit Go.undef, .lit Go.undef, .lit Go.undef, .lit Go.undef, .lit Go.undef, .lit Go.undef, .lit Go.undef, .lit Go.undef, .lit Go.undef, .lit Go.undef, .lit Go.undef, .lit Go.undef, .lit Go.undef, .lit Go.undef, .lit Go.undef, .lit Go.undef], [(0, .var e.av.cells), (64, .var [.own r 2 0 n false]), (r, .row es 2)], 1056⟩ [] (FinR l0) := by
  intro x5 x6 x7 x8 x9 x10 x11 x12 x13 x14 x15 x16 x17 x18 x19 x20 x21 x22 x23 x24 x25 x26 x27 x28 x29 x30 x31 x32 x33
  have a0 : (0 = r) = False := by simp; omega
  have b0 : (0 == r) = false := by simp; omega
  have a1 : (r = 0) = False := by simp; omega
  have b1 : (r == 0) = false := by simp; omega
  have a2 : (64 = r) = False := by simp; omega
  have b2 : (64 == r) = false := by simp; omega
  have a3 : (r = 64) = False := by simp; omega
  have b3 : (r == 64) = false := by simp; omega
  have c := s44 e.path hb.2.2.2.2.2.2.2
  have w := s55d pathB e.path n es (by rw [he, hn, List.length_map]) (by omega)
  unfold rst6 at h
  cases hf : (splitN e.path).2.2 with
  | true =>
    rw [hf] at c h
    have ih := q21_7_own e hb l0 rs es n r hr hn he (by omega) hne (by rw [h]; simp [recIf])
    have gg := trivial; repeat' first | simp (maxSteps := 2000000) (disch := omega) only [gg, p21_6, c, a0, a1, a2, a3, b0, b1, b2, b3, beq_self_eq_true, s55c, pathB_eq, go_sem] | (refine br ?_ ?_ <;> intro gg <;> try (exfalso; omega)) | (refine And.intro ?_ ?_; focus omega) | omega
    apply ih
  | false =>
    rw [hf] at c h
    have ih := fun r hr => q21_7_own e hb l0 (rs ++ [⟨pathB, e.path⟩]) (es ++ [.agg [.str pathB, .str e.path]]) (n + 1) r hr (by simp [hn]) (by simp [he, Rcd.av]) (by simp; omega) (by simp) (by rw [h]; simp [recIf])
    have gg := trivial; repeat' first | simp (maxSteps := 2000000) (disch := omega) only [gg, p21_6, c, a0, a1, a2, a3, b0, b1, b2, b3, beq_self_eq_true, w, pathB_eq, go_sem] | (refine br ?_ ?_ <;> intro gg <;> try (exfalso; omega)) | (refine And.intro ?_ ?_; focus omega) | omega
    apply ih
    omega
theorem q21_6_nil (e : Ent) (hb : EntB e) (l0 : List Rcd) (h : l0 = rst6 e) :
    ∀ x5 x6 x7 x8 x9 x10 x11 x12 x13 x14 x15 x16 x17 x18 x19 x20 x21 x22 x23 x24 x25 x26 x27 x28 x29 x30 x31 x32 x33 : AVal, EX AA 0 p21_6 ⟨[e.av, .ptr 0 0, .lit (.slice none 0 0), .ptr 64 0, .func (.func 55) [.ptr 64 0], x5, x6, x7, x8, x9, x10, x11, x12, x13, x14, x15, x16, x17, x18, x19, x20, x21, x22, x23, x24, x25, x26, x27, x28, x29, x30, x31, x32, x33, .lit Go.undef, .lit Go.undef, .lit Go.undef, .lit Go.undef, .lit Go.undef, .lit Go.undef, .lit Go.undef, .lit Go.undef, .lit Go.undef, .lit Go.undef, .lit Go.undef, .lit Go.undef, .lit Go.undef, .lit Go.undef, .lit Go.undef, .lit Go.undef], [(0, .var e.av.cells), (64, .var [.lit (.slice none 0 0)])], 1056⟩ [] (FinR l0) := by
  intro x5 x6 x7 x8 x9 x10 x11 x12 x13 x14 x15 x16 x17 x18 x19 x20 x21 x22 x23 x24 x25 x26 x27 x28 x29 x30 x31 x32 x33
  have c := s44 e.path hb.2.2.2.2.2.2.2
  have w := s55b pathB e.path
  unfold rst6 at h
  cases hf : (splitN e.path).2.2 with
  | true =>
    rw [hf] at c h
    have ih := q21_7_nil e hb l0 (by rw [h]; simp [recIf])
    have gg := trivial; repeat' first | simp (maxSteps := 2000000) (disch := omega) only [gg, p21_6, c, s55a, go_sem] | (refine br ?_ ?_ <;> intro gg <;> try (exfalso; omega)) | (refine And.intro ?_ ?_; focus omega) | omega
    apply ih
  | false =>
    rw [hf] at c h
    have ih := fun r hr => q21_7_own e hb l0 [⟨pathB, e.path⟩] [.agg [.str pathB, .str e.path]] 1 r hr rfl rfl (by simp) (by simp) (by rw [h]; simp [recIf])
    have gg := trivial; repeat' first | simp (maxSteps := 2000000) (disch := omega) only [gg, p21_6, c, w, pathB_eq, go_sem] | (refine br ?_ ?_ <;> intro gg <;> try (exfalso; omega)) | (refine And.intro ?_ ?_; focus omega) | omega
    apply ih
    omega
theorem q21_5_own (e : Ent) (hb : EntB e) (l0 rs : List Rcd) (es : List AVal) (n r : Nat) (hr : 64 < r) (hn : n = rs.length) (he : es = rs.map Rcd.av) (hl : rs.length ≤ 5) (hne : rs ≠ []) (h : l0 = rs ++ rst5 e) :
    ∀ x5 x6 x7 x8 x9 x10 x11 x12 x13 x14 x15 x16 x17 x18 x19 x20 x21 x22 x23 x24 x25 : AVal, EX AA 0 p21_5 ⟨[e.av, .ptr 0 0, .lit (.slice none 0 0), .ptr 64 0, .func (.func 55) [.ptr 64 0], x5, x6, x7, x8, x9, x10, x11, x12, x13, x14, x15, x16, x17, x18, x19, x20, x21, x22, x23, x24, x25, .lit Go.undef, .lit Go.undef, .lit Go.undef, .lit Go.undef, .lit Go.undef, .lit Go.undef, .lit Go.undef, .lit Go.undef, .lit Go.undef, .lit Go.undef, .lit Go.undef, .lit Go.undef, .lit Go.undef, .lit Go.undef, .lit Go.undef, .lit Go.undef, .lit Go.undef, .lit Go.undef, .lit Go.undef, .lit Go.undef, .lit Go.undef, .lit Go.undef, .lit Go.undef, .lit Go.undef], [(0, .var e.av.cells), (64, .var [.own r 2 0 n false]), (r, .row es 2)], 800⟩ [] (FinR l0) := by
  intro x5 x6 x7 x8 x9 x10 x11 x12 x13 x14 x15 x16 x17 x18 x19 x20 x21 x22 x23 x24 x25
  have a0 : (0 = r) = False := by simp; omega
  have b0 : (0 == r) = false := by simp; omega
  have a1 : (r = 0) = False := by simp; omega
  have b1 : (r == 0) = false := by simp; omega
  have a2 : (64 = r) = False := by simp; omega
  have b2 : (64 == r) = false := by simp; omega
  have a3 : (r = 64) = False := by simp; omega
  have b3 : (r == 64) = false := by simp; omega
  have c := i48 e.time
  have d := s56 e.time hb.2.2.2.2.1 hb.2.2.2.2.2.1
  have w := s55d mtimeB (Lib.itoa e.time) n es (by rw [he, hn, List.length_map]) (by omega)
  unfold rst5 at h
  cases hf : (timeB e.time) with
  | true =>
    rw [hf] at c h
    have ih := q21_6_own e hb l0 rs es n r hr hn he (by omega) hne (by rw [h]; simp [recIf])
    have gg := trivial; repeat' first | simp (maxSteps := 2000000) (disch := omega) only [gg, p21_5, c, d, a0, a1, a2, a3, b0, b1, b2, b3, beq_self_eq_true, s55c, mtimeB_eq, go_sem] | (refine br ?_ ?_ <;> intro gg <;> try (exfalso; omega)) | (refine And.intro ?_ ?_; focus omega) | omega
    apply ih
  | false =>
    rw [hf] at c h
    have ih := fun r hr => q21_6_own e hb l0 (rs ++ [⟨mtimeB, (Lib.itoa e.time)⟩]) (es ++ [.agg [.str mtimeB, .str (Lib.itoa e.time)]]) (n + 1) r hr (by simp [hn]) (by simp [he, Rcd.av]) (by simp; omega) (by simp) (by rw [h]; simp [recIf])
    have gg := trivial; repeat' first | simp (maxSteps := 2000000) (disch := omega) only [gg, p21_5, c, d, a0, a1, a2, a3, b0, b1, b2, b3, beq_self_eq_true, w, mtimeB_eq, go_sem] | (refine br ?_ ?_ <;> intro gg <;> try (exfalso; omega)) | (refine And.intro ?_ ?_; focus omega) | omega
    apply ih
    omega
theorem q21_5_nil (e : Ent) (hb : EntB e) (l0 : List Rcd) (h : l0 = rst5 e) :
    ∀ x5 x6 x7 x8 x9 x10 x11 x12 x13 x14 x15 x16 x17 x18 x19 x20 x21 x22 x23 x24 x25 : AVal, EX AA 0 p21_5 ⟨[e.av, .ptr 0 0, .lit (.slice none 0 0), .ptr 64 0, .func (.func 55) [.ptr 64 0], x5, x6, x7, x8, x9, x10, x11, x12, x13, x14, x15, x16, x17, x18, x19, x20, x21, x22, x23, x24, x25, .lit Go.undef, .lit Go.undef, .lit Go.undef, .lit Go.undef, .lit Go.undef, .lit Go.undef, .lit Go.undef, .lit Go.undef, .lit Go.undef, .lit Go.undef, .lit Go.undef, .lit Go.undef, .lit Go.undef, .lit Go.undef, .lit Go.undef, .lit Go.undef, .lit Go.undef, .lit Go.undef, .lit Go.undef, .lit Go.undef, .lit Go.undef, .lit Go.undef, .lit Go.undef, .lit Go.undef], [(0, .var e.av.cells), (64, .var [.lit (.slice none 0 0)])], 800⟩ [] (FinR l0) := by
  intro x5 x6 x7 x8 x9 x10 x11 x12 x13 x14 x15 x16 x17 x18 x19 x20 x21 x22 x23 x24 x25
  have c := i48 e.time
  have d := s56 e.time hb.2.2.2.2.1 hb.2.2.2.2.2.1
  have w := s55b mtimeB (Lib.itoa e.time)
  unfold rst5 at h
  cases hf : (timeB e.time) with
  | true =>
    rw [hf] at c h
    have ih := q21_6_nil e hb l0 (by rw [h]; simp [recIf])
    have gg := trivial; repeat' first | simp (maxSteps := 2000000) (disch := omega) only [gg, p21_5, c, d, s55a, go_sem] | (refine br ?_ ?_ <;> intro gg <;> try (exfalso; omega)) | (refine And.intro ?_ ?_; focus omega) | omega
    apply ih
  | false =>
    rw [hf] at c h
    have ih := fun r hr => q21_6_own e hb l0 [⟨mtimeB, (Lib.itoa e.time)⟩] [.agg [.str mtimeB, .str (Lib.itoa e.time)]] 1 r hr rfl rfl (by simp) (by simp) (by rw [h]; simp [recIf])
    have gg := trivial; repeat' first | simp (maxSteps := 2000000) (disch := omega) only [gg, p21_5, c, d, w, mtimeB_eq, go_sem] | (refine br ?_ ?_ <;> intro gg <;> try (exfalso; omega)) | (refine And.intro ?_ ?_; focus omega) | omega
    apply ih
    omega
theorem q21_4_own (e : Ent) (hb : EntB e) (l0 rs : List Rcd) (es : List AVal) (n r : Nat) (hr : 64 < r) (hn : n = rs.length) (he : es = rs.map Rcd.av) (hl : rs.length ≤ 4) (hne : rs ≠ []) (h : l0 = rs ++ rst4 e) :
    ∀ x5 x6 x7 x8 x9 x10 x11 x12 x13 : AVal, EX AA 0 p21_4 ⟨[e.av, .ptr 0 0, .lit (.slice none 0 0), .ptr 64 0, .func (.func 55) [.ptr 64 0], x5, x6, x7, x8, x9, x10, x11, x12, x13, .lit Go.undef, .lit Go.undef, .lit Go.undef, .lit Go.undef, .lit Go.undef, .lit Go.undef, .lit Go.undef, .lit Go.undef, .lit Go.undef, .lit Go.undef, .lit Go.undef, .lit Go.undef, .lit Go.undef, .lit Go.undef, .lit Go.undef, .lit Go.undef, .lit Go.undef, .lit Go.undef, .lit Go.undef, .lit Go.undef, .lit Go.undef, .lit Go.undef, .lit Go.undef, .lit Go.undef, .lit Go.undef, .lit Go.undef, .lit Go.undef, .lit Go.undef, .lit Go.undef, .lit Go.undef, .lit Go.undef, .lit Go.undef, .lit Go.undef, .lit Go.undef, .lit Go.undef, .lit Go.undef], [(0, .var e.av.cells), (64, .var [.own r 2 0 n false]), (r, .row es 2)], 416⟩ [] (FinR l0) := by
  intro x5 x6 x7 x8 x9 x10 x11 x12 x13
  have a0 : (0 = r) = False := by simp; omega
  have b0 : (0 == r) = false := by simp; omega
  have a1 : (r = 0) = False := by simp; omega
  have b1 : (r == 0) = false := by simp; omega
  have a2 : (64 = r) = False := by simp; omega
  have b2 : (64 == r) = false := by simp; omega
  have a3 : (r = 64) = False := by simp; omega
  have b3 : (r == 64) = false := by simp; omega
  have c := i45 e.link hb.2.2.2.2.2.2.1
  have w := s55d linkpathB e.link n es (by rw [he, hn, List.length_map]) (by omega)
  unfold rst4 at h
  unfold linkE at h
  by_cases hz : e.link = []
  · have ih := q21_5_own e hb l0 rs es n r hr hn he (by omega) hne (by rw [h]; simp [recIf, hz])
    have gg := trivial; repeat' first | simp (maxSteps := 2000000) (disch := omega) only [gg, p21_4, c, a0, a1, a2, a3, b0, b1, b2, b3, beq_self_eq_true, s55c, w, decide_eq_true hz, linkpathB_eq, go_sem] | (refine br ?_ ?_ <;> intro gg <;> try (exfalso; omega)) | (refine And.intro ?_ ?_; focus omega) | omega
    apply ih
  have hz2 : decide (e.link = []) = false := decide_eq_false hz
  rw [hz2, Bool.false_or] at h
  cases hf : linkB e.link with
  | true =>
    rw [hf] at c h
    have ih := q21_5_own e hb l0 rs es n r hr hn he (by omega) hne (by rw [h]; simp [recIf])
    have gg := trivial; repeat' first | simp (maxSteps := 2000000) (disch := omega) only [gg, p21_4, c, a0, a1, a2, a3, b0, b1, b2, b3, beq_self_eq_true, s55c, hz, linkpathB_eq, go_sem] | (refine br ?_ ?_ <;> intro gg <;> try (exfalso; omega)) | (refine And.intro ?_ ?_; focus omega) | omega
    apply ih
  | false =>
    rw [hf] at c h
    have ih := fun r hr => q21_5_own e hb l0 (rs ++ [⟨linkpathB, e.link⟩]) (es ++ [.agg [.str linkpathB, .str e.link]]) (n + 1) r hr (by simp [hn]) (by simp [he, Rcd.av]) (by simp; omega) (by simp) (by rw [h]; simp [recIf])
    have gg := trivial; repeat' first | simp (maxSteps := 2000000) (disch := omega) only [gg, p21_4, c, a0, a1, a2, a3, b0, b1, b2, b3, beq_self_eq_true, w, hz, linkpathB_eq, go_sem] | (refine br ?_ ?_ <;> intro gg <;> try (exfalso; omega)) | (refine And.intro ?_ ?_; focus omega) | omega
    apply ih
    omega
theorem q21_4_nil (e : Ent) (hb : EntB e) (l0 : List Rcd) (h : l0 = rst4 e) :
    ∀ x5 x6 x7 x8 x9 x10 x11 x12 x13 : AVal, EX AA 0 p21_4 ⟨[e.av, .ptr 0 0, .lit (.slice none 0 0), .ptr 64 0, .func (.func 55) [.ptr 64 0], x5, x6, x7, x8, x9, x10, x11, x12, x13, .lit Go.undef, .lit Go.undef, .lit Go.undef, .lit Go.undef, .lit Go.undef, .lit Go.undef, .lit Go.undef, .lit Go.undef, .lit Go.undef, .lit Go.undef, .lit Go.undef, .lit Go.undef, .lit Go.undef, .lit Go.undef, .lit Go.undef, .lit Go.undef, .lit Go.undef, .lit Go.undef, .lit Go.undef, .lit Go.undef, .lit Go.undef, .lit Go.undef, .lit Go.undef, .lit Go.undef, .lit Go.undef, .lit Go.undef, .lit Go.undef, .lit Go.undef, .lit Go.undef, .lit Go.undef, .lit Go.undef, .lit Go.undef, .lit Go.undef, .lit Go.undef, .lit Go.undef, .lit Go.undef], [(0, .var e.av.cells), (64, .var [.lit (.slice none 0 0)])], 416⟩ [] (FinR l0) := by
  intro x5 x6 x7 x8 x9 x10 x11 x12 x13
  have c := i45 e.link hb.2.2.2.2.2.2.1
  have w := s55b linkpathB e.link
  unfold rst4 at h
  unfold linkE at h
  by_cases hz : e.link = []
  · have ih := q21_5_nil e hb l0 (by rw [h]; simp [recIf, hz])
    have gg := trivial; repeat' first | simp (maxSteps := 2000000) (disch := omega) only [gg, p21_4, c, s55a, decide_eq_true hz, go_sem] | (refine br ?_ ?_ <;> intro gg <;> try (exfalso; omega)) | (refine And.intro ?_ ?_; focus omega) | omega
    apply ih
  have hz2 : decide (e.link = []) = false := decide_eq_false hz
  rw [hz2, Bool.false_or] at h
  cases hf : linkB e.link with
  | true =>
    rw [hf] at c h
    have ih := q21_5_nil e hb l0 (by rw [h]; simp [recIf])
    have gg := trivial; repeat' first | simp (maxSteps := 2000000) (disch := omega) only [gg, p21_4, c, s55a, hz, go_sem] | (refine br ?_ ?_ <;> intro gg <;> try (exfalso; omega)) | (refine And.intro ?_ ?_; focus omega) | omega
    apply ih
  | false =>
    rw [hf] at c h
    have ih := fun r hr => q21_5_own e hb l0 [⟨linkpathB, e.link⟩] [.agg [.str linkpathB, .str e.link]] 1 r hr rfl rfl (by simp) (by simp) (by rw [h]; simp [recIf])
    have gg := trivial; repeat' first | simp (maxSteps := 2000000) (disch := omega) only [gg, p21_4, c, w, hz, linkpathB_eq, go_sem] | (refine br ?_ ?_ <;> intro gg <;> try (exfalso; omega)) | (refine And.intro ?_ ?_; focus omega) | omega
    apply ih
    omega
theorem q21_3_nil (e : Ent) (hb : EntB e) (l0 : List Rcd) (h : l0 = rst3 e) :
    ∀ x5 : AVal, EX AA 0 p21_3 ⟨[e.av, .ptr 0 0, .lit (.slice none 0 0), .ptr 64 0, .func (.func 55) [.ptr 64 0], x5, .lit Go.undef, .lit Go.undef, .lit Go.undef, .lit Go.undef, .lit Go.undef, .lit Go.undef, .lit Go.undef, .lit Go.undef, .lit Go.undef, .lit Go.undef, .lit Go.undef, .lit Go.undef, .lit Go.undef, .lit Go.undef, .lit Go.undef, .lit Go.undef, .lit Go.undef, .lit Go.undef, .lit Go.undef, .lit Go.undef, .lit Go.undef, .lit Go.undef, .lit Go.undef, .lit Go.undef, .lit Go.undef, .lit Go.undef, .lit Go.undef, .lit Go.undef, .lit Go.undef, .lit Go.undef, .lit Go.undef, .lit Go.undef, .lit Go.undef, .lit Go.undef, .lit Go.undef, .lit Go.undef, .lit Go.undef, .lit Go.undef, .lit Go.undef, .lit Go.undef, .lit Go.undef, .lit Go.undef, .lit Go.undef, .lit Go.undef], [(0, .var e.av.cells), (64, .var [.lit (.slice none 0 0)])], 160⟩ [] (FinR l0) := by
  intro x5
  have c := i46 e.gid
  have d := s56 e.gid hb.1 hb.2.1
  have w := s55b gidB (Lib.itoa e.gid)
  unfold rst3 at h
  cases hf : (idB e.gid) with
  | true =>
    rw [hf] at c h
    have ih := q21_4_nil e hb l0 (by rw [h]; simp [recIf])
    have gg := trivial; repeat' first | simp (maxSteps := 2000000) (disch := omega) only [gg, p21_3, c, d, s55a, go_sem] | (refine br ?_ ?_ <;> intro gg <;> try (exfalso; omega)) | (refine And.intro ?_ ?_; focus omega) | omega
    apply ih
  | false =>
    rw [hf] at c h
    have ih := fun r hr => q21_4_own e hb l0 [⟨gidB, (Lib.itoa e.gid)⟩] [.agg [.str gidB, .str (Lib.itoa e.gid)]] 1 r hr rfl rfl (by simp) (by simp) (by rw [h]; simp [recIf])
    have gg := trivial; repeat' first | simp (maxSteps := 2000000) (disch := omega) only [gg, p21_3, c, d, w, gidB_eq, go_sem] | (refine br ?_ ?_ <;> intro gg <;> try (exfalso; omega)) | (refine And.intro ?_ ?_; focus omega) | omega
    apply ih
    omega
theorem s21 (e : Ent) (hb : EntB e) : callT AA 21 [e.av] [] = some (recV (recsE e), recH (recsE e)) := by
  have ih := q21_3_nil e hb _ rfl
  refine enter fn21 np21 rfl ?_
  rw [b21_p]
  show EX AA 0 p21_0 _ [] (FinR (recsE e))
  have gg := trivial; repeat' first | simp (maxSteps := 2000000) (disch := omega) only [gg, p21_0, p21_1, p21_2, go_sem] | (refine br ?_ ?_ <;> intro gg <;> try (exfalso; omega)) | (refine And.intro ?_ ?_; focus omega) | omega
  exact ih _
end Go.Abs
namespace Go.Abs
open Am
set_option maxRecDepth 10000
set_option linter.unusedSimpArgs false
def paxStep (prev : Option Rcd) (out : List UInt8) (r : Rcd) : Bool :=
  lineOk r.key r.value && (match prev with | none => true | some p => Op.bytesLess p.key r.key) && decide (out.length + (lineB r.key r.value).length ≤ 65536)
def paxE (prev : Option Rcd) (out : List UInt8) : List Rcd → Option (List UInt8)
  | [] => some out
  | r :: rs => if paxStep prev out r = true then paxE (some r) (out ++ lineB r.key r.value) rs else none
def paxV (x : Option (List UInt8)) : AVal := match x with
  | none => .tuple [.lit (.slice none 0 0), .iface 58 (.int .i64 15)]
  | some o => .tuple [.own 0 1 0 o.length false, .lit .nilIface]
def paxH (x : Option (List UInt8)) : Heap := match x with
  | none => []
  | some o => [(0, .row (o.map .byte) 1)]
def RcdOk (r : Rcd) : Prop := r.key.length ≤ 1000000 ∧ r.value.length ≤ 1000000
theorem h109 (c t : Bool) (rs : List Rcd) (hs : rs.length ≤ 1000000) (hb : ∀ r ∈ rs, RcdOk r) (r0 : Option (List UInt8)) : ∀ (rest done : List Rcd) (p : Rcd) (out : List UInt8) (n i : Int) (q : Nat), rs = done ++ p :: rest → i = done.length + 1 → n = rs.length → q = out.length → out.length ≤ 65536 → r0 = paxE (some p) out rest →
    HD AA 0 [0, 2, 3, 4, 9, 10, 11] l109_0 ⟨[.view 2 (rs.map Rcd.av) c t, .junk, .lit (.slice none 0 0), .lit .nilIface, .own 0 1 0 q false, .junk, .junk, .junk, .junk, .view 2 (rs.map Rcd.av) c t, .int .i64 n, .int .i64 i, .junk, .junk, .junk, .junk, .junk, .junk, .junk, .junk, .junk, .junk, .junk, .junk, .junk, .junk, .junk, .junk, .junk, .junk, .junk, .junk, .junk, .junk, .junk, .junk, .junk, .junk, .junk, .junk, .junk, .junk, .junk, .junk, .junk, .junk, .junk, .junk, .junk, .junk, .junk, .junk, .junk, .junk, .junk], [(0, .row (out.map .byte) 1)], 1⟩ [.blk 0, .code r109_0] (Fin [(2, none), (3, none)] 0 (paxV r0) (paxH r0))
  | [], done, p, out, n, i, q, h1, h2, h3, h4, h5, h6 => by
    subst h1
    simp at h3
    have e : (out.map AVal.byte).take q = out.map .byte := List.take_of_length_le (by simp; omega)
    refine hd_of (by unfold l109_0; rfl) ?_
    simp only [paxE] at h6
    rw [h6]
    unfold paxV paxH
    have gg := trivial; repeat' first | simp (maxSteps := 2000000) (disch := omega) only [gg, r109_0, go_sem] | (refine br ?_ ?_ <;> intro gg <;> try (exfalso; omega)) | (refine And.intro ?_ ?_; focus omega) | omega
    simp [h4]
  | r :: rest, done, p, out, n, i, q, h1, h2, h3, h4, h5, h6 => by
    have hg0 : rs[i.toNat]? = some r := by
      rw [h1, show i.toNat = done.length + 1 by omega]
      simp
    have hp0 : rs[(i - 1).toNat]? = some p := by
      rw [h1, show (i - 1).toNat = done.length by omega]
      simp
    have hl : i.toNat < rs.length := by rw [h1]; simp; omega
    have hl' : (i - 1).toNat < rs.length := by omega
    obtain ⟨hk, hv⟩ := hb r (by simp [h1])
    have hc := s121 r.key r.value hk hv
    have e : (out.map AVal.byte).take q = out.map .byte := List.take_of_length_le (by simp; omega)
    refine hd_of (by unfold l109_0; rfl) ?_
    unfold paxE at h6
    cases f1 : lineOk r.key r.value with
    | false =>
      rw [if_neg (by simp [paxStep, f1])] at h6
      rw [f1] at hc
      rw [h6]
      unfold paxV paxH
      have gg := trivial; repeat' first | simp (maxSteps := 2000000) (disch := omega) only [gg, hc, hg0, hp0, lp_head, go_sem] | (refine br ?_ ?_ <;> intro gg <;> try (exfalso; omega)) | (refine And.intro ?_ ?_; focus omega) | omega
    | true =>
      have hll := lineB_length (k := r.key) (v := r.value) (by simp [lineOk, kwB] at f1; omega) (by simp [lineOk] at f1; omega)
      rw [f1] at hc
      generalize hL : lineB r.key r.value = L at *
      by_cases f2 : Op.bytesLess p.key r.key = true
      · by_cases f3 : out.length + L.length ≤ 65536
        · rw [if_pos (by simp [paxStep, f1, f2, hL, f3])] at h6
          have ih := h109 c t rs hs hb r0 rest (done ++ [p]) r (out ++ L) n (i + 1) (q + L.length) (by simp [h1]) (by simp; omega) h3 (by simp; omega) (by simp; omega) h6
          have gg := trivial; repeat' first | simp (maxSteps := 2000000) (disch := omega) only [gg, hc, hg0, hp0, f2, e, lp_head, ← List.map_append, go_sem] | (refine br ?_ ?_ <;> intro gg <;> try (exfalso; omega)) | (refine And.intro ?_ ?_; focus omega) | omega
        · rw [if_neg (by simp [paxStep, f1, f2, hL]; omega)] at h6
          rw [h6]
          unfold paxV paxH
          have gg := trivial; repeat' first | simp (maxSteps := 2000000) (disch := omega) only [gg, hc, hg0, hp0, f2, lp_head, go_sem] | (refine br ?_ ?_ <;> intro gg <;> try (exfalso; omega)) | (refine And.intro ?_ ?_; focus omega) | omega
      · have f2' : Op.bytesLess p.key r.key = false := by simpa using f2
        rw [if_neg (by simp [paxStep, f2'])] at h6
        rw [h6]
        unfold paxV paxH
        have gg := trivial; repeat' first | simp (maxSteps := 2000000) (disch := omega) only [gg, hc, hg0, hp0, f2', lp_head, go_sem] | (refine br ?_ ?_ <;> intro gg <;> try (exfalso; omega)) | (refine And.intro ?_ ?_; focus omega) | omega
theorem lineB_pos {k v : List UInt8} : 0 < (lineB k v).length := by
  simp [lineB, restP]
  omega
theorem s109 (c t : Bool) (r : Rcd) (rs : List Rcd) (hs : (r :: rs).length ≤ 1000000) (hb : ∀ x ∈ r :: rs, RcdOk x) : callT AA 109 [.view 2 ((r :: rs).map Rcd.av) c t] [] = some (paxV (paxE none [] (r :: rs)), paxH (paxE none [] (r :: rs))) := by
  obtain ⟨hk, hv⟩ := hb r (by simp)
  have hc := s121 r.key r.value hk hv
  have hh := h109 c t (r :: rs) hs hb (paxE none [] (r :: rs)) rs [] r
  refine enter fn109 np109 rfl ?_
  generalize hR : paxE none [] (r :: rs) = R at *
  unfold paxE at hR
  generalize hrs : r :: rs = l at *
  have hg0 : l[0]? = some r := by rw [← hrs]; rfl
  have hl : 0 < l.length := by rw [← hrs]; simp
  have gg := trivial; repeat' first | simp (maxSteps := 2000000) (disch := omega) only [gg, b109, lp_head, go_sem] | (refine br ?_ ?_ <;> intro gg <;> try (exfalso; omega)) | (refine And.intro ?_ ?_; focus omega) | omega
  refine hd_of (by unfold l109_0; rfl) ?_
  cases f1 : lineOk r.key r.value with
  | false =>
    rw [if_neg (by simp [paxStep, f1])] at hR
    rw [f1] at hc
    rw [← hR]
    unfold paxV paxH
    have gg := trivial; repeat' first | simp (maxSteps := 2000000) (disch := omega) only [gg, hc, hg0, lp_head, go_sem] | (refine br ?_ ?_ <;> intro gg <;> try (exfalso; omega)) | (refine And.intro ?_ ?_; focus omega) | omega
  | true =>
    have hll := lineB_length (k := r.key) (v := r.value) (by simp [lineOk, kwB] at f1; omega) (by simp [lineOk] at f1; omega)
    rw [f1] at hc
    generalize hL : lineB r.key r.value = L at *
    by_cases f3 : L.length ≤ 65536
    · rw [if_pos (by simp [paxStep, f1, hL, f3])] at hR
      have hne : (L.map AVal.byte).isEmpty = false := by
        have := lineB_pos (k := r.key) (v := r.value)
        rw [hL] at this
        cases L with
        | nil => simp at this
        | cons x y => rfl
      have ih := hh L l.length 1 L.length (by simp [hrs]) rfl rfl rfl f3 (by rw [← hR]; simp)
      have gg := trivial; repeat' first | simp (maxSteps := 2000000) (disch := omega) only [gg, hc, hg0, hne, lp_head, go_sem] | (refine br ?_ ?_ <;> intro gg <;> try (exfalso; omega)) | (refine And.intro ?_ ?_; focus omega) | omega
    · rw [if_neg (by simp [paxStep, f1, hL]; omega)] at hR
      rw [← hR]
      unfold paxV paxH
      have gg := trivial; repeat' first | simp (maxSteps := 2000000) (disch := omega) only [gg, hc, hg0, lp_head, go_sem] | (refine br ?_ ?_ <;> intro gg <;> try (exfalso; omega)) | (refine And.intro ?_ ?_; focus omega) | omega
end Go.Abs
namespace Go.Abs
open Am
set_option maxRecDepth 10000
set_option linter.unusedSimpArgs false
theorem s148 (b : BS) : callT AA 148 [b.av] [] = some (b.clipped.av, []) := by
  refine enter fn148 np148 rfl ?_
  have gg := trivial; repeat' first | simp (maxSteps := 2000000) (disch := omega) only [gg, b148, go_sem] | (refine br ?_ ?_ <;> intro gg <;> try (exfalso; omega)) | (refine And.intro ?_ ?_; focus omega) | omega
def padN (n : Nat) : Nat := (512 - n % 512) % 512
/-- bytes, filled up -/
def padL (l : List UInt8) : List UInt8 := l ++ List.replicate (padN l.length) 0
/-- what is given where nothing is lacking -/
def padV (b : BS) : AVal := if padN b.l.length = 0 then b.clipped.av else .own 0 1 0 (padL b.l).length false
def padH (b : BS) : Heap := if padN b.l.length = 0 then [] else [(0, .row ((padL b.l).map .byte) 1)]
theorem s110 (b : BS) (hb : b.l.length ≤ 1000000000) : callT AA 110 [b.av] [] = some (padV b, padH b) := by
  have h1 := s148 b
  refine enter fn110 np110 rfl ?_
  cases b with
  | nil =>
    have e0 : padN 0 = 0 := rfl
    have e1 : (0 : Int).tmod 512 = 0 := rfl
    have e2 : (512 : Int).tmod 512 = 0 := rfl
    simp only [padV, padH, BS.l, List.length_nil, e0, if_true]
    simp only [BS.clipped, av_nil] at h1 ⊢
    have gg := trivial; repeat' first | simp (maxSteps := 2000000) (disch := omega) only [gg, b110, h1, e1, e2, Int.sub_zero, List.replicate_zero, go_sem] | (refine br ?_ ?_ <;> intro gg <;> try (exfalso; omega)) | (refine And.intro ?_ ?_; focus omega) | omega
  | mk c t l =>
    simp only [BS.l] at hb
    have e1 : ((l.length : Int)).tmod 512 = ((l.length % 512 : Nat) : Int) := by
      rw [Int.tmod_eq_emod_of_nonneg (by omega)]
      omega
    have e2 : ((512 : Int) - ((l.length % 512 : Nat) : Int)).tmod 512 = ((padN l.length : Nat) : Int) := by
      rw [Int.tmod_eq_emod_of_nonneg (by omega)]
      unfold padN
      omega
    have e3 : padN l.length < 512 := by
      unfold padN
      omega
    simp only [padV, padH, BS.l, padL]
    simp only [BS.clipped, mk_av] at h1 ⊢
    by_cases h0 : padN l.length = 0
    · have gg := trivial; repeat' first | simp (maxSteps := 2000000) (disch := omega) only [gg, b110, h1, e1, e2, h0, List.replicate_zero, go_sem] | (refine br ?_ ?_ <;> intro gg <;> try (exfalso; omega)) | (refine And.intro ?_ ?_; focus omega) | omega
    · have e4 : ((List.replicate (padN l.length) (0 : UInt8)).map AVal.byte).isEmpty = false := by
        cases hp : padN l.length with
        | zero => exact (h0 hp).elim
        | succ n => rfl
      have gg := trivial; repeat' first | simp (maxSteps := 2000000) (disch := omega) only [gg, b110, h1, e1, e2, h0, e4, List.map_append, go_sem] | (refine br ?_ ?_ <;> intro gg <;> try (exfalso; omega)) | (refine And.intro ?_ ?_; focus omega) | omega
/-- .. of bytes of one's own -/
def padOV (l : List UInt8) : AVal := if padN l.length = 0 then .own 0 1 0 l.length true else .own 1 1 0 (padL l).length false
def padOH (l : List UInt8) : Heap := if padN l.length = 0 then [(0, .row (l.map .byte) 1)] else [(0, .row (l.map .byte) 1), (1, .row ((padL l).map .byte) 1)]
theorem s148o (l : List AVal) (n : Nat) : callT AA 148 [.own 0 1 0 n false] [(0, .row l 1)] = some (.own 0 1 0 n true, [(0, .row l 1)]) := by
  refine enter fn148 np148 rfl ?_
  have gg := trivial; repeat' first | simp (maxSteps := 2000000) (disch := omega) only [gg, b148, go_sem] | (refine br ?_ ?_ <;> intro gg <;> try (exfalso; omega)) | (refine And.intro ?_ ?_; focus omega) | omega
theorem s110o (l : List UInt8) (n : Nat) (hn : n = l.length) (hb : l.length ≤ 1000000000) : callT AA 110 [.own 0 1 0 n false] [(0, .row (l.map .byte) 1)] = some (padOV l, padOH l) := by
  subst hn
  have h1 := s148o (l.map .byte) l.length
  have e0 : (l.map AVal.byte).take l.length = l.map AVal.byte := List.take_of_length_le (by simp)
  refine enter fn110 np110 rfl ?_
  have e1 : ((l.length : Int)).tmod 512 = ((l.length % 512 : Nat) : Int) := by
    rw [Int.tmod_eq_emod_of_nonneg (by omega)]
    omega
  have e2 : ((512 : Int) - ((l.length % 512 : Nat) : Int)).tmod 512 = ((padN l.length : Nat) : Int) := by
    rw [Int.tmod_eq_emod_of_nonneg (by omega)]
    unfold padN
    omega
  have e3 : padN l.length < 512 := by
    unfold padN
    omega
  simp only [padOV, padOH, padL]
  by_cases h0 : padN l.length = 0
  · have gg := trivial; repeat' first | simp (maxSteps := 2000000) (disch := omega) only [gg, b110, h1, e1, e2, e0, h0, List.replicate_zero, go_sem] | (refine br ?_ ?_ <;> intro gg <;> try (exfalso; omega)) | (refine And.intro ?_ ?_; focus omega) | omega
  · have e4 : ((List.replicate (padN l.length) (0 : UInt8)).map AVal.byte).isEmpty = false := by
      cases hp : padN l.length with
      | zero => exact (h0 hp).elim
      | succ n => rfl
    have gg := trivial; repeat' first | simp (maxSteps := 2000000) (disch := omega) only [gg, b110, h1, e1, e2, e0, h0, e4, List.map_append, go_sem] | (refine br ?_ ?_ <;> intro gg <;> try (exfalso; omega)) | (refine And.intro ?_ ?_; focus omega) | omega
end Go.Abs
