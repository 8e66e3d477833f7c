import Derived.Test.YtambgnjkakdoeaaGreatDoorArchives11
import Derived.LoopTactic
import Derived.Shelf.Small.Strs
import Derived.Sort.Grow
/- PART OF A PROOF (texts joined by a program): F63 F126 N21 N22 F64 F65 F66 F67 N23 N24 N25 N26 N5 B7 N6 F127 F128 F129. -/
set_option linter.unusedVariables false
set_option linter.unusedSimpArgs false
set_option linter.unusedSectionVars false
namespace Go.Abs
open Am Lib
set_option maxRecDepth 10000
set_option maxHeartbeats 2000000 in
theorem h122 (ps : List (List UInt8)) (hn : ps.length ≤ 2000000) (hq : ∀ p ∈ ps, p.length ≤ 1000000) (res : AVal) (hp : List (Nat × Node)) : ∀ (rest done : List (List UInt8)) (i : Int) (k : Nat), ps = done ++ rest → i = done.length → k = ps.length → (rest.all partB = true → res = .own 0 1 0 ps.length false ∧ hp = [(0, .row (ps.map .str) 1)]) → (rest.all partB = false → res = .lit (.slice none 0 0) ∧ hp = []) →
  HD AA 0 [2, 3, 4] l122_0 ⟨[.junk, .junk, .lit (.slice none 0 0), .own 0 1 0 k false, .int .i64 i, .junk, .junk, .junk, .junk, .junk, .junk, .junk, .junk, .junk, .junk, .junk, .junk, .junk, .junk, .junk, .junk, .junk, .junk], [(0, .row (ps.map .str) 1)], 1⟩ [.blk 0, .code r122_0] (Fin [(2, none)] 0 res hp)
 | [], done, i, k, h1, h2, hk, h3, h4 => by
  have hl : ps.length = done.length := by rw [h1]; simp
  obtain ⟨e1, e2⟩ := h3 rfl
  subst hk
  rw [e1, e2]
  refine hd_of (by unfold l122_0; rfl) ?_
  have gg:=trivial;repeat' first|simp (maxSteps:=2000000) (disch:=omega) only [gg,r122_0,go_sem]|(refine br ?_ ?_<;>intro gg<;>try omega)|(apply And.intro;focus omega)|omega
 | p :: rest, done, i, k, h1, h2, hk, h3, h4 => by
  have hl : ps.length = done.length + (rest.length + 1) := by rw [h1]; simp
  have ei : i.toNat = done.length := by omega
  have hm : p ∈ ps := by rw [h1]; simp
  have h159 := s159 p (hq p hm)
  have hxi : ps[i.toNat]? = some p := by
   rw [ei, h1, List.getElem?_append_right (by omega)]
   simp
  cases hb : partB p with
  | true =>
   have e : (p :: rest).all partB = rest.all partB := by simp [hb]
   rw [e] at h3 h4
   rw [hb] at h159
   have ih := h122 ps hn hq res hp rest (done ++ [p]) (i + 1) k (by rw [h1]; simp) (by simp; omega) hk h3 h4
   refine hd_of (by unfold l122_0; rfl) ?_
   have gg:=trivial;repeat' first|simp (maxSteps:=2000000) (disch:=omega) only [gg,hxi,h159,lp_head,go_sem]|(refine br ?_ ?_<;>intro gg<;>try omega)|(apply And.intro;focus omega)|omega
  | false =>
   obtain ⟨e1, e2⟩ := h4 (by simp [hb])
   rw [hb] at h159
   rw [e1, e2]
   refine hd_of (by unfold l122_0; rfl) ?_
   have gg:=trivial;repeat' first|simp (maxSteps:=2000000) (disch:=omega) only [gg,hxi,h159,lp_head,go_sem]|(refine br ?_ ?_<;>intro gg<;>try omega)|(apply And.intro;focus omega)|omega
theorem split_n (s : List UInt8) (hs : s.length ≤ 1000000) : (splitOn 47 s).length ≤ 2000000 := by
 rw [split_length]
 have := count_le s 47
 omega
theorem s122 (s : List UInt8) (hs : s.length ≤ 1000000) : callT AA 122 [.str s] [] = some (if goodB s = true then (.own 0 1 0 (splitOn 47 s).length false, [(0, .row ((splitOn 47 s).map .str) 1)]) else (.lit (.slice none 0 0), [])) := by
 have h125 := s125 s hs
 have hn := split_n s hs
 have hh := fun res hp h3 h4 => h122 (splitOn 47 s) hn (fun p hp => Nat.le_trans (split_short 47 s p hp) hs) res hp (splitOn 47 s) [] 0 _ rfl rfl rfl h3 h4
 by_cases h4 : s.length ≤ 400
 ·have hg : goodB s = (splitOn 47 s).all partB := by simp [goodB, splitP, h4]
  rw [hg]
  cases hb : (splitOn 47 s).all partB with
  | true =>
   rw [hb] at hh
   rw [if_pos rfl]
   have hh := hh _ _ (fun _ => ⟨rfl, rfl⟩) (by simp)
   refine enter fn122 np122 rfl ?_
   have gg:=trivial;repeat' first|simp (maxSteps:=2000000) (disch:=omega) only [gg,b122,h125,lp_head,go_sem]|(refine br ?_ ?_<;>intro gg<;>try omega)|(apply And.intro;focus omega)|omega
  | false =>
   rw [hb] at hh
   rw [if_neg (by simp)]
   have hh := hh _ _ (by simp) (fun _ => ⟨rfl, rfl⟩)
   refine enter fn122 np122 rfl ?_
   have gg:=trivial;repeat' first|simp (maxSteps:=2000000) (disch:=omega) only [gg,b122,h125,lp_head,go_sem]|(refine br ?_ ?_<;>intro gg<;>try omega)|(apply And.intro;focus omega)|omega
 ·have hg : goodB s = false := by simp [goodB, h4]
  rw [hg, if_neg (by simp)]
  refine enter fn122 np122 rfl ?_
  have gg:=trivial;repeat' first|simp (maxSteps:=2000000) (disch:=omega) only [gg,b122,go_sem]|(refine br ?_ ?_<;>intro gg<;>try omega)|(apply And.intro;focus omega)|omega
theorem s75 (s : List UInt8) (hs : s.length ≤ 1000000) : callT AA 75 [.str s] [] = some (.bool (goodB s), []) := by
 have h := s122 s hs
 have hn := split_n s hs
 have h1 := split_len 47 s
 refine enter fn75 np75 rfl ?_
 cases hb : goodB s with
 | true =>
  rw [hb, if_pos rfl] at h
  have gg:=trivial;repeat' first|simp (maxSteps:=2000000) (disch:=omega) only [gg,b75,h,go_sem]|(refine br ?_ ?_<;>intro gg<;>try omega)|(apply And.intro;focus omega)|omega
 | false =>
  rw [hb] at h
  have gg:=trivial;repeat' first|simp (maxSteps:=2000000) (disch:=omega) only [gg,b75,h,go_sem]|(refine br ?_ ?_<;>intro gg<;>try omega)|(apply And.intro;focus omega)|omega
def jn : List (List UInt8) → List UInt8
 | [] => []
 | p :: r => 47 :: p ++ jn r
def joinB : List (List UInt8) → List UInt8
 | [] => []
 | p :: r => p ++ jn r
theorem jn_le (p : List UInt8) (r : List (List UInt8)) : (jn (p :: r)).length = p.length + 1 + (jn r).length := by simp [jn]; omega
set_option maxHeartbeats 2000000 in
theorem h123 (c t : Bool) (ps : List (List UInt8)) (hn : ps.length ≤ 2000000) (hq : ∀ p ∈ ps, partB p = true ∧ p.length ≤ 1000000) (r0 : List UInt8) (h4 : r0.length ≤ 400) (h0 : 0 < ps.length) : ∀ (rest done : List (List UInt8)) (i : Int) (acc : List UInt8) (q : Nat), ps = done ++ rest → i = done.length → 0 < i → q = acc.length → r0 = acc ++ jn rest →
  HD AA 0 [0, 2, 3, 4, 5] l123_0 ⟨[.view 1 (ps.map .str) c t, .junk, .str [], .int .i64 0, .own 0 1 0 q false, .int .i64 i, .junk, .junk, .junk, .junk, .junk, .junk, .junk, .junk, .junk, .junk, .junk, .junk, .junk, .junk, .junk, .junk, .junk, .junk, .junk, .junk, .junk, .junk, .junk, .junk, .junk, .junk, .junk, .junk, .junk, .junk, .junk, .junk], [(0, .row (acc.map .byte) 1)], 1⟩ [.blk 0, .code r123_0] (Fin [(2, none), (3, none)] 0 (.tuple [.str r0, .int .i64 0]) [])
 | [], done, i, acc, q, h1, h2, h3, hq', h5 => by
  have hl : ps.length = done.length := by rw [h1]; simp
  have e : (acc.map AVal.byte).take q = acc.map .byte := List.take_of_length_le (by simp; omega)
  have hr : r0 = acc := by rw [h5]; simp [jn]
  rw [hr]
  subst hq'
  refine hd_of (by unfold l123_0; rfl) ?_
  have gg:=trivial;repeat' first|simp (maxSteps:=2000000) (disch:=omega) only [gg,r123_0,e,go_sem]|(refine br ?_ ?_<;>intro gg<;>try omega)|(apply And.intro;focus omega)|omega
 | p :: rest, done, i, acc, q, h1, h2, h3, hq', h5 => by
  have hl : ps.length = done.length + (rest.length + 1) := by rw [h1]; simp
  have ei : i.toNat = done.length := by omega
  have hm : p ∈ ps := by rw [h1]; simp
  have h159 := s159 p (hq p hm).2
  rw [(hq p hm).1] at h159
  have hlen : r0.length = acc.length + (p.length + 1 + (jn rest).length) := by rw [h5, List.length_append, jn_le]
  have hxi : ps[i.toNat]? = some p := by
   rw [ei, h1, List.getElem?_append_right (by omega)]
   simp
  have e : (acc.map AVal.byte).take q = acc.map .byte := List.take_of_length_le (by simp; omega)
  have ih := h123 c t ps hn hq r0 h4 h0 rest (done ++ [p]) (i + 1) (acc ++ [47] ++ p) (q + 1 + p.length) (by rw [h1]; simp) (by simp; omega) (by omega) (by simp; omega) (by rw [h5]; simp [jn])
  have e2 : (acc.map AVal.byte ++ [AVal.int .u8 47]).take (q + 1) = (acc ++ [47]).map AVal.byte := by
   rw [List.take_of_length_le (by simp; omega)]
   simp [AVal.byte]
   try rfl
  refine hd_of (by unfold l123_0; rfl) ?_
  have gg:=trivial;repeat' first|simp (maxSteps:=2000000) (disch:=omega) only [gg,hxi,h159,e,e2,lp_head,← List.map_append,go_sem]|(refine br ?_ ?_<;>intro gg<;>try omega)|(apply And.intro;focus omega)|omega
theorem s123 (c t : Bool) (ps : List (List UInt8)) (hn : ps.length ≤ 2000000) (hq : ∀ p ∈ ps, partB p = true ∧ p.length ≤ 1000000) (h4 : (joinB ps).length ≤ 400) (h0 : 0 < ps.length) : callT AA 123 [.view 1 (ps.map .str) c t] [] = some (.tuple [.str (joinB ps), .int .i64 0], []) := by
 refine enter fn123 np123 rfl ?_
 have gg:=trivial;repeat' first|simp (maxSteps:=2000000) (disch:=omega) only [gg,b123,lp_head,go_sem]|(refine br ?_ ?_<;>intro gg<;>try omega)|(apply And.intro;focus omega)|omega
 obtain ⟨p, r, hp⟩ : ∃ p r, ps = p :: r := by
  cases ps with
  | nil => simp at h0
  | cons p r => exact ⟨p, r, rfl⟩
 have hxi : ps[0]? = some p := by rw [hp]; rfl
 have hm : p ∈ ps := by rw [hp]; simp
 have h159 := s159 p (hq p hm).2
 rw [(hq p hm).1] at h159
 have hlen : (joinB ps).length = p.length + (jn r).length := by rw [hp]; simp [joinB]
 have hl : ps.length = r.length + 1 := by rw [hp]; simp
 have ih := h123 c t ps hn hq (joinB ps) h4 h0 r [p] 1 p p.length (by rw [hp]; rfl) rfl (by omega) rfl (by rw [hp]; rfl)
 refine hd_of (by unfold l123_0; rfl) ?_
 have gg:=trivial;repeat' first|simp (maxSteps:=2000000) (disch:=omega) only [gg,hxi,h159,lp_head,go_sem]|(refine br ?_ ?_<;>intro gg<;>try omega)|(apply And.intro;focus omega)|omega
end Go.Abs
namespace Go.Abs
open Am
set_option maxRecDepth 20000
def wsum : List (List UInt8) → Nat
 | [] => 0
 | p :: r => p.length + 1 + wsum r
theorem wsum_app : ∀ a b : List (List UInt8), wsum (a ++ b) = wsum a + wsum b
 | [], b => by simp [wsum]
 | p :: a, b => by
  simp only [List.cons_append, wsum, wsum_app a b]
  omega
theorem jn_len : ∀ r : List (List UInt8), (jn r).length = wsum r
 | [] => rfl
 | p :: r => by rw [jn_le, jn_len r]; rfl
theorem joinB_len (p : List UInt8) (r : List (List UInt8)) : (joinB (p :: r)).length + 1 = wsum (p :: r) := by
 simp only [joinB, List.length_append, jn_len, wsum]
 omega
theorem ljoin_cons (p q : List UInt8) (r : List (List UInt8)) : Lib.join (p :: q :: r) [47] = p ++ 47 :: Lib.join (q :: r) [47] := by
 simp [Lib.join, List.intercalate, List.intersperse]
theorem ljoin_eq : ∀ ps : List (List UInt8), Lib.join ps [47] = joinB ps
 | [] => rfl
 | [p] => by rw [Lib.join_one]; simp [joinB, jn]
 | p :: q :: r => by
  rw [ljoin_cons, ljoin_eq (q :: r)]
  simp [joinB, jn]
def joinR (ps : List (List UInt8)) : List UInt8 × Int := if ps ≠ [] ∧ ps.all partB = true ∧ (joinB ps).length ≤ 400 then (joinB ps, 0) else ([], 12)
theorem joinR_bad {ps : List (List UInt8)} (h : ¬ (ps ≠ [] ∧ ps.all partB = true ∧ (joinB ps).length ≤ 400)) : joinR ps = ([], 12) := if_neg h
theorem h163 (c t : Bool) (ps : List (List UInt8)) (hn : ps.length ≤ 2000000) (hq : ∀ p ∈ ps, p.length ≤ 1000000) (R : List UInt8) (E : Int) (hR : joinR ps = (R, E)) : ∀ (rest done : List (List UInt8)) (n i : Int), ps = done ++ rest → done.all partB = true → n = wsum done → n ≤ 401 → i = done.length →
  HD AA 0 [0, 2, 3, 4, 7, 8, 9] l163_0 ⟨[.view 1 (ps.map .str) c t, .junk, .str [], .lit .nilIface, .int .i64 n, .junk, .junk, .view 1 (ps.map .str) c t, .int .i64 ps.length, .int .i64 i, .junk, .junk, .junk, .junk, .junk, .junk, .junk, .junk, .junk, .junk, .junk, .junk, .junk, .junk, .junk, .junk, .junk, .junk, .junk, .junk, .junk, .junk], [], 0⟩ [.blk 0, .code r163_0] (Fin [(2, none), (3, none)] 0 (.tuple [.str R, errV E]) [])
 | [], done, n, i, h1, h2, h3, h4, h5 => by
  rw [List.append_nil] at h1
  subst h1
  refine hd_of (by unfold l163_0; rfl) ?_
  cases ps with
  | nil =>
   rw [joinR_bad (by simp)] at hR
   cases hR
   unfold errV
   have gg:=trivial;repeat' first|simp (maxSteps:=2000000) (disch:=omega) only [gg,r163_0,go_sem]|(refine br ?_ ?_<;>intro gg<;>try omega)|(apply And.intro;focus omega)|omega
  | cons p r =>
   have hl := joinB_len p r
   have hb : (joinB (p :: r)).length ≤ 400 := by omega
   have c1 := call205 (ps := p :: r) (sep := [47]) (c := c) (t := t) (by rw [ljoin_eq]; omega) (by omega)
   rw [ljoin_eq] at c1
   rw [show joinR (p :: r) = (joinB (p :: r), 0) from if_pos ⟨by simp, h2, hb⟩] at hR
   cases hR
   have hp : 0 < (p :: r).length := by simp
   generalize joinB (p :: r) = J at *
   generalize p :: r = ps at *
   unfold errV
   rw [if_pos rfl]
   have gg:=trivial;repeat' first|simp (maxSteps:=2000000) (disch:=omega) only [gg,r163_0,c1,go_sem]|(refine br ?_ ?_<;>intro gg<;>try omega)|(apply And.intro;focus omega)|omega
 | p :: r, done, n, i, h1, h2, h3, h4, h5 => by
  have hg : ps[i.toNat]? = some p := by rw [h1, h5]; simp
  have hlt : i < ps.length := by rw [h1, h5]; simp; omega
  have c1 := s190 p (hq p (by rw [h1]; simp))
  have hpl := hq p (by rw [h1]; simp)
  have hps : ps ≠ [] := by rw [h1]; simp
  have hw : wsum ps = wsum done + (p.length + 1 + wsum r) := by rw [h1, wsum_app]; rfl
  have hjl : (joinB ps).length + 1 = wsum ps := by
   cases ps with
   | nil => exact absurd rfl hps
   | cons a b => exact joinB_len a b
  refine hd_of (by unfold l163_0; rfl) ?_
  cases hb : partB p with
  | false =>
   rw [hb] at c1
   have hall : ps.all partB = false := by rw [h1]; simp [hb]
   rw [joinR_bad (by rw [hall]; simp)] at hR
   cases hR
   unfold errV
   have gg:=trivial;repeat' first|simp (maxSteps:=2000000) (disch:=omega) only [gg,hg,c1,go_sem]|(refine br ?_ ?_<;>intro gg<;>try omega)|(apply And.intro;focus omega)|omega
  | true =>
   rw [hb] at c1
   by_cases hgt : n + (p.length + 1) ≤ 401
   ·have ih := h163 c t ps hn hq R E hR r (done ++ [p]) (n + (p.length + 1)) (i + 1) (by rw [h1]; simp) (by simp [h2, hb]) (by rw [wsum_app, h3]; simp [wsum]) hgt (by rw [h5]; simp)
    clear hR
    have gg:=trivial;repeat' first|simp (maxSteps:=2000000) (disch:=omega) only [gg,hg,c1,lp_head,go_sem]|(refine br ?_ ?_<;>intro gg<;>try omega)|(apply And.intro;focus omega)|omega
   ·rw [joinR_bad (by omega)] at hR
    cases hR
    unfold errV
    have gg:=trivial;repeat' first|simp (maxSteps:=2000000) (disch:=omega) only [gg,hg,c1,go_sem]|(refine br ?_ ?_<;>intro gg<;>try omega)|(apply And.intro;focus omega)|omega
theorem s163 (c t : Bool) (ps : List (List UInt8)) (hn : ps.length ≤ 2000000) (hq : ∀ p ∈ ps, p.length ≤ 1000000) : callT AA 163 [.view 1 (ps.map .str) c t] [] = some (.tuple [.str (joinR ps).1, errV (joinR ps).2], []) := by
 have hh := h163 c t ps hn hq (joinR ps).1 (joinR ps).2 rfl ps [] 0 0 rfl rfl rfl (by omega) rfl
 generalize (joinR ps).1 = R at *
 generalize errV (joinR ps).2 = E at *
 refine enter fn163 np163 rfl ?_
 have gg:=trivial;repeat' first|simp (maxSteps:=2000000) (disch:=omega) only [gg,b163,lp_head,go_sem]|(refine br ?_ ?_<;>intro gg<;>try omega)|(apply And.intro;focus omega)|omega
theorem s163n : callT AA 163 [.lit (.slice none 0 0)] [] = some (.tuple [.str (joinR []).1, errV (joinR []).2], []) := by
 have e : joinR [] = ([], 12) := joinR_bad (by simp)
 rw [e]
 unfold errV
 refine enter fn163 np163 rfl ?_
 have gg:=trivial;repeat' first|simp (maxSteps:=2000000) (disch:=omega) only [gg,b163,lp_head,go_sem]|(refine br ?_ ?_<;>intro gg<;>try omega)|(apply And.intro;focus omega)|omega
 refine hd_of (by unfold l163_0; rfl) ?_
 have gg:=trivial;repeat' first|simp (maxSteps:=2000000) (disch:=omega) only [gg,r163_0,lp_head,go_sem]|(refine br ?_ ?_<;>intro gg<;>try omega)|(apply And.intro;focus omega)|omega
end Go.Abs
namespace Go.Proofs.YtambgnjkakdoeaaGreatDoor
open Go.Shelf Go.RowKit Go.Lib Go.Sort Go.Abs Am
theorem lcut_eq (c : UInt8) (s : List UInt8) : Lib.cut s [c] = cutB c s := by
 unfold Lib.cut cutB
 rw [Lib.index_one]
 by_cases h : 0 ≤ Lib.indexByte s c
 ·rw [if_pos h]
  first | (rw [if_neg (by omega)]; rfl) | (rw [if_pos h]; rfl)
 ·rw [if_neg h]
  first | (rw [if_pos (by have := Lib.indexByte_ge s c; omega)]) | (rw [if_neg h])
theorem cuts_calls (s : List UInt8) (w : World) (hs : s.length ≤ 1000000) : Calls Tryz.prog 119 #[.string ⟨s.toArray⟩, .string ⟨#[47]⟩] w fun e w' => e = .returned (.tuple #[.string ⟨(cutB 47 s).1.toArray⟩, .string ⟨(cutB 47 s).2.1.toArray⟩, .bool (cutB 47 s).2.2]) ∧ ∃ n, w' = w.drewN n := by
 have h := cuts1_calls ⟨s.toArray⟩ 47 w (by show s.toArray.size < _; rw [List.size_toArray]; omega)
 rw [lcut_eq] at h
 exact h
theorem cmps_calls (s t : List UInt8) (w : World) : Calls Tryz.prog 132 #[.string ⟨s.toArray⟩, .string ⟨t.toArray⟩] w fun e w' => e = .returned (.int .i64 (Lib.compareBytes s t)) ∧ w' = w :=
 Any.strings_Compare Tryz.lays106 ⟨s.toArray⟩ ⟨t.toArray⟩ w
def strLen : Value → Nat
 | .string s => s.size
 | _ => 0
theorem cut_len (x : List UInt8) : (cutB 47 x).2.2 = true → (cutB 47 x).2.1.length < x.length := by
 intro h
 by_cases hs : 0 ≤ Lib.indexByte x 47
 ·obtain ⟨a1, _⟩ := cut_yes hs
  rw [a1]
  have := @indexByte_lt x 47
  simp
  omega
 ·obtain ⟨a1, _⟩ := cut_no hs
  rw [a1] at h
  cases h
theorem cut_le (x : List UInt8) : (cutB 47 x).2.1.length ≤ x.length ∧ (cutB 47 x).1.length ≤ x.length := by
 unfold cutB
 split
 ·simp
  omega
 ·simp
theorem split_cut (x : List UInt8) : splitP x = if (cutB 47 x).2.2 = true then (cutB 47 x).1 :: splitP (cutB 47 x).2.1 else [(cutB 47 x).1] := by
 unfold splitP
 by_cases hs : 0 ≤ Lib.indexByte x 47
 ·obtain ⟨a1, a2⟩ := cut_yes hs
  have a3 : (cutB 47 x).2.2 = true := by rw [a1]
  rw [if_pos a3, a2]
 ·obtain ⟨a1, a2⟩ := cut_no hs
  have a3 : (cutB 47 x).2.2 = false := by rw [a1]
  have a4 : (cutB 47 x).1 = x := by rw [a1]
  rw [if_neg (by rw [a3]; simp), a4, a2]
theorem cmp_step (x y : List UInt8) : cmpPath x y = if Lib.compareBytes (cutB 47 x).1 (cutB 47 y).1 ≠ 0 then Lib.compareBytes (cutB 47 x).1 (cutB 47 y).1 else
  if (cutB 47 x).2.2 = true then (if (cutB 47 y).2.2 = true then cmpPath (cutB 47 x).2.1 (cutB 47 y).2.1 else 1) else (if (cutB 47 y).2.2 = true then -1 else 0) := by
 unfold cmpPath
 rw [split_cut x, split_cut y]
 have n1 : splitP (cutB 47 x).2.1 ≠ [] := splitOn_ne 47 _
 have n2 : splitP (cutB 47 y).2.1 ≠ [] := splitOn_ne 47 _
 cases (cutB 47 x).2.2 <;> cases (cutB 47 y).2.2 <;> simp only [Bool.false_eq_true, if_true, if_false]
 ·exact cmp_nn
 ·exact cmp_ny n2
 ·exact cmp_yn n1
 ·exact cmp_yy n1 n2
theorem drewN_drewN' (w : World) (a b : Nat) : (w.drewN a).drewN b = w.drewN (a + b) := by
 unfold World.drewN
 simp only [Nat.add_assoc]
set_option maxHeartbeats 4000000 in
set_option maxRecDepth 100000 in
theorem cmp87 (a b : List UInt8) (ha : a.length ≤ 1000000) (hb : b.length ≤ 1000000) (w : World) : Calls Tryz.prog 87 #[.string ⟨a.toArray⟩, .string ⟨b.toArray⟩] w fun e w' => e = .returned (.int .i64 (cmpPath a b)) ∧ ∃ q, w' = w.drewN q := by
 obtain ⟨R, hR⟩ : ∃ R, cmpPath a b = R := ⟨_, rfl⟩
 rw [hR]
 go_enter Tryz.func87, Tryz.ntmps87
 go_wp2
 go_loopw [0, 1] (fun va vb wr => ∃ (x y : List UInt8), va = .string ⟨x.toArray⟩ ∧ vb = .string ⟨y.toArray⟩ ∧ x.length ≤ 1000000 ∧ y.length ≤ 1000000 ∧ cmpPath x y = R ∧ ∃ q, wr = w.drewN q) (fun va _ _ => strLen va)
 case atStart => exact ⟨a, b, rfl, rfl, ha, hb, hR, 0, rfl⟩
 case round =>
  obtain ⟨x, y, rfl, rfl, hx, hy, hr, q, hq⟩ := hrel
  have k1 := fun W => cuts_calls x W hx
  have k2 := fun W => cuts_calls y W hy
  have k3 := fun W => cmps_calls (cutB 47 x).1 (cutB 47 y).1 W
  have l1 := cut_len x
  have l2 := cut_le x
  have l3 := cut_le y
  rw [cmp_step x y] at hr
  obtain ⟨C, hC⟩ : ∃ C, Lib.compareBytes (cutB 47 x).1 (cutB 47 y).1 = C := ⟨_, rfl⟩
  rw [hC] at hr
  simp only [hC] at k3
  clear hC hR
  generalize (cutB 47 x).1 = xa at *
  generalize (cutB 47 y).1 = ya at *
  have m1 : strLen (.string ⟨(cutB 47 x).2.1.toArray⟩) = (cutB 47 x).2.1.length := by
   show (cutB 47 x).2.1.toArray.size = _
   rw [List.size_toArray]
  have m2 : strLen (.string ⟨x.toArray⟩) = x.length := by
   show x.toArray.size = _
   rw [List.size_toArray]
  generalize (cutB 47 x).2.1 = xr at *
  generalize (cutB 47 y).2.1 = yr at *
  obtain ⟨l2a, _⟩ := l2
  obtain ⟨l3a, _⟩ := l3
  have hx2 : xr.length ≤ 1000000 := by omega
  have hy2 : yr.length ≤ 1000000 := by omega
  clear l2a l3a
  have hq : Hid (wr = w.drewN q) := hq
  obtain ⟨bx, hbx⟩ : ∃ v : ByteArray, Hid (v = ⟨x.toArray⟩) := ⟨_, rfl⟩
  obtain ⟨by', hby⟩ : ∃ v : ByteArray, Hid (v = ⟨y.toArray⟩) := ⟨_, rfl⟩
  obtain ⟨sxa, hsxa⟩ : ∃ v : ByteArray, Hid (v = ⟨xa.toArray⟩) := ⟨_, rfl⟩
  obtain ⟨sya, hsya⟩ : ∃ v : ByteArray, Hid (v = ⟨ya.toArray⟩) := ⟨_, rfl⟩
  obtain ⟨sxr, hsxr⟩ : ∃ v : ByteArray, Hid (v = ⟨xr.toArray⟩) := ⟨_, rfl⟩
  obtain ⟨syr, hsyr⟩ : ∃ v : ByteArray, Hid (v = ⟨yr.toArray⟩) := ⟨_, rfl⟩
  rw [← hbx.out, ← hsxa.out, ← hsxr.out] at k1
  rw [← hby.out, ← hsya.out, ← hsyr.out] at k2
  rw [← hsxa.out, ← hsya.out] at k3
  rw [← hsxr.out] at m1
  rw [← hbx.out, ← hby.out]
  rw [← hbx.out] at m2
  have m1 : Hid (strLen (.string sxr) = xr.length) := m1
  have m2 : Hid (strLen (.string bx) = x.length) := m2
  have hr : Hid (_ = R) := hr
  by_cases hc : C = 0
  ·subst hc
   have hr := hr.out
   rw [if_neg (by simp)] at hr
   cases hxm : (cutB 47 x).2.2 <;> cases hym : (cutB 47 y).2.2 <;> simp only [hxm, hym, Bool.false_eq_true, if_true, if_false] at hr k1 k2 l1
   ·subst hr
    clear l1 hxm hym
    go_wp2_with fail
    refine (k1 _).mono ?_
    rintro e w1 ⟨rfl, n1, rfl⟩
    go_wp2_with fail
    refine (k2 _).mono ?_
    rintro e w2 ⟨rfl, n2, rfl⟩
    go_wp2_with fail
    refine (k3 _).mono ?_
    rintro e w3 ⟨rfl, rfl⟩
    go_wp2_with fail
    go_ret
    exact ⟨rfl, q + n1 + n2, by first | rfl | (rw [hq.out, drewN_drewN', drewN_drewN'])⟩
   ·subst hr
    clear l1 hxm hym
    go_wp2_with fail
    refine (k1 _).mono ?_
    rintro e w1 ⟨rfl, n1, rfl⟩
    go_wp2_with fail
    refine (k2 _).mono ?_
    rintro e w2 ⟨rfl, n2, rfl⟩
    go_wp2_with fail
    refine (k3 _).mono ?_
    rintro e w3 ⟨rfl, rfl⟩
    go_wp2_with fail
    go_ret
    exact ⟨rfl, q + n1 + n2, by first | rfl | (rw [hq.out, drewN_drewN', drewN_drewN'])⟩
   ·subst hr
    clear l1 hxm hym
    go_wp2_with fail
    refine (k1 _).mono ?_
    rintro e w1 ⟨rfl, n1, rfl⟩
    go_wp2_with fail
    refine (k2 _).mono ?_
    rintro e w2 ⟨rfl, n2, rfl⟩
    go_wp2_with fail
    refine (k3 _).mono ?_
    rintro e w3 ⟨rfl, rfl⟩
    go_wp2_with fail
    go_ret
    exact ⟨rfl, q + n1 + n2, by first | rfl | (rw [hq.out, drewN_drewN', drewN_drewN'])⟩
   ·have hr : Hid (_ = R) := hr
    have hl : Hid (xr.length < x.length) := l1 trivial
    clear l1 hxm hym
    go_wp2_with fail
    refine (k1 _).mono ?_
    rintro e w1 ⟨rfl, n1, rfl⟩
    go_wp2_with fail
    refine (k2 _).mono ?_
    rintro e w2 ⟨rfl, n2, rfl⟩
    go_wp2_with fail
    refine (k3 _).mono ?_
    rintro e w3 ⟨rfl, rfl⟩
    go_wp2_with fail
    go_roundw
    case rel => exact ⟨xr, yr, by rw [hsxr.out], by rw [hsyr.out], hx2, hy2, hr.out, q + n1 + n2, by first | rfl | (rw [hq.out, drewN_drewN', drewN_drewN'])⟩
    case measure =>
     have := hl.out
     rw [m1.out, m2.out]
     exact this
  ·have hr := hr.out
   rw [if_pos hc] at hr
   subst hr
   clear l1
   go_wp2_with fail
   refine (k1 _).mono ?_
   rintro e w1 ⟨rfl, n1, rfl⟩
   go_wp2_with fail
   refine (k2 _).mono ?_
   rintro e w2 ⟨rfl, n2, rfl⟩
   go_wp2_with fail
   refine (k3 _).mono ?_
   rintro e w3 ⟨rfl, rfl⟩
   go_wp2_with fail
   go_ret
   exact ⟨rfl, q + n1 + n2, by first | rfl | (rw [hq.out, drewN_drewN', drewN_drewN'])⟩
end Go.Proofs.YtambgnjkakdoeaaGreatDoor
namespace Go.Proofs.YtambgnjkakdoeaaGreatDoor
open Go.Shelf Go.RowKit Go.Lib Go.Sort Go.Abs Am
set_option maxHeartbeats 4000000 in
set_option maxRecDepth 100000 in
theorem clo86 (a b : List UInt8) (ha : a.length ≤ 1000000) (hb : b.length ≤ 1000000) (x1 x2 x3 x4 x5 x6 x7 y1 y2 y3 y4 y5 y6 y7 : Value) (W : World) :
  Calls Tryz.prog 86 #[.agg #[.string ⟨a.toArray⟩, x1, x2, x3, x4, x5, x6, x7], .agg #[.string ⟨b.toArray⟩, y1, y2, y3, y4, y5, y6, y7]] W fun e w' => e = .returned (.int .i64 (cmpPath a b)) ∧ ∃ q os', w' = grow (W.drewN q) os' := by
 have hcon := fun W' => cmp87 a b ha hb W'
 generalize cmpPath a b = r at hcon ⊢
 generalize (⟨a.toArray⟩ : ByteArray) = sa at *
 generalize (⟨b.toArray⟩ : ByteArray) = sb at *
 go_enter Tryz.func86, Tryz.ntmps86
 go_wp2_with fail
 refine (hcon _).mono ?_
 rintro e w' ⟨rfl, q, rfl⟩
 go_wp2_with fail
 go_ret
 exact ⟨rfl, q, _, by rw [alloc_eq_grow, alloc_eq_grow, grow_grow]; rfl⟩
end Go.Proofs.YtambgnjkakdoeaaGreatDoor
namespace Go.Abs
open Am Lib
set_option maxRecDepth 10000
theorem join_split : ∀ s : List UInt8, joinB (splitOn 47 s) = s
 | [] => rfl
 | x :: r => by
  have ih := join_split r
  rw [splitOn_cons]
  cases hq : splitOn 47 r with
  | nil => exact (splitOn_ne 47 r hq).elim
  | cons q qs =>
   rw [hq] at ih
   by_cases hx : x = 47
   ·rw [if_pos hx, hx]
    simp only [joinB, jn, List.nil_append]
    simp only [joinB] at ih
    rw [List.cons_append, ih]
   ·rw [if_neg hx]
    simp only [joinB, List.cons_append]
    simp only [joinB] at ih
    rw [ih]
theorem split_app : ∀ (a b : List UInt8), splitOn 47 (a ++ 47 :: b) = splitOn 47 a ++ splitOn 47 b
 | [], b => by simp [splitOn]
 | x :: a, b => by
  have ih := split_app a b
  rw [List.cons_append, splitOn_cons, ih, splitOn_cons]
  cases hq : splitOn 47 a with
  | nil => exact (splitOn_ne 47 a hq).elim
  | cons q qs =>
   by_cases hx : x = 47
   ·simp [hx]
   ·simp [hx]
theorem lastAt_no (c : UInt8) (s : List UInt8) : ∀ k : Nat, ∀ j : Nat, lastAt c k s < j → j < k → s[j]? ≠ some c
 | 0, j, _, h => by omega
 | k + 1, j, h1, h2 => by
  unfold lastAt at h1
  split at h1
  ·omega
  ·rename_i h3
   by_cases hj : j = k
   ·subst hj; exact h3
   ·exact lastAt_no c s k j h1 (by omega)
theorem lastAt_yes (c : UInt8) (s : List UInt8) : ∀ k : Nat, 0 ≤ lastAt c k s → s[(lastAt c k s).toNat]? = some c
 | 0, h => by simp [lastAt] at h
 | k + 1, h => by
  unfold lastAt at h ⊢
  split
  ·rename_i h3; simpa using h3
  ·rename_i h3
   rw [if_neg h3] at h
   exact lastAt_yes c s k h
theorem last_split (s : List UInt8) : (lastB 47 s < 0 ∧ splitOn 47 s = [s]) ∨ (0 ≤ lastB 47 s ∧ ∃ b, splitOn 47 s = splitOn 47 (s.take (lastB 47 s).toNat) ++ [b]) := by
 have h1 := lastAt_lt 47 s s.length
 have h2 := lastAt_no 47 s s.length
 have h3 := lastAt_yes 47 s s.length
 have h4 : lastB 47 s = lastAt 47 s.length s := rfl
 by_cases h5 : lastB 47 s < 0
 ·left
  refine ⟨h5, split_end s ?_⟩
  intro x hx hx2
  obtain ⟨j, hj, he⟩ := List.getElem_of_mem hx
  refine h2 j (by omega) hj ?_
  rw [List.getElem?_eq_getElem hj, he, hx2]
 ·right
  refine ⟨by omega, s.drop ((lastB 47 s).toNat + 1), ?_⟩
  have h6 := h3 (by omega)
  rw [← h4] at h6 h2 h1
  generalize hk : (lastB 47 s).toNat = k at *
  have hk2 : k < s.length := by omega
  have e : s = s.take k ++ 47 :: s.drop (k + 1) := by
   rw [List.getElem?_eq_getElem hk2] at h6
   have h7 : s[k] = 47 := by simpa using h6
   rw [← h7, List.getElem_cons_drop, List.take_append_drop]
  have e2 : splitOn 47 (s.drop (k + 1)) = [s.drop (k + 1)] := by
   refine split_end _ ?_
   intro x hx hx2
   obtain ⟨j, hj, he⟩ := List.getElem_of_mem hx
   rw [List.length_drop] at hj
   refine h2 (k + 1 + j) (by omega) (by omega) ?_
   rw [List.getElem_drop] at he
   rw [List.getElem?_eq_getElem (by omega), he, hx2]
  conv => lhs; rw [e]
  rw [split_app, e2]
theorem s76 (s : List UInt8) (hs : s.length ≤ 1000000) : callT AA 76 [.str s] [] = some (.tuple [.str (parentP s).1, .bool (parentP s).2], []) := by
 have h := s122 s hs
 have hn := split_n s hs
 have h1 := split_len 47 s
 refine enter fn76 np76 rfl ?_
 unfold parentP
 cases hb : goodB s with
 | false =>
  rw [hb] at h
  rw [if_neg (by simp)]
  have gg:=trivial;repeat' first|simp (maxSteps:=2000000) (disch:=omega) only [gg,b76,h,go_sem]|(refine br ?_ ?_<;>intro gg<;>try omega)|(apply And.intro;focus omega)|omega
 | true =>
  rw [hb, if_pos rfl] at h
  rcases last_split s with ⟨h2, h3⟩ | ⟨h2, b, h3⟩
  ·rw [if_neg (by omega)]
   have h4 : (splitOn 47 s).length = 1 := by rw [h3]; rfl
   have gg:=trivial;repeat' first|simp (maxSteps:=2000000) (disch:=omega) only [gg,b76,h,h4,go_sem]|(refine br ?_ ?_<;>intro gg<;>try omega)|(apply And.intro;focus omega)|omega
  ·rw [if_pos ⟨h2, rfl⟩]
   have h4 : (splitOn 47 s).length = (splitOn 47 (s.take (lastB 47 s).toNat)).length + 1 := by rw [h3]; simp
   have h5 := split_len 47 (s.take (lastB 47 s).toNat)
   have h6 : ((splitOn 47 s).map AVal.str).take (((splitOn 47 s).length : Int) - 1).toNat = (splitOn 47 (s.take (lastB 47 s).toNat)).map AVal.str := by
    rw [show (((splitOn 47 s).length : Int) - 1).toNat = (splitOn 47 s).length - 1 by omega, ← List.map_take]
    rw [h3]; simp
   have hg : s.length ≤ 400 ∧ (splitOn 47 s).all partB = true := by simpa [goodB, splitP] using hb
   have hall : ∀ p ∈ splitOn 47 (s.take (lastB 47 s).toNat), partB p = true ∧ p.length ≤ 1000000 := by
    intro p hp
    have hp2 : p ∈ splitOn 47 s := by rw [h3]; simp [hp]
    exact ⟨List.all_eq_true.1 hg.2 p hp2, Nat.le_trans (split_short 47 s p hp2) hs⟩
   have h123 := fun c t => s123 c t (splitOn 47 (s.take (lastB 47 s).toNat)) (by omega) hall (by rw [join_split, List.length_take]; omega) (by omega)
   simp only [join_split] at h123
   have gg:=trivial;repeat' first|simp (maxSteps:=2000000) (disch:=omega) only [gg,b76,h,h6,h123,go_sem]|(refine br ?_ ?_<;>intro gg<;>try omega)|(apply And.intro;focus omega)|omega
end Go.Abs
namespace Go.Abs
open Am Lib
set_option maxRecDepth 10000
set_option maxHeartbeats 4000000 in
theorem s77 (e : Ent) (hl : e.link.length ≤ 1000000) : callT AA 77 [e.av] [] = some (.bool (fieldsB e), []) := by
 have h1 := s124 e.link 400 hl
 have h2 := s75 e.link hl
 refine enter fn77 np77 rfl ?_
 have gg:=trivial;repeat' first|simp (maxSteps:=2000000) (disch:=omega) only [gg,b77,h1,h2,go_sem]|(refine br ?_ ?_<;>intro gg<;>try omega)|(apply And.intro;focus omega)|omega
 all_goals (clear h1 h2 hl)
 all_goals first
  |(by_cases k0 : 0 < (e.data.l.length : Int) ∧ ¬ e.kind = 2
    ·have k00 : ¬ e.data.l.length = 0 := by omega
     by_cases k1 : e.kind = 1
     ·simp_all [fieldsB, metaB]; done
     ·by_cases k3 : e.kind = 3
      ·simp_all [fieldsB, metaB]; done
      ·by_cases k4 : e.kind = 4
       ·simp_all [fieldsB, metaB]; done
       ·simp_all [fieldsB, metaB]; done
    ·exfalso; omega)
  | skip
 (all_goals (first | (simp_all [fieldsB, metaB]; done) | (simp_all [fieldsB, metaB]; omega) | (simp_all [fieldsB, metaB]; intros; omega) | (simp_all [fieldsB, metaB]; rw [Bool.eq_iff_iff]; simp; done) | (simp_all [fieldsB, metaB]; rw [Bool.eq_iff_iff]; simp; omega)))
end Go.Abs
namespace Go.Abs
open Am Lib
set_option maxRecDepth 10000
theorem cmp_cases : ∀ a b : List UInt8, (compareBytes a b = -1 ∧ Op.bytesLess a b = true ∧ Op.bytesLess b a = false) ∨ (compareBytes a b = 0 ∧ a = b ∧ Op.bytesLess a b = false ∧ Op.bytesLess b a = false) ∨ (compareBytes a b = 1 ∧ Op.bytesLess a b = false ∧ Op.bytesLess b a = true)
 | [], [] => by simp [compareBytes, Op.bytesLess]
 | [], _ :: _ => by simp [compareBytes, Op.bytesLess]
 | _ :: _, [] => by simp [compareBytes, Op.bytesLess]
 | x :: a, y :: b => by
  have ih := cmp_cases a b
  have e : compareBytes (x :: a) (y :: b) = if x < y then -1 else if y < x then 1 else compareBytes a b := by rw [compareBytes]
  rw [e]
  by_cases h1 : x < y
  ·have h2 : ¬ y < x := by
    intro h; exact absurd (UInt8.lt_trans h1 h) (UInt8.lt_irrefl x)
   simp [Op.bytesLess, h1, h2]
   intro h; subst h; exact absurd h1 (UInt8.lt_irrefl _)
  ·by_cases h2 : y < x
   ·simp [Op.bytesLess, h1, h2]
    intro h; subst h; exact absurd h2 (UInt8.lt_irrefl _)
   ·have h3 : x = y := by
     have e1 := UInt8.le_antisymm (UInt8.not_lt.1 h2) (UInt8.not_lt.1 h1)
     exact e1
    subst h3
    simpa [Op.bytesLess, h1] using ih
def cmpR : List (List UInt8) → List (List UInt8) → Int
 | x :: xs, y :: ys => if compareBytes x y ≠ 0 then compareBytes x y else cmpR xs ys
 | [], [] => 0
 | [], _ :: _ => -1
 | _ :: _, [] => 1
theorem cmpR_parts : ∀ xs ys : List (List UInt8), xs ≠ [] → ys ≠ [] → cmpR xs ys = cmpParts xs ys
 | [], _, h, _ => (h rfl).elim
 | _ :: _, [], _, h => (h rfl).elim
 | [x], [y], _, _ => by rw [cmp_nn]; rfl
 | [x], y :: y2 :: ys, _, _ => by rw [cmp_ny (by simp)]; rfl
 | x :: x2 :: xs, [y], _, _ => by rw [cmp_yn (by simp)]; rfl
 | x :: x2 :: xs, y :: y2 :: ys, _, _ => by
  have ih := cmpR_parts (x2 :: xs) (y2 :: ys) (by simp) (by simp)
  rw [cmp_yy (by simp) (by simp), cmpR, ih]
set_option maxHeartbeats 4000000 in
theorem h78 (ps qs : List (List UInt8)) (hp : ps.length ≤ 2000000) (hq : qs.length ≤ 2000000) (r0 : Int) : ∀ (xs ys done1 done2 : List (List UInt8)) (i : Int), ps = done1 ++ xs → qs = done2 ++ ys → i = done1.length → i = done2.length → r0 = cmpR xs ys →
  HD AA 0 [4, 5, 6, 7] l78_0 ⟨[.junk, .junk, .junk, .junk, .int .i64 0, .own 0 1 0 ps.length false, .own 1 1 0 qs.length false, .int .i64 i, .junk, .junk, .junk, .junk, .junk, .junk, .junk, .junk, .junk, .junk, .junk, .junk, .junk, .junk, .junk, .junk, .junk, .junk, .junk, .junk, .junk, .junk, .junk, .junk, .junk, .junk, .junk, .junk, .junk, .junk, .junk, .junk, .junk, .junk, .junk, .junk, .junk, .junk, .junk, .junk, .junk, .junk, .junk, .junk], [(0, .row (ps.map .str) 1), (1, .row (qs.map .str) 1)], 2⟩ [.blk 0, .code r78_0] (Fin [(4, none)] 0 (.int .i64 r0) [])
 | [], ys, done1, done2, i, h1, h2, h3, h4, h5 => by
  have hl : ps.length = done1.length := by rw [h1]; simp
  have hl2 : qs.length = done2.length + ys.length := by rw [h2]; simp
  cases ys with
  | nil =>
   have hr : r0 = 0 := h5
   rw [List.length_nil] at hl2
   subst hr
   refine hd_of (by unfold l78_0; rfl) ?_
   have gg:=trivial;repeat' first|simp (maxSteps:=2000000) (disch:=omega) only [gg,r78_0,go_sem]|(refine br ?_ ?_<;>intro gg<;>try omega)|(apply And.intro;focus omega)|omega
  | cons y ys =>
   have hr : r0 = -1 := h5
   rw [List.length_cons] at hl2
   subst hr
   refine hd_of (by unfold l78_0; rfl) ?_
   have gg:=trivial;repeat' first|simp (maxSteps:=2000000) (disch:=omega) only [gg,r78_0,go_sem]|(refine br ?_ ?_<;>intro gg<;>try omega)|(apply And.intro;focus omega)|omega
 | x :: xs, [], done1, done2, i, h1, h2, h3, h4, h5 => by
  have hl : ps.length = done1.length + (xs.length + 1) := by rw [h1]; simp
  have hl2 : qs.length = done2.length := by rw [h2]; simp
  have hr : r0 = 1 := h5
  subst hr
  refine hd_of (by unfold l78_0; rfl) ?_
  have gg:=trivial;repeat' first|simp (maxSteps:=2000000) (disch:=omega) only [gg,r78_0,go_sem]|(refine br ?_ ?_<;>intro gg<;>try omega)|(apply And.intro;focus omega)|omega
 | x :: xs, y :: ys, done1, done2, i, h1, h2, h3, h4, h5 => by
  have hl : ps.length = done1.length + (xs.length + 1) := by rw [h1]; simp
  have hl2 : qs.length = done2.length + (ys.length + 1) := by rw [h2]; simp
  have hx1 : ps[i.toNat]? = some x := by
   rw [show i.toNat = done1.length by omega, h1, List.getElem?_append_right (by omega)]
   simp
  have hx2 : qs[i.toNat]? = some y := by
   rw [show i.toNat = done2.length by omega, h2, List.getElem?_append_right (by omega)]
   simp
  rw [cmpR] at h5
  rcases cmp_cases x y with ⟨c1, c2, c3⟩ | ⟨c1, c2, c3, c4⟩ | ⟨c1, c2, c3⟩
  ·rw [c1, if_pos (by omega)] at h5
   subst h5
   refine hd_of (by unfold l78_0; rfl) ?_
   have gg:=trivial;repeat' first|simp (maxSteps:=2000000) (disch:=omega) only [gg,hx1,hx2,c2,c3,go_sem]|(refine br ?_ ?_<;>intro gg<;>try omega)|(apply And.intro;focus omega)|omega
  ·rw [c1, if_neg (by omega)] at h5
   have ih := h78 ps qs hp hq r0 xs ys (done1 ++ [x]) (done2 ++ [y]) (i + 1) (by rw [h1]; simp) (by rw [h2]; simp) (by simp; omega) (by simp; omega) h5
   refine hd_of (by unfold l78_0; rfl) ?_
   have gg:=trivial;repeat' first|simp (maxSteps:=2000000) (disch:=omega) only [gg,hx1,hx2,c3,c4,lp_head,go_sem]|(refine br ?_ ?_<;>intro gg<;>try omega)|(apply And.intro;focus omega)|omega
  ·rw [c1, if_pos (by omega)] at h5
   have hne : ¬ x = y := by
    intro h; subst h; rw [c2] at c3; simp at c3
   subst h5
   refine hd_of (by unfold l78_0; rfl) ?_
   have gg:=trivial;repeat' first|simp (maxSteps:=2000000) (disch:=omega) only [gg,hx1,hx2,c2,c3,hne,go_sem]|(refine br ?_ ?_<;>intro gg<;>try omega)|(apply And.intro;focus omega)|omega
theorem s78 (a b : List UInt8) (ha : a.length ≤ 1000000) (hb : b.length ≤ 1000000) : callT AA 78 [.str a, .str b] [] = some (.int .i64 (cmpPath a b), []) := by
 have h1 := s125 a ha
 have h2 := s125 b hb
 have hh := h78 (splitOn 47 a) (splitOn 47 b) (split_n a ha) (split_n b hb) (cmpPath a b) (splitOn 47 a) (splitOn 47 b) [] [] 0 rfl rfl rfl rfl (cmpR_parts _ _ (splitOn_ne 47 a) (splitOn_ne 47 b)).symm
 refine enter fn78 np78 rfl ?_
 have gg:=trivial;repeat' first|simp (maxSteps:=2000000) (disch:=omega) only [gg,b78,h1,h2,lp_head,go_sem]|(refine br ?_ ?_<;>intro gg<;>try omega)|(apply And.intro;focus omega)|omega
end Go.Abs
namespace Go.Abs
open Am Lib
set_option maxRecDepth 10000
def kindF (p : List UInt8) : List Ent → Int
 | [] => 0
 | e :: r => if e.path = p then e.kind else kindF p r
set_option maxHeartbeats 2000000 in
theorem h79 (c tmp : Bool) (t : List Ent) (ht : t.length ≤ 1000000) (p : List UInt8) (n : Int) (hn : n ≤ t.length) (r0 : Int) : ∀ (rest done : List Ent) (i : Int), t = done ++ rest → i = done.length → i ≤ n → r0 = kindF p (rest.take (n - i).toNat) →
  HD AA 0 [0, 1, 2, 6, 7] l79_0 ⟨[.view 8 (t.map Ent.av) c tmp, .int .i64 n, .str p, .junk, .junk, .junk, .int .i64 0, .int .i64 i, .junk, .junk, .junk, .junk, .junk, .junk, .junk, .junk, .junk, .junk, .junk, .junk, .junk, .junk, .junk, .junk, .junk], [], 0⟩ [.blk 0, .code r79_0] (Fin [(6, none)] 0 (.int .i64 r0) [])
 | [], done, i, h1, h2, h3, h5 => by
  have hl : t.length = done.length := by rw [h1]; simp
  have hr : r0 = 0 := by rw [h5]; simp [kindF]
  subst hr
  refine hd_of (by unfold l79_0; rfl) ?_
  have gg:=trivial;repeat' first|simp (maxSteps:=2000000) (disch:=omega) only [gg,r79_0,go_sem]|(refine br ?_ ?_<;>intro gg<;>try omega)|(apply And.intro;focus omega)|omega
 | e :: rest, done, i, h1, h2, h3, h5 => by
  have hl : t.length = done.length + (rest.length + 1) := by rw [h1]; simp
  by_cases h6 : i = n
  ·have hr : r0 = 0 := by rw [h5, h6]; simp [kindF]
   subst hr
   refine hd_of (by unfold l79_0; rfl) ?_
   have gg:=trivial;repeat' first|simp (maxSteps:=2000000) (disch:=omega) only [gg,r79_0,go_sem]|(refine br ?_ ?_<;>intro gg<;>try omega)|(apply And.intro;focus omega)|omega
  ·have hx : t[i.toNat]? = some e := by
    rw [show i.toNat = done.length by omega, h1, List.getElem?_append_right (by omega)]
    simp
   have e1 : (n - i).toNat = (n - (i + 1)).toNat + 1 := by omega
   rw [e1, List.take_succ_cons, kindF] at h5
   by_cases h7 : e.path = p
   ·rw [if_pos h7] at h5
    subst h5
    refine hd_of (by unfold l79_0; rfl) ?_
    have gg:=trivial;repeat' first|simp (maxSteps:=2000000) (disch:=omega) only [gg,hx,h7,go_sem]|(refine br ?_ ?_<;>intro gg<;>try omega)|(apply And.intro;focus omega)|omega
   ·rw [if_neg h7] at h5
    have ih := h79 c tmp t ht p n hn r0 rest (done ++ [e]) (i + 1) (by rw [h1]; simp) (by simp; omega) (by omega) h5
    refine hd_of (by unfold l79_0; rfl) ?_
    have gg:=trivial;repeat' first|simp (maxSteps:=2000000) (disch:=omega) only [gg,hx,h7,lp_head,go_sem]|(refine br ?_ ?_<;>intro gg<;>try omega)|(apply And.intro;focus omega)|omega
theorem s79 (c tmp : Bool) (t : List Ent) (ht : t.length ≤ 1000000) (p : List UInt8) (n : Int) (h0 : 0 ≤ n) (hn : n ≤ t.length) : callT AA 79 [.view 8 (t.map Ent.av) c tmp, .int .i64 n, .str p] [] = some (.int .i64 (kindF p (t.take n.toNat)), []) := by
 have hh := h79 c tmp t ht p n hn (kindF p (t.take n.toNat)) t [] 0 rfl rfl h0 (by rw [show (n - 0).toNat = n.toNat by omega])
 refine enter fn79 np79 rfl ?_
 have gg:=trivial;repeat' first|simp (maxSteps:=2000000) (disch:=omega) only [gg,b79,lp_head,go_sem]|(refine br ?_ ?_<;>intro gg<;>try omega)|(apply And.intro;focus omega)|omega
theorem bl_trans : ∀ a b c : List UInt8, Op.bytesLess a b = true → Op.bytesLess b c = true → Op.bytesLess a c = true
 | _, _, [], _, h => by simp [Op.bytesLess] at h
 | _, [], _ :: _, h, _ => by simp [Op.bytesLess] at h
 | [], _ :: _, _ :: _, _, _ => by simp [Op.bytesLess]
 | x :: a, y :: b, z :: c, h1, h2 => by
  have ih := bl_trans a b c
  simp only [Op.bytesLess, Bool.or_eq_true, decide_eq_true_eq, Bool.and_eq_true, beq_iff_eq] at h1 h2 ⊢
  rcases h1 with h1 | ⟨h1, h3⟩
  ·rcases h2 with h2 | ⟨h2, h4⟩
   ·exact Or.inl (UInt8.lt_trans h1 h2)
   ·subst h2; exact Or.inl h1
  ·subst h1
   rcases h2 with h2 | ⟨h2, h4⟩
   ·exact Or.inl h2
   ·exact Or.inr ⟨h2, ih h3 h4⟩
theorem cmp_trans (a b c : List UInt8) (h1 : compareBytes a b = -1) (h2 : compareBytes b c = -1) : compareBytes a c = -1 := by
 have h3 : Op.bytesLess a b = true := by
  rcases cmp_cases a b with ⟨e1, e2, _⟩ | ⟨e1, _⟩ | ⟨e1, _⟩
  ·exact e2
  all_goals omega
 have h4 : Op.bytesLess b c = true := by
  rcases cmp_cases b c with ⟨e1, e2, _⟩ | ⟨e1, _⟩ | ⟨e1, _⟩
  ·exact e2
  all_goals omega
 have h5 := bl_trans a b c h3 h4
 rcases cmp_cases a c with ⟨e1, _⟩ | ⟨_, _, e2, _⟩ | ⟨_, e2, _⟩
 ·exact e1
 ·rw [h5] at e2; simp at e2
 ·rw [h5] at e2; simp at e2
theorem cmp_self (a : List UInt8) : compareBytes a a = 0 := by
 rcases cmp_cases a a with h | h | h <;> simp_all
theorem cmp_zero {a b : List UInt8} (h : compareBytes a b = 0) : a = b := by
 rcases cmp_cases a b with h1 | h1 | h1 <;> simp_all
theorem cmpR_self : ∀ a : List (List UInt8), cmpR a a = 0
 | [] => rfl
 | x :: a => by rw [cmpR, cmp_self, if_neg (by omega), cmpR_self a]
theorem cmpR_range : ∀ a b : List (List UInt8), cmpR a b = -1 ∨ cmpR a b = 0 ∨ cmpR a b = 1
 | [], [] => by simp [cmpR]
 | [], _ :: _ => by simp [cmpR]
 | _ :: _, [] => by simp [cmpR]
 | x :: a, y :: b => by
  have ih := cmpR_range a b
  rw [cmpR]
  split
  ·rcases cmp_cases x y with h | h | h <;> omega
  ·exact ih
theorem cmpR_trans : ∀ a b c : List (List UInt8), cmpR a b = -1 → cmpR b c = -1 → cmpR a c = -1
 | _, _ :: _, [], _, h => by simp [cmpR] at h
 | _, [], [], _, h => by simp [cmpR] at h
 | _ :: _, [], _ :: _, h, _ => by simp [cmpR] at h
 | [], _, _ :: _, _, _ => by simp [cmpR]
 | x :: a, y :: b, z :: c, h1, h2 => by
  have ih := cmpR_trans a b c
  rw [cmpR] at h1 h2 ⊢
  by_cases g1 : compareBytes x y = 0
  ·have e := cmp_zero g1
   subst e
   rw [g1, if_neg (by omega)] at h1
   by_cases g2 : compareBytes x z = 0
   ·rw [g2, if_neg (by omega)] at h2 ⊢
    exact ih h1 h2
   ·rw [if_pos g2] at h2 ⊢
    exact h2
  ·rw [if_pos g1] at h1
   by_cases g2 : compareBytes y z = 0
   ·have e := cmp_zero g2
    subst e
    rw [if_pos (by omega)]
    exact h1
   ·rw [if_pos g2] at h2
    have h3 := cmp_trans x y z h1 h2
    rw [if_pos (by omega)]
    exact h3
theorem path_eq (a b : List UInt8) : cmpPath a b = cmpR (splitOn 47 a) (splitOn 47 b) := (cmpR_parts _ _ (splitOn_ne 47 a) (splitOn_ne 47 b)).symm
theorem path_self (a : List UInt8) : cmpPath a a = 0 := by rw [path_eq, cmpR_self]
theorem path_trans {a b c : List UInt8} (h1 : cmpPath a b = -1) (h2 : cmpPath b c = -1) : cmpPath a c = -1 := by
 rw [path_eq] at *
 exact cmpR_trans _ _ _ h1 h2
theorem path_range (a b : List UInt8) : cmpPath a b = -1 ∨ cmpPath a b = 0 ∨ cmpPath a b = 1 := by
 rw [path_eq]
 exact cmpR_range _ _
end Go.Abs
namespace Go.Abs
open Am Go.Lib
theorem cmpR_flip : ∀ a b : List (List UInt8), cmpR b a = - cmpR a b
 | [], [] => rfl
 | [], _ :: _ => rfl
 | _ :: _, [] => rfl
 | x :: a, y :: b => by
  have ih := cmpR_flip a b
  have h := cmp_cases x y
  have h2 := cmp_cases y x
  rw [cmpR, cmpR]
  rcases h with ⟨e, l1, l2⟩ | ⟨e, rfl, l1, l2⟩ | ⟨e, l1, l2⟩
  ·have : compareBytes y x = 1 := by
    rcases h2 with ⟨e2, m1, _⟩ | ⟨e2, _, m1, m2⟩ | ⟨e2, _⟩
    ·rw [l2] at m1; cases m1
    ·rw [l1] at m2; cases m2
    ·exact e2
   rw [e, this, if_pos (by decide), if_pos (by decide)]
   rfl
  ·rw [e, if_neg (by simp), if_neg (by simp)]
   exact ih
  ·have : compareBytes y x = -1 := by
    rcases h2 with ⟨e2, _⟩ | ⟨e2, rfl, _⟩ | ⟨e2, m1, m2⟩
    ·exact e2
    ·rw [e2] at e; cases e
    ·simp_all
   rw [e, this, if_pos (by decide), if_pos (by decide)]
theorem cmpR_zero : ∀ a b : List (List UInt8), cmpR a b = 0 → a = b
 | [], [], _ => rfl
 | [], _ :: _, h => by simp [cmpR] at h
 | _ :: _, [], h => by simp [cmpR] at h
 | x :: a, y :: b, h => by
  rw [cmpR] at h
  by_cases g : compareBytes x y = 0
  ·rw [if_neg (by simpa using g)] at h
   rw [cmp_zero g, cmpR_zero a b h]
  ·rw [if_pos g] at h
   exact absurd h g
theorem path_flip (a b : List UInt8) : cmpPath b a = - cmpPath a b := by
 rw [path_eq, path_eq]
 exact cmpR_flip _ _
theorem path_zero {a b : List UInt8} (h : cmpPath a b = 0) : a = b := by
 rw [path_eq] at h
 have e := cmpR_zero _ _ h
 rw [← join_split a, ← join_split b, e]
def pLt (a b : List UInt8) : Bool := decide (cmpPath a b < 0)
theorem pLt_iff {a b : List UInt8} : pLt a b = true ↔ cmpPath a b = -1 := by
 unfold pLt
 rw [decide_eq_true_eq]
 rcases path_range a b with h | h | h <;> omega
theorem pLt_irrefl (a : List UInt8) : pLt a a = false := by
 unfold pLt
 rw [path_self]
 rfl
theorem pLt_trans {a b c : List UInt8} (h1 : pLt a b = true) (h2 : pLt b c = true) : pLt a c = true := pLt_iff.2 (path_trans (pLt_iff.1 h1) (pLt_iff.1 h2))
theorem pLt_total {a b : List UInt8} (h1 : pLt a b = false) (h2 : pLt b a = false) : a = b := by
 unfold pLt at h1 h2
 rw [decide_eq_false_iff_not] at h1 h2
 rw [path_flip a b] at h2
 exact path_zero (by omega)
theorem pLt_asymm {a b : List UInt8} (h1 : pLt a b = true) : pLt b a = false := by
 cases h : pLt b a with
 | false => rfl
 | true =>
  have := pLt_trans h1 h
  rw [pLt_irrefl] at this
  cases this
theorem pLt_ntrans {a b c : List UInt8} (h1 : pLt a b = false) (h2 : pLt b c = false) : pLt a c = false := by
 cases h : pLt a c with
 | false => rfl
 | true =>
  cases hb : pLt b a with
  | true =>
   have := pLt_trans hb h
   rw [h2] at this
   cases this
  | false =>
   have e := pLt_total h1 hb
   subst e
   rw [h2] at h
   cases h
end Go.Abs
namespace Go.Abs
open Am Go.Proofs Go.RowKit
set_option maxRecDepth 100000
def pth : AVal → List UInt8
 | .agg [.str p, _, _, _, _, _, _, _] => p
 | _ => []
def pthOk : AVal → Bool
 | .agg [.str p, _, _, _, _, _, _, _] => decide (p.length ≤ 1000000)
 | _ => false
def insK {α : Type} (f : α → List UInt8) (x : α) : List α → List α
 | [] => [x]
 | y :: r => if pLt (f x) (f y) = true then x :: y :: r else y :: insK f x r
def sortK {α : Type} (f : α → List UInt8) : List α → List α
 | [] => []
 | x :: r => insK f x (sortK f r)
section
variable {α β : Type} (f : α → List UInt8)
theorem insK_perm (x : α) : ∀ l : List α, (insK f x l).Perm (x :: l)
 | [] => .refl _
 | y :: r => by
  unfold insK
  split
  ·exact .refl _
  ·exact ((insK_perm x r).cons y).trans (.swap x y r)
theorem sortK_perm : ∀ l : List α, (sortK f l).Perm l
 | [] => .refl _
 | x :: r => (insK_perm f x _).trans ((sortK_perm r).cons x)
def Srt (l : List α) : Prop := l.Pairwise fun a b => pLt (f a) (f b) = true
theorem insK_srt {x : α} : ∀ {l : List α}, Srt f l → (∀ y ∈ l, f x ≠ f y) → Srt f (insK f x l)
 | [], _, _ => by simp [insK, Srt]
 | y :: r, h, hn => by
  unfold insK
  obtain ⟨h1, h2⟩ := List.pairwise_cons.1 h
  split
  ·rename_i hl
   refine List.pairwise_cons.2 ⟨fun z hz => ?_, h⟩
   rcases List.mem_cons.1 hz with rfl | hz
   ·exact hl
   ·exact pLt_trans hl (h1 z hz)
  ·rename_i hl
   refine List.pairwise_cons.2 ⟨fun z hz => ?_, insK_srt h2 fun z hz => hn z (by simp [hz])⟩
   rcases List.mem_cons.1 ((insK_perm f x r).mem_iff.1 hz) with rfl | hz
   ·cases hh : pLt (f y) (f z) with
    | true => rfl
    | false => exact absurd (pLt_total (by simpa using hl) hh) (hn y (by simp))
   ·exact h1 z hz
theorem sortK_srt : ∀ {l : List α}, (l.map f).Nodup → Srt f (sortK f l)
 | [], _ => List.Pairwise.nil
 | x :: r, h => by
  rw [List.map_cons, List.nodup_cons] at h
  refine insK_srt f (sortK_srt h.2) fun y hy he => h.1 ?_
  rw [he]
  exact List.mem_map_of_mem ((sortK_perm f r).mem_iff.1 hy)
theorem srt_unique : ∀ {a b : List α}, Srt f a → Srt f b → (∀ x, x ∈ a ↔ x ∈ b) → a = b
 | [], [], _, _, _ => rfl
 | [], y :: b, _, _, h => absurd ((h y).2 (by simp)) (by simp)
 | x :: a, [], _, _, h => absurd ((h x).1 (by simp)) (by simp)
 | x :: a, y :: b, ha, hb, h => by
  obtain ⟨a1, a2⟩ := List.pairwise_cons.1 ha
  obtain ⟨b1, b2⟩ := List.pairwise_cons.1 hb
  have irr : ∀ z, ¬ pLt (f z) (f z) = true := fun z hz => by rw [pLt_irrefl] at hz; cases hz
  have e : x = y := by
   rcases List.mem_cons.1 ((h x).1 (by simp)) with e | hx
   ·exact e
   ·rcases List.mem_cons.1 ((h y).2 (by simp)) with e | hy
    ·exact e.symm
    ·exact absurd (pLt_trans (b1 x hx) (a1 y hy)) (irr y)
  subst e
  rw [srt_unique a2 b2 fun z => ?_]
  constructor
  ·intro hz
   rcases List.mem_cons.1 ((h z).1 (by simp [hz])) with rfl | h1
   ·exact absurd (a1 z hz) (irr z)
   ·exact h1
  ·intro hz
   rcases List.mem_cons.1 ((h z).2 (by simp [hz])) with rfl | h1
   ·exact absurd (b1 z hz) (irr z)
   ·exact h1
theorem insK_map {g : β → α} (x : β) : ∀ l : List β, insK f (g x) (l.map g) = (insK (fun b => f (g b)) x l).map g
 | [] => rfl
 | y :: r => by
  simp only [List.map_cons, insK]
  split
  ·rfl
  ·rw [insK_map x r]
   rfl
theorem sortK_map {g : β → α} : ∀ l : List β, sortK f (l.map g) = (sortK (fun b => f (g b)) l).map g
 | [] => rfl
 | x :: r => by
  simp only [List.map_cons, sortK]
  rw [sortK_map r, insK_map]
end
def sortH : List AVal → Heap → Option (AVal × Heap)
 | [.lit (.slice none 0 0), .func (.func 86) []], h => some (.tuple [], h)
 | [.own id 8 0 n false, .func (.func 86) []], h => match h.get id with
  | some (.row es 8) => if es.length = n ∧ 0 < n ∧ n ≤ 1000000 ∧ es.all pthOk = true ∧ (es.map pth).Nodup then some (.tuple [], h.put id (.row (sortK pth es) 8)) else none
  | _ => none
 | _, _ => none
theorem pthOk_inv {e : AVal} (h : pthOk e = true) : ∃ p x1 x2 x3 x4 x5 x6 x7, e = .agg [.str p, x1, x2, x3, x4, x5, x6, x7] ∧ p.length ≤ 1000000 := by
 unfold pthOk at h
 split at h
 ·exact ⟨_, _, _, _, _, _, _, _, rfl, by simpa using h⟩
 ·cases h
theorem Inv.grown {ι : Emb} {S T : Nat → Prop} {h : Heap} {w w' : World} {next : Free} (hi : Inv ι S T h w next) (hold : ∀ b, b < w.heap.size → w'.heap[b]? = w.heap[b]?) (hsz : w.heap.size ≤ w'.heap.size) (hos : w'.os = w.os) (htape : w'.tape = w.tape) (hout : w'.output = w.output) :
  Inv ι S T h w' next ∧ Step ι S T h w ι S h w' := by
 have hst : ∀ b, S b ∨ T b → w'.heap[b]? = w.heap[b]? := fun b hb => hold b (hb.elim (hi.s_lt b) (hi.t_lt b))
 refine ⟨⟨hi.nodup, ?_, hi.inj, hi.fresh, fun b hb => Nat.lt_of_lt_of_le (hi.s_lt b hb) hsz, fun b hb => Nat.lt_of_lt_of_le (hi.t_lt b hb) hsz⟩, ⟨fun _ _ h => h, fun _ h => h, fun b hb _ => hold b hb, hsz, fun _ h => .inr h, fun _ h => .inl h, hos, htape, hout⟩⟩
 intro k m hkm
 obtain ⟨L', h1, h2, h3, h4⟩ := hi.node k m hkm
 have hlt := hi.block_lt hkm h1
 exact ⟨L', h1, h2, h3, h4.mono (fun _ _ h => h) (fun _ h => h) (fun _ h => h) hst (hold _ hlt)⟩
end Go.Abs
namespace Go.Abs
open Am Go.Proofs Go.RowKit Go.Sort
set_option maxRecDepth 100000
def encA (arr : Array Value) {n : Nat} (i : _root_.Fin n) : List Value := (List.range 8).map fun j => arr.getD (i.1 * 8 + j) undef
theorem encA_len (arr : Array Value) {n : Nat} (i : _root_.Fin n) : (encA arr i).length = 8 := by simp [encA]
theorem encA_get (arr : Array Value) {n : Nat} (i : _root_.Fin n) {j : Nat} (hj : j < 8) : (encA arr i)[j]? = some (arr.getD (i.1 * 8 + j) undef) := by
 unfold encA
 rw [List.getElem?_map, List.getElem?_range hj]
 rfl
theorem encA_array (arr : Array Value) {n : Nat} (i : _root_.Fin n) : (encA arr i).toArray = #[arr.getD (i.1 * 8 + 0) undef, arr.getD (i.1 * 8 + 1) undef, arr.getD (i.1 * 8 + 2) undef, arr.getD (i.1 * 8 + 3) undef, arr.getD (i.1 * 8 + 4) undef, arr.getD (i.1 * 8 + 5) undef, arr.getD (i.1 * 8 + 6) undef, arr.getD (i.1 * 8 + 7) undef] := rfl
section
variable {ι : Emb} {S T : Nat → Prop} {w : World}
set_option maxHeartbeats 1000000 in
theorem sort_own {h : Heap} {id n : Nat} {es : List AVal} {v : Value} (hi : Inv ι S T h w (Free.above h.length)) (r1 : Rep ι S T w (.own id 8 0 n false) v) (hg : h.get id = some (.row es 8)) (hl : es.length = n) (hn : 0 < n) (hn2 : n ≤ 1000000)
  (hp : es.all pthOk = true) (hd : (es.map pth).Nodup) : Go.Calls Tryz.prog 85 #[v, .func (.func 86) #[] #[]] w fun e w' => e = .returned (.tuple #[]) ∧ Back ι S T h w (.tuple []) (h.put id (.row (sortK pth es) 8)) (.tuple #[]) w' := by
 obtain ⟨L, hL, hSb, hTb, hN⟩ := hi.node _ _ (Heap.get_mem hg)
 have hmem := Heap.get_mem hg
 cases r1 with
 | own _ _ _ _ _ L' c o hL' hsz hc hcap hclip hnc ho =>
 rw [hL] at hL'
 cases hL'
 have ho := ho (by omega)
 rw [Nat.zero_mul] at ho
 subst ho
 obtain ⟨q1, q2, q3, q4, arr, ty, q5, q6, q7⟩ := hN
 have hblk : L.block < w.heap.size := (Array.getElem?_eq_some_iff.1 q5).1
 haveI : Inhabited (_root_.Fin n) := ⟨⟨0, hn⟩⟩
 have hcelllen : ∀ (k : Nat), k < n → k * 8 + 8 ≤ L.cap * 8 := by
  intro k hk
  omega
 have hcell : ∀ (k j : Nat) (hk : k < n), j < 8 → arr[k * 8 + j]? = some (arr.getD (k * 8 + j) undef) := by
  intro k j hk hj
  have : k * 8 + j < arr.size := by rw [q6]; omega
  rw [Array.getD, dif_pos this, Array.getElem?_eq_getElem this]
  rfl
 have hrep : ∀ (k j : Nat) (e x : AVal), es[k]? = some e → e.cells[j]? = some x → Rep ι S T w x (arr.getD (k * 8 + j) undef) := by
  intro k j e x he hx
  obtain ⟨e1, e2, e3⟩ := q7 k e he
  obtain ⟨u, hu, hr⟩ := e3 j x hx
  have hk : k < n := by have := (List.getElem?_eq_some_iff.1 he).1; omega
  have hj : j < 8 := by have := (List.getElem?_eq_some_iff.1 hx).1; omega
  rw [hcell k j hk hj] at hu
  rw [Option.some.inj hu]
  exact hr
 have hes : ∀ i : _root_.Fin n, ∃ e, es[i.1]? = some e := fun i => ⟨es[i.1]'(by have := i.2; omega), List.getElem?_eq_getElem _⟩
 let ex : _root_.Fin n → AVal := fun i => es[i.1]'(by have := i.2; omega)
 have hex : ∀ i : _root_.Fin n, es[i.1]? = some (ex i) := fun i => List.getElem?_eq_getElem _
 have hexok : ∀ i : _root_.Fin n, pthOk (ex i) = true := fun i => List.all_eq_true.1 hp _ (List.getElem_mem _)
 have hone : ∀ (x : _root_.Fin n), ∀ v ∈ encA arr x, v.oneCell' = true := by
  intro i v hv
  obtain ⟨j, hj, rfl⟩ := List.mem_map.1 hv
  have hj8 := List.mem_range.1 hj
  obtain ⟨p, x1, x2, x3, x4, x5, x6, x7, e1, _⟩ := pthOk_inv (hexok i)
  have hcl := (q7 i.1 (ex i) (hex i)).2.1
  have hlen := (q7 i.1 (ex i) (hex i)).1
  have hx : (ex i).cells[j]? = some ((ex i).cells[j]'(by omega)) := List.getElem?_eq_getElem _
  exact (hrep i.1 j (ex i) _ (hex i) hx).oneCell (closed_leaf hcl hx)
 let cf : _root_.Fin n → _root_.Fin n → Int := fun i j => cmpPath (pth (ex i)) (pth (ex j))
 have hlt : ∀ i j, ltOf cf i j = pLt (pth (ex i)) (pth (ex j)) := fun _ _ => rfl
 have hO : SWO (ltOf cf) := ⟨fun x => pLt_irrefl _, fun x y z h1 h2 => pLt_trans h1 h2, fun x y z h1 h2 => pLt_ntrans h1 h2⟩
 have hT : ∀ x y, (ltOf cf) x y = false → (ltOf cf) y x = false → x = y := by
  intro x y h1 h2
  have e := pLt_total h1 h2
  have g1 : (es.map pth)[x.1]? = some (pth (ex x)) := by rw [List.getElem?_map, hex x]; rfl
  have g2 : (es.map pth)[y.1]? = some (pth (ex y)) := by rw [List.getElem?_map, hex y]; rfl
  refine _root_.Fin.ext ?_
  have l1 := (List.getElem?_eq_some_iff.1 g1)
  have l2 := (List.getElem?_eq_some_iff.1 g2)
  obtain ⟨b1, c1⟩ := l1
  obtain ⟨b2, c2⟩ := l2
  exact (List.getElem_inj hd).1 (by rw [c1, c2, e])
 have eg : ∀ args w, (callFunc 86 args).run Tryz.prog w = .ok (.enter 86 args) w := enters_of Tryz.func86 (by kernel_rfl) rfl
 have hcmp : ∀ (d : Array (_root_.Fin n)), CmpLays Tryz.prog 86 #[] (encA arr) 8 cf L.block 0 d.size w := by
  intro d m os dk _ x y
  obtain ⟨p, x1, x2, x3, x4, x5, x6, x7, e1, p1⟩ := pthOk_inv (hexok x)
  obtain ⟨p', y1, y2, y3, y4, y5, y6, y7, e2, p2⟩ := pthOk_inv (hexok y)
  have k1 := hrep x.1 0 (ex x) (.str p) (hex x) (by rw [e1]; rfl)
  have k2 := hrep y.1 0 (ex y) (.str p') (hex y) (by rw [e2]; rfl)
  have z1 : pth (ex x) = p := by rw [e1]; rfl
  have z2 : pth (ex y) = p' := by rw [e2]; rfl
  have hcf : cf x y = cmpPath p p' := by
   show cmpPath (pth (ex x)) (pth (ex y)) = _
   rw [z1, z2]
  rw [hcf, encA_array, encA_array, k1.str_inv, k2.str_inv, Array.append_empty]
  generalize sortWorldK (encA arr) 8 w L.block 0 m dk os = W
  exact YtambgnjkakdoeaaGreatDoor.clo86 p p' p1 p2 _ _ _ _ _ _ _ _ _ _ _ _ _ _ _
 let d : Array (_root_.Fin n) := Array.ofFn fun i => i
 have hds : d.size = n := Array.size_ofFn
 have hdl : d.toList = List.finRange n := by
  show (Array.ofFn fun i : _root_.Fin n => i).toList = _
  rw [Array.toList_ofFn]
  rfl
 have hdg : ∀ k : Nat, (hk : k < n) → d[k]! = ⟨k, hk⟩ := by
  intro k hk
  rw [getElem!_pos d k (by rw [hds]; exact hk)]
  exact Array.getElem_ofFn _
 have hH : HoldsK (encA arr) 8 w L.block 0 d := by
  intro t ht
  rw [size_flatK, hds] at ht
  have hk : t / 8 < n := (Nat.div_lt_iff_lt_mul (by omega)).2 ht
  have hj : t % 8 < 8 := Nat.mod_lt _ (by omega)
  have e1 : (flatK (encA arr) 8 d)[t]! = arr.getD t undef := by
   rw [get_flatK _ _ _ _ (by rw [hds]; exact ht), hdg _ hk]
   have g := encA_get arr (⟨t / 8, hk⟩ : _root_.Fin n) hj
   have e : t / 8 * 8 + t % 8 = t := by omega
   simp only [e] at g
   rw [List.getElem!_eq_getElem?_getD, g]
   rfl
  have h2 := hcell (t / 8) (t % 8) hk hj
  rw [show t / 8 * 8 + t % 8 = t by omega] at h2
  refine ⟨?_, ?_⟩
  ·rw [e1]
   simp only [World.cell?, q5, Nat.zero_add]
   exact h2
  ·simp [World.frozen?, q5]
 have hcon := AnyQ.slices_SortFunc_total Tryz.sortE 8 (fun w => by kernel_rfl) (fun w => by kernel_rfl) (encA arr) (encA_len arr) hone cf hO 86 #[] L.block 0 c d w eg (hcmp d) hH hblk (by rw [hds]; omega) hT
 change Go.Calls Tryz.prog 85 _ _ _ at hcon
 rw [hds] at hcon
 refine hcon.mono ?_
 clear hcon hcmp eg hH
 rintro e w' ⟨rfl, m, os, hw⟩
 refine ⟨rfl, ?_⟩
 rw [hdl] at hw
 obtain ⟨dl, hdl2⟩ : ∃ dl, ((List.finRange n).mergeSort fun x y => !ltOf cf y x) = dl := ⟨_, rfl⟩
 rw [hdl2] at hw
 have hperm : dl.Perm (List.finRange n) := hdl2 ▸ List.mergeSort_perm _ _
 have hnd : dl.Nodup := hperm.nodup_iff.2 (List.nodup_finRange n)
 have hpw : dl.Pairwise fun x y => (!ltOf cf y x) = true := hdl2 ▸ List.pairwise_mergeSort (fun a b c h1 h2 => by
   simp only [Bool.not_eq_true'] at h1 h2 ⊢
   exact hO.ntrans c b a h2 h1) (fun a b => by
   cases h1 : ltOf cf b a with
   | false => simp
   | true =>
    have h2 : ltOf cf a b = false := pLt_asymm h1
    simp [h2]) _
 have hll : dl.length = n := by rw [hperm.length_eq, List.length_finRange]
 have hmapes : (List.finRange n).map ex = es := by
  refine List.ext_getElem (by rw [List.length_map, List.length_finRange, hl]) fun i h1 h2 => ?_
  rw [List.getElem_map, List.getElem_finRange]
  rfl
 have hsort : sortK pth es = dl.map ex := by
  refine srt_unique pth (sortK_srt pth hd) ?_ fun x => ?_
  ·refine List.pairwise_map.2 ((hpw.and hnd).imp ?_)
   rintro a b ⟨h1, h2⟩
   cases h3 : pLt (pth (ex a)) (pth (ex b)) with
   | true => rfl
   | false =>
    have h4 : ltOf cf b a = false := by simpa using h1
    exact absurd (hT a b h3 h4) h2
  ·rw [(sortK_perm pth es).mem_iff]
   conv => lhs; rw [← hmapes]
   exact (hperm.map ex).mem_iff.symm
 have hFs : (flatK (encA arr) 8 dl.toArray).size = n * 8 := by rw [size_flatK, List.size_toArray, hll]
 have hFg : ∀ (i j : Nat) (k : _root_.Fin n), dl[i]? = some k → j < 8 → (flatK (encA arr) 8 dl.toArray)[i * 8 + j]! = arr.getD (k.1 * 8 + j) undef := by
  intro i j k hk hj
  have hi' := (List.getElem?_eq_some_iff.1 hk).1
  rw [get_flatK _ _ _ _ (by rw [List.size_toArray, hll]; omega), show (i * 8 + j) / 8 = i by omega, show (i * 8 + j) % 8 = j by omega]
  have e1 : dl.toArray[i]! = k := by
   rw [List.getElem!_toArray, List.getElem!_eq_getElem?_getD, hk]
   rfl
  rw [e1, List.getElem!_eq_getElem?_getD, encA_get arr k hj]
  rfl
 obtain ⟨F, hF⟩ : ∃ F, flatK (encA arr) 8 dl.toArray = F := ⟨_, rfl⟩
 rw [hF] at hFs hFg
 have hw2 : w' = grow (putRow _root_.id (Sort.ahead w m) L.block 0 F) os := by rw [hw, ← hF]; rfl
 obtain ⟨w1, hw1⟩ : ∃ w1, putRow _root_.id (Sort.ahead w m) L.block 0 F = w1 := ⟨_, rfl⟩
 rw [hw1] at hw2
 have g1 : ∀ b, b ≠ L.block → w1.heap[b]? = w.heap[b]? := by
  intro b hb
  rw [← hw1]
  simp only [putRow, mapBlock, Array.getElem?_modify, heap_ahead]
  rw [if_neg (fun h => hb h.symm)]
 have g2 : w1.heap[L.block]? = some (.cells (putCells _root_.id 0 F arr) ty (0, 0)) := by
  rw [← hw1]
  simp only [putRow, mapBlock, Array.getElem?_modify, heap_ahead, q5, if_true, Option.map_some, onCells]
 have g3 : w1.heap.size = w.heap.size := by
  rw [← hw1]
  simp [putRow, mapBlock]
 obtain ⟨i1, s1⟩ := hi.set (w' := w1) hmem hL g1 g3 (by rw [← hw1]; rfl) (by rw [← hw1]; rfl) (by rw [← hw1]; rfl) (n := .row (sortK pth es) 8) (by
  intro hm
  refine ⟨q1, q2, by rw [(sortK_perm pth es).length_eq]; exact q3, q4, putCells _root_.id 0 F arr, ty, g2, by simp [putCells, q6], fun i e he => ?_⟩
  rw [hsort, List.getElem?_map] at he
  obtain ⟨k, hk, rfl⟩ := Option.map_eq_some_iff.1 he
  obtain ⟨z1, z2, _⟩ := q7 k.1 (ex k) (hex k)
  refine ⟨z1, z2, fun j x hx => ?_⟩
  have hj : j < 8 := by have := (List.getElem?_eq_some_iff.1 hx).1; omega
  have hi' := (List.getElem?_eq_some_iff.1 hk).1
  refine ⟨arr.getD (k.1 * 8 + j) undef, ?_, hm _ _ (hrep k.1 j (ex k) x (hex k) hx)⟩
  have hlt2 : i * 8 + j < arr.size := by rw [q6]; omega
  simp only [putCells, Array.getElem?_mapIdx, Array.getElem?_eq_getElem hlt2, Option.map_some, Nat.zero_le, true_and, Nat.zero_add, Nat.sub_zero, hFs]
  rw [if_pos (by omega), hFg i j k hk hj]
  rfl)
 obtain ⟨i2, s2⟩ := Inv.grown (w' := w') i1 (fun b hb => by
  rw [hw2]
  show (w1.heap ++ os)[b]? = _
  rw [Array.getElem?_append_left hb]) (by
  rw [hw2]
  show _ ≤ (w1.heap ++ os).size
  simp) (by rw [hw2]; rfl) (by rw [hw2]; rfl) (by rw [hw2]; rfl)
 exact ⟨ι, S, _, .tuple [] #[] rfl (by simp), i2, s1.trans s2⟩
end
end Go.Abs
namespace Go.Abs
open Am Go.Proofs Go.RowKit Go.Sort
set_option maxRecDepth 100000
theorem sort_ok {args : List AVal} {h h' : Heap} {r : AVal} (hr : sortH args h = some (r, h')) {ι : Emb} {S T : Nat → Prop} {w : World} {vals : Array Value} (hi : Inv ι S T h w (Free.above h.length)) (hl : args.length = vals.size) (hv : ∀ (i : Nat) (c : AVal) (v : Value), args[i]? = some c → vals[i]? = some v → Rep ι S T w c v) :
  CallOK Tryz.prog 85 vals w (Back ι S T h w r h') := by
 unfold sortH at hr
 split at hr
 ·simp only [Option.some.injEq, Prod.mk.injEq] at hr
  obtain ⟨rfl, rfl⟩ := hr
  obtain ⟨v, u, rfl, r1, r2⟩ := two_args rfl hl hv
  rw [r1.lit_inv]
  refine call_enter Tryz.func85 (by kernel_rfl) (by kernel_rfl) ?_
  have hc := AnyF.slices_SortFunc_none Tryz.sortE none 0 u w
  change Go.Calls Tryz.prog 85 _ _ _ at hc
  refine hc.mono ?_
  rintro e w' ⟨rfl, rfl⟩
  exact ⟨ι, S, _, .tuple [] #[] rfl (by simp), hi, .refl ..⟩
 ·rename_i id n h0
  split at hr <;> try (simp at hr; done)
  rename_i es hg
  split at hr <;> simp only [Option.some.injEq, Prod.mk.injEq, reduceCtorEq] at hr
  rename_i hc
  obtain ⟨rfl, rfl⟩ := hr
  obtain ⟨c1, c2, c3, c4, c5⟩ := hc
  obtain ⟨v, u, rfl, r1, r2⟩ := two_args rfl hl hv
  obtain ⟨arr, rfl, ha, _⟩ := r2.func_inv
  have : arr = #[] := Array.eq_empty_of_size_eq_zero (by simpa using ha.symm)
  subst this
  refine call_enter Tryz.func85 (by kernel_rfl) (by kernel_rfl) ?_
  refine (sort_own hi r1 hg c1 c2 c3 c4 c5).mono ?_
  rintro e w' ⟨rfl, hb⟩
  exact hb
 ·simp at hr
end Go.Abs
namespace Go.Abs
open Go.Proofs Go.RowKit
set_option maxRecDepth 100000
def normQ (s : List UInt8) : List UInt8 × Int := nmRes joinR s
def normP : List AVal → Option AVal
 | [.str s] => if s.length ≤ 1000000 then some (.tuple [.str (normQ s).1, errV (normQ s).2]) else none
 | _ => none
noncomputable def AB : AProg := { AA with prim := fun g => if g = 128 then some normP else prims g, primh := fun g => if g = 85 then some sortH else none }
theorem fn128_none : AA.fn 128 = none := by kernel_rfl
theorem callF_ext : ∀ {k g : Nat} {args : List AVal} {h : Heap} {x : AVal × Heap}, callF AA k g args h = some x → callF AB k g args h = some x
 | 0, _, _, _, _, h => by simp [callF] at h
 | k + 1, g, args, h, x, hx => by
  have hle : Calls.Le { moves := AA.moves, run := callF AA k } { moves := AB.moves, run := callF AB k } := ⟨rfl, fun _ _ _ _ h => callF_ext h⟩
  by_cases hg : g = 128
  ·subst hg
   unfold callF at hx
   have hp : AA.prim 128 = none := rfl
   rw [hp, fn128_none] at hx
   have hx : (none : Option (AVal × Heap)) = some x := hx
   cases hx
  ·have hp : AB.prim g = AA.prim g := by
    show (if g = 128 then some normP else prims g) = prims g
    rw [if_neg hg]
   unfold callF at hx ⊢
   rw [hp]
   cases hq : AA.prim g with
   | some p =>
    rw [hq] at hx
    exact hx
   | none =>
    rw [hq] at hx
    have hf : AB.fn g = AA.fn g := rfl
    rw [hf]
    simp only at hx ⊢
    cases hfn : AA.fn g with
    | none =>
     rw [hfn] at hx
     have hx : (none : Option (AVal × Heap)) = some x := hx
     cases hx
    | some fn =>
     rw [hfn] at hx
     exact runFn_mono hle (Nat.le_refl _) hx
theorem callT_ext {g : Nat} {args : List AVal} {h : Heap} {x : AVal × Heap} (hx : callT AA g args h = some x) : callT AB g args h = some x := by
 obtain ⟨k, hk⟩ := callT_iff.1 hx
 exact callT_iff.2 ⟨k, callF_ext hk⟩
theorem errV_rep {ι : Emb} {S T : Nat → Prop} {w : World} {n : Int} {v : Value} (h : Rep ι S T w (errV n) v) : v = errW n := by
 unfold errV at h
 unfold errW
 split at h
 ·rename_i h0
  rw [if_pos h0]
  exact h.lit_inv
 ·rename_i h0
  rw [if_neg h0]
  obtain ⟨u, rfl, hu⟩ := h.iface_inv
  rw [hu.int_inv]
theorem errV_of {ι : Emb} {S T : Nat → Prop} {w : World} (n : Int) : Rep ι S T w (errV n) (errW n) := by
 unfold errV errW
 split
 ·exact .lit _
 ·exact .iface _ _ _ (.int _ _)
theorem join_calls (base : Nat) (W : World) (v : Value) (ps : List (List UInt8)) (hn : ps.length ≤ 2000000) (hq : ∀ p ∈ ps, p.length ≤ 1000000) (hG : GG (fun b => b < W.heap.size) W) (hr : W.ownsRow base 9 1 v ps.length (ps.map sv)) :
  Go.Calls Tryz.prog 163 #[v] W fun e W' => e = .returned (.tuple #[sv (joinR ps).1, errW (joinR ps).2]) ∧ RowKit.Below W.heap.size W W' := by
 have hrep : ∃ a, Rep (fun _ => none) (fun b => b < W.heap.size) (fun _ => False) W a v ∧ callT AA 163 [a] [] = some (.tuple [.str (joinR ps).1, errV (joinR ps).2], []) := by
  rcases hr.2 with ⟨rfl, h0⟩ | ⟨g, cap, cur, rfl, _, hg, hp1, _⟩
  ·have h1 : ps = [] := List.length_eq_zero_iff.1 h0
   subst h1
   exact ⟨_, .lit _, s163n⟩
  ·have hlt := (Array.getElem?_eq_some_iff.1 hg).1
   have hc : ∀ (i : Nat) (e : AVal), (ps.map AVal.str)[i]? = some e → ∃ l, e = .str l ∧ W.cell? ⟨g, 0 + i * 1 + 0, none⟩ = some (sv l) := by
    intro i e he
    rw [List.getElem?_map] at he
    obtain ⟨l, hl, rfl⟩ := Option.map_eq_some_iff.1 he
    have h1 := (List.getElem?_eq_some_iff.1 hl).1
    have h2 := hr.cellAt i (by omega)
    refine ⟨l, rfl, ?_⟩
    rw [show 0 + i * 1 + 0 = i by omega, h2, List.getElem?_map, hl]
    rfl
   have hv := Rep.view (ι := fun _ => none) (S := fun b => b < W.heap.size) (T := fun _ => False) (w := W) 1 (ps.map AVal.str) false false g 0 cap none (fun i _ => sv (ps.getD i [])) (.inl rfl) (by rw [List.length_map]; exact hp1) (by simp)
    (fun i e he => hlt)
    (fun i e he => by
     obtain ⟨l, rfl, _⟩ := hc i e he
     rfl)
    (fun i e he => by
     obtain ⟨l, rfl, _⟩ := hc i e he
     rfl)
    (fun i e j x he hx => by
     obtain ⟨l, rfl, h2⟩ := hc i e he
     have hl : ps[i]? = some l := by
      rw [List.getElem?_map] at he
      obtain ⟨l', hl, h3⟩ := Option.map_eq_some_iff.1 he
      cases h3
      exact hl
     match j, hx with
     | 0, _ =>
      rw [h2, List.getD, hl]
      rfl
     | j + 1, hx => cases hx)
    (fun i e j x he hx => by
     obtain ⟨l, rfl, h2⟩ := hc i e he
     have hl : ps[i]? = some l := by
      rw [List.getElem?_map] at he
      obtain ⟨l', hl, h3⟩ := Option.map_eq_some_iff.1 he
      cases h3
      exact hl
     match j, hx with
     | 0, hx =>
      cases hx
      show Rep _ _ _ _ _ (sv (ps.getD i []))
      rw [List.getD, hl]
      exact .str _
     | j + 1, hx => cases hx)
   rw [List.length_map] at hv
   exact ⟨_, hv, s163 false false ps hn hq⟩
 obtain ⟨a, hrep, hcall⟩ := hrep
 refine (ev_calls Tryz.func163 (by kernel_rfl) (by kernel_rfl) hcall (vals := #[v]) hG rfl (by
  intro i c v hc' hv
  match i, hc', hv with
  | 0, hc', hv => cases hc'; cases hv; exact hrep
  | i + 1, hc', hv => cases hc')).mono fun e w' => ?_
 rintro ⟨v, _, _, rfl, h1, h2⟩
 obtain ⟨arr, rfl, hl, hh⟩ := h1.tuple_inv
 refine ⟨?_, h2⟩
 have a0 := hh 0 _ (arr[0]'(by rw [← hl]; simp)) rfl (Array.getElem?_eq_getElem _)
 have a1 := hh 1 _ (arr[1]'(by rw [← hl]; simp)) rfl (Array.getElem?_eq_getElem _)
 have e0 := a0.str_inv
 have e1 := errV_rep a1
 congr 2
 apply Array.ext
 ·rw [← hl]; rfl
 ·intro i h1 h2
  have hi : i < 2 := by rw [← hl] at h1; simpa using h1
  match i, hi with
  | 0, _ => exact e0
  | 1, _ => exact e1
theorem normStep_mem {parts q : List (List UInt8)} {p : List UInt8} (h : normStep parts p = some q) : q.length ≤ parts.length + 1 ∧ ∀ x ∈ q, x ∈ parts ∨ x = p := by
 refine ⟨normStep_length h, ?_⟩
 unfold normStep at h
 split at h
 ·cases h
  exact fun x hx => .inl hx
 ·split at h
  ·split at h
   ·cases h
   ·cases h
    exact fun x hx => .inl ((List.dropLast_sublist _).subset hx)
  ·cases h
   intro x hx
   rcases List.mem_append.1 hx with h1 | h1
   ·exact .inl h1
   ·exact .inr (List.mem_singleton.1 h1)
theorem normRun_mem : ∀ (l parts q : List (List UInt8)), normRun parts l = some q → q.length ≤ parts.length + l.length ∧ ∀ x ∈ q, x ∈ parts ∨ x ∈ l
 | [], parts, q, h => by
  cases h
  exact ⟨by simp, fun x hx => .inl hx⟩
 | p :: ps, parts, q, h => by
  unfold normRun at h
  split at h
  ·rename_i r hr
   obtain ⟨a1, a2⟩ := normStep_mem hr
   obtain ⟨b1, b2⟩ := normRun_mem ps r q h
   refine ⟨by simp; omega, fun x hx => ?_⟩
   rcases b2 x hx with h1 | h1
   ·rcases a2 x h1 with h2 | h2
    ·exact .inl h2
    ·exact .inr (by simp [h2])
   ·exact .inr (by simp [h1])
  ·cases h
theorem split_part_le (c : UInt8) : ∀ (n : Nat) (s : List UInt8), s.length ≤ n → (∀ x ∈ Am.splitOn c s, x.length ≤ s.length) ∧ (Am.splitOn c s).length ≤ s.length + 1
 | 0, s, h => by
  have : s = [] := List.length_eq_zero_iff.1 (by omega)
  subst this
  refine ⟨fun x hx => ?_, ?_⟩
  ·have e : Am.splitOn c [] = [[]] := rfl
   rw [e] at hx
   rw [List.mem_singleton.1 hx]
   exact Nat.le_refl _
  ·exact Nat.le_refl _
 | n + 1, s, h => by
  by_cases hs : 0 ≤ Lib.indexByte s c
  ·obtain ⟨a1, a2⟩ := cut_yes hs
   have hl := @Am.indexByte_lt s c
   have e1 : (cutB c s).1.length ≤ s.length := by rw [a1]; simp; omega
   have e2 : (cutB c s).2.1.length < s.length := by rw [a1]; simp; omega
   obtain ⟨i1, i2⟩ := split_part_le c n (cutB c s).2.1 (by omega)
   rw [a2]
   refine ⟨fun x hx => ?_, by simp; omega⟩
   rcases List.mem_cons.1 hx with rfl | hx
   ·exact e1
   ·have := i1 x hx
    omega
  ·rw [(cut_no hs).2]
   refine ⟨fun x hx => ?_, by simp⟩
   rw [List.mem_singleton.1 hx]
   exact Nat.le_refl _
theorem norm_calls (s : List UInt8) (hs : s.length ≤ 1000000) (w : World) (hG : GG (fun b => b < w.heap.size) w) : Go.Calls Tryz.prog 128 #[sv s] w fun e W' => e = .returned (.tuple #[sv (normQ s).1, errW (normQ s).2]) ∧ RowKit.Below w.heap.size w W' := by
 refine nm_128 joinR s (by omega) (fun q hq base W v hG hr => ?_) w hG
 obtain ⟨h1, h2⟩ := normRun_mem _ _ _ hq
 obtain ⟨h3, h4⟩ := split_part_le 47 s.length s (Nat.le_refl _)
 refine join_calls base W v q (by simp at h1; omega) (fun p hp => ?_) hG hr
 rcases h2 p hp with h5 | h5
 ·cases h5
 ·have := h3 p h5
  omega
theorem gg_lt {ι : Emb} {S T : Nat → Prop} {w : World} {F : Free} (hg : GG S w) (hi : Inv ι S T [] w F) : GG (fun b => b < w.heap.size) w := ⟨hg.pow, hg.utf, hg.synt, hg.rang, fun b hb => hi.s_lt b (hg.low b hb)⟩
theorem norm_ok {ι : Emb} {S T : Nat → Prop} {w : World} (hg : GG S w) (hi : Inv ι S T [] w (Free.above 0)) (s : List UInt8) (hs : s.length ≤ 1000000) : CallOK Tryz.prog 128 #[sv s] w (Back ι S T [] w (.tuple [.str (normQ s).1, errV (normQ s).2]) []) := by
 refine call_enter Tryz.func128 (by kernel_rfl) (by kernel_rfl) ?_
 refine (norm_calls s hs w (gg_lt hg hi)).mono ?_
 rintro e w' ⟨rfl, hb⟩
 refine back_of hi hb fun ι' S' T' w'' => .tuple _ _ rfl fun i c u hc hu => ?_
 match i with
 | 0 => simp at hc hu; subst hc; subst hu; exact .str _
 | 1 => simp at hc hu; subst hc; subst hu; exact errV_of _
 | i + 2 => simp at hc
theorem ab_of : AB.Of gl0 Tryz.prog [58] GG := {
 mix := aa_of.mix
 stable := aa_of.stable
 glob := aa_of.glob
 fn := fun g afn h => aa_of.fn g afn h
 prim := fun g p hp args r hr ι S T w vals hg hi hl hv => by
  by_cases h : g = 128
  ·subst h
   have e : p = normP := by
    have : AB.prim 128 = some normP := rfl
    rw [this] at hp
    exact (Option.some.inj hp).symm
   subst e
   unfold normP at hr
   split at hr <;> try (simp at hr; done)
   split at hr <;> simp only [Option.some.injEq, reduceCtorEq] at hr
   subst hr
   rename_i s hs
   obtain ⟨v, rfl, h1⟩ := one_arg rfl hl hv
   rw [h1.str_inv]
   exact norm_ok hg hi s hs
  ·have hp' : AA.prim g = some p := by
    have : AB.prim g = prims g := if_neg h
    rw [this] at hp
    exact hp
   exact aa_of.prim g p hp' args r hr ι S T w vals hg hi hl hv
 primh := fun g p hp args h r h' hr ι S T w vals _ hi hl hv => by
  by_cases hg : g = 85
  ·subst hg
   have e : p = sortH := by
    have : AB.primh 85 = some sortH := rfl
    rw [this] at hp
    exact (Option.some.inj hp).symm
   subst e
   exact sort_ok hr hi hl hv
  ·have : AB.primh g = none := if_neg hg
   rw [this] at hp
   cases hp }
theorem law_callsB {g : Nat} {fn : Func} (hf : Tryz.prog.funcs[g]? = some fn) (hb : fn.body.isSome = true) (hn : (fn.name == "runtime.NumGoroutine") = false) {args : List AVal} (hs : callT AB g args [] = some (.bool true, [])) {w : World} {vals : Array Value}
  (hG : GG (fun b => b < w.heap.size) w) (hl : args.length = vals.size) (hr : ∀ (i : Nat) (c : AVal) (v : Value), args[i]? = some c → vals[i]? = some v → Rep (fun _ => none) (fun b => b < w.heap.size) (fun _ => False) w c v) :
  Go.Calls Tryz.prog g vals w fun e w' => e = .returned (.bool true) ∧ RowKit.Below w.heap.size w w' := by
 have hi : Inv (fun _ => none) (fun b => b < w.heap.size) (fun _ => False) [] w (Free.above 0) := ⟨by simp, by simp, by simp, fun _ _ => rfl, fun _ h => h, fun _ h => h.elim⟩
 have h := callT_sound ab_of g args [] (.bool true) [] hs _ _ _ w vals hG hi hl hr
 obtain ⟨c, hc⟩ := Option.isSome_iff_exists.1 hb
 have hrun : (callFunc g vals).run Tryz.prog w = .ok (.enter g vals) w := by
  have hn : ¬ fn.name = "runtime.NumGoroutine" := by simpa using hn
  simp [callFunc, hf, hn, hc]
 unfold CallOK at h
 rw [hrun] at h
 refine Go.Calls.mono h fun e w' he => ?_
 cases e with
 | returned v =>
  obtain ⟨ι', S', n', h1, h2, h3⟩ := he
  rw [h1.bool_inv]
  exact ⟨rfl, h3.os, h3.tape, h3.output, h3.size, fun k hk => h3.frame k hk fun ⟨e, he, _⟩ => by cases he⟩
 | panicked c => exact he.elim
 | outgrown => exact he.elim
end Go.Abs
namespace Go.Abs
def b39 : AFn := ⟨0, 60, [(0, none)], (.seq (rg [oo 0 (.mov (.c (.bool false)))]) (.seq (rg [oo 8 (.bslice 1 5 [(.int .u8 0)] [(.c (.int .u8 104)), (.c (.int .u8 101)), (.c (.int .u8 108)), (.c (.int .u8 108)), (.c (.int .u8 111))]), oo 9 (.cvb (.t 8)), oo 10 (.build [(.str []), (.int .i64 0), (.int .i64 0), (.int .i64 0), (.int .i64 0), (.int .i64 0), (.str []), (.lit (.slice none 0 0))] [(0, (1, (.c (.str [46, 47, 97])))), (1, (1, (ci 2))), (7, (1, (.t 9)))]), oo 11 (.bslice 8 1 [(.str []), (.int .i64 0), (.int .i64 0), (.int .i64 0), (.int .i64 0), (.int .i64 0), (.str []), (.lit (.slice none 0 0))] [(.t 10)]), cl 12 49 [(.t 11)], mv 7 12, oo 13 (.ext (.t 7) 0), oo 14 (.ext (.t 7) 1), mv 1 13, mv 2 14]) (.seq (rg [mv 16 1, cl 17 17 [(.t 16)], mv 15 17, oo 18 (.ext (.t 15) 0), oo 19 (.ext (.t 15) 1), mv 3 18, mv 4 19]) (.seq (rg [mv 21 3, cl 22 24 [(.t 21)], mv 20 22, oo 23 (.ext (.t 20) 0), oo 24 (.ext (.t 20) 1), mv 5 23, mv 6 24]) (.seq (rg [mv 25 2, oo 26 (.bin .eql (.iface [58]) true (.t 25) (.c (.lit .nilIface))), mv 27 26, og 28 (.mov (.t 4)) 27 true, og 29 (.bin .eql (.iface [58]) true (.t 28) (.c (.lit .nilIface))) 27 true, oo 30 (.pick (.t 27) (.t 29) (.c (.bool false))), mv 31 30, og 32 (.mov (.t 6)) 31 true, og 33 (.bin .eql (.iface [58]) true (.t 32) (.c (.lit .nilIface))) 31 true, oo 34 (.pick (.t 31) (.t 33) (.c (.bool false))), mv 35 34, og 36 (.mov (.t 3)) 35 true, og 37 (.len 1 (.t 36)) 35 true, og 38 (.bin .eql .other true (.t 37) (ci 2048)) 35 true, oo 39 (.pick (.t 35) (.t 38) (.c (.bool false))), mv 40 39, og 41 (.mov (.t 5)) 40 true, og 42 (.len 1 (.t 41)) 40 true, og 43 (.bin .eql .other true (.t 42) (ci 1)) 40 true, oo 44 (.pick (.t 40) (.t 43) (.c (.bool false))), mv 45 44, og 46 (.mov (.t 5)) 45 true, og 47 (.ixa 8 (.t 46) (ci 0)) 45 true, og 48 (.fa 0 (.t 47)) 45 true, og 49 (.ld 1 false (.t 48)) 45 true, og 50 (.bin .eql .other true (.t 49) (.c (.str [97]))) 45 true, oo 51 (.pick (.t 45) (.t 50) (.c (.bool false))), mv 52 51, og 53 (.mov (.t 5)) 52 true, og 54 (.ixa 8 (.t 53) (ci 0)) 52 true, og 55 (.fa 7 (.t 54)) 52 true, og 56 (.ld 1 false (.t 55)) 52 true, og 57 (.cvbs (.t 56)) 52 true, og 58 (.bin .eql .other true (.t 57) (.c (.str [104, 101, 108, 108, 111]))) 52 true, oo 59 (.pick (.t 52) (.t 58) (.c (.bool false))), mv 0 59]) .ret)))))⟩
theorem fn39 : AA.fn 39 = some b39 := by kernel_rfl
end Go.Abs
namespace Go.Abs
open Go.Proofs Go.RowKit Am
set_option maxRecDepth 100000
@[go_sem] theorem AB_moves {g : Nat} : AB.moves g = movesT g := AA_moves
theorem ab_fn {g : Nat} {fn : AFn} (h : AA.fn g = some fn) : AB.fn g = some fn := h
theorem build_run : callF AB 60 49 [.view 8 [.agg [.str [46, 47, 97], .int .i64 2, .int .i64 0, .int .i64 0, .int .i64 0, .int .i64 0, .str [], .view 1 [.int .u8 104, .int .u8 101, .int .u8 108, .int .u8 108, .int .u8 111] false false]] false true] [] =
  some (.tuple [.own 0 8 0 1 false, .lit .nilIface], [(0, .row [.agg [.str [97], .int .i64 2, .int .i64 0, .int .i64 0, .int .i64 0, .int .i64 0, .str [], .view 1 [.int .u8 104, .int .u8 101, .int .u8 108, .int .u8 108, .int .u8 111] false false]] 8)]) := by kernel_rfl
set_option maxHeartbeats 4000000 in
theorem s39 : callT AB 39 [] [] = some (.bool true, []) := by
 have h49 := callT_iff.2 ⟨60, build_run⟩
 have h17 : ∀ c t, callT AB 17 [.view 8 [.agg [.str [97], .int .i64 2, .int .i64 0, .int .i64 0, .int .i64 0, .int .i64 0, .str [], .view 1 [.int .u8 104, .int .u8 101, .int .u8 108, .int .u8 108, .int .u8 111] false false]] c t] [] = some (.tuple [.own 0 1 0 2048 false, .lit .nilIface], [(0, .row (wA.map .byte) 1)]) := by
  intro c t
  have h := w17 c t [eA] (by simp) (by simp) (by
   intro e he
   rw [List.mem_singleton.1 he]
   exact ⟨by decide, by decide, helloL, rfl, by decide⟩) (by rw [checkT_map Ent.cp same_cp]; exact checkA)
  rw [show writeL [eA] = wA from rfl, lenA] at h
  exact callT_ext h
 have h24 : ∀ c t, callT AB 24 [.view 1 (wA.map .byte) c t] [] = some (.tuple [.own 0 8 0 1 false, .lit .nilIface], [(0, .row [.agg [.str [97], .int .i64 2, .int .i64 0, .int .i64 0, .int .i64 0, .int .i64 0, .str [], .view 1 (helloL.map .byte) false false]] 8)]) := by
  intro c t
  have h := s24 (.mk c t wA) (by simp only [BS.l]; rw [lenA]; omega)
  rw [readA] at h
  exact callT_ext h
 have et : (wA.map AVal.byte).take 2048 = wA.map .byte := List.take_of_length_le (by rw [List.length_map, lenA]; omega)
 have hh : decide (helloL = [104, 101, 108, 108, 111]) = true := rfl
 have h97 : decide (([97] : List UInt8) = [97]) = true := rfl
 have hl : (wA.map AVal.byte).length = 2048 := by rw [List.length_map, lenA]
 have hw := lenA
 generalize wA = W at *
 refine enter (ab_fn fn39) rfl rfl ?_
 have gg:=trivial;repeat' first|simp (maxSteps:=2000000) (disch:=omega) only [gg,b39,h49,h17,h24,et,hh,h97,hl,hw,sl_own_both,ldE_head,go_sem]|(refine br ?_ ?_<;>intro gg<;>try omega)|(apply And.intro;focus omega)|omega
end Go.Abs
namespace Go.Abs
open Am Go.Proofs
set_option maxRecDepth 20000
theorem joinR_range (ps : List (List UInt8)) : (joinR ps).2 = 0 ∨ (joinR ps).2 = 12 ∧ (joinR ps).1 = [] := by
 unfold joinR
 split
 ·exact .inl rfl
 ·exact .inr ⟨rfl, rfl⟩
theorem normQ_range (s : List UInt8) : (normQ s).2 = 0 ∨ (normQ s).2 = 12 ∧ (normQ s).1 = [] := by
 unfold normQ nmRes
 split
 ·exact joinR_range _
 ·exact .inr ⟨rfl, rfl⟩
theorem s128 (s : List UInt8) (hs : s.length ≤ 1000000) : callT AB 128 [.str s] [] = some (.tuple [.str (normQ s).1, errV (normQ s).2], []) :=
 callT_prim (p := normP) rfl (by simp only [normP, hs, if_true])
theorem s128y (s : List UInt8) (hs : s.length ≤ 1000000) (h : (normQ s).2 = 0) : callT AB 128 [.str s] [] = some (.tuple [.str (normQ s).1, .lit .nilIface], []) := by
 rw [s128 s hs, h]
 rfl
theorem s128n (s : List UInt8) (hs : s.length ≤ 1000000) (h : (normQ s).2 ≠ 0) : callT AB 128 [.str s] [] = some (.tuple [.str [], .iface 58 (.int .i64 12)], []) := by
 obtain ⟨h1, h2⟩ := (normQ_range s).resolve_left h
 rw [s128 s hs, h1, h2]
 rfl
def nmOk (e : Ent) : Bool := decide ((normQ e.path).2 = 0) && (!decide (e.kind = 4) || decide ((normQ e.link).2 = 0))
def nmE (e : Ent) : Ent := { e with path := (normQ e.path).1, link := if e.kind = 4 then (normQ e.link).1 else e.link, data := e.data.cp }
theorem s83n (e : Ent) (h1 : e.path.length ≤ 1000000) (h2 : e.link.length ≤ 1000000) (h : nmOk e = false) : ∃ P L, callT AB 83 [e.av] [] = some (.tuple [({ e with path := P, link := L } : Ent).av, .iface 58 (.int .i64 12)], []) := by
 unfold nmOk at h
 by_cases hp : (normQ e.path).2 = 0
 ·have c1 := s128y e.path h1 hp
  simp only [hp, decide_true, Bool.true_and] at h
  have hk : e.kind = 4 := by
   by_cases hk : e.kind = 4
   ·exact hk
   ·simp [hk] at h
  have hq : (normQ e.link).2 ≠ 0 := by simpa [hk] using h
  have c2 := s128n e.link h2 hq
  refine ⟨(normQ e.path).1, [], ?_⟩
  have hkd := decide_eq_true hk
  refine enter (ab_fn fn83) rfl rfl ?_
  have gg:=trivial;repeat' first|simp (maxSteps:=2000000) (disch:=omega) only [gg,b83,c1,c2,hkd,go_sem]|(refine br ?_ ?_<;>intro gg<;>try omega)|(apply And.intro;focus omega)|omega
 ·have c1 := s128n e.path h1 hp
  refine ⟨e.path, e.link, ?_⟩
  refine enter (ab_fn fn83) rfl rfl ?_
  have gg:=trivial;repeat' first|simp (maxSteps:=2000000) (disch:=omega) only [gg,b83,c1,go_sem]|(refine br ?_ ?_<;>intro gg<;>try omega)|(apply And.intro;focus omega)|omega
theorem s83 (e : Ent) (h1 : e.path.length ≤ 1000000) (h2 : e.link.length ≤ 1000000) (h3 : e.data.l.length ≤ 1000000000) (h : nmOk e = true) : callT AB 83 [e.av] [] = some (match e.data with
  | .nil => (.tuple [.agg [.str (nmE e).path, .int .i64 e.kind, .int .i64 e.mode, .int .i64 e.uid, .int .i64 e.gid, .int .i64 e.time, .str (nmE e).link, .lit (.slice none 0 0)], .lit .nilIface], [])
  | .mk _ _ l => (.tuple [.agg [.str (nmE e).path, .int .i64 e.kind, .int .i64 e.mode, .int .i64 e.uid, .int .i64 e.gid, .int .i64 e.time, .str (nmE e).link, .own 0 1 0 l.length false], .lit .nilIface], [(0, .row (l.map .byte) 1)])) := by
 unfold nmOk at h
 simp only [Bool.and_eq_true, decide_eq_true_eq, Bool.or_eq_true, Bool.not_eq_true', decide_eq_false_iff_not] at h
 obtain ⟨hp, hq⟩ := h
 have c1 := s128y e.path h1 hp
 have c3 := callT_ext (s101b e.data h3)
 have c3n := callT_ext s101n
 unfold nmE
 by_cases hk : e.kind = 4
 ·have c2 := s128y e.link h2 (hq.resolve_left (by simp [hk]))
  have hkd := decide_eq_true hk
  simp only [if_pos hk]
  obtain ⟨pa, ki, mo, ui, gi, ti, li, da⟩ := e
  simp only at *
  cases da with
  | nil =>
   refine enter (ab_fn fn83) rfl rfl ?_
   have gg:=trivial;repeat' first|simp (maxSteps:=2000000) (disch:=omega) only [gg,b83,c1,c2,c3n,hkd,go_sem]|(refine br ?_ ?_<;>intro gg<;>try omega)|(apply And.intro;focus omega)|omega
  | mk c t l =>
   refine enter (ab_fn fn83) rfl rfl ?_
   have gg:=trivial;repeat' first|simp (maxSteps:=2000000) (disch:=omega) only [gg,b83,c1,c2,c3,hkd,go_sem]|(refine br ?_ ?_<;>intro gg<;>try omega)|(apply And.intro;focus omega)|omega
 ·have hkd := decide_eq_false hk
  simp only [if_neg hk]
  obtain ⟨pa, ki, mo, ui, gi, ti, li, da⟩ := e
  simp only at *
  cases da with
  | nil =>
   refine enter (ab_fn fn83) rfl rfl ?_
   have gg:=trivial;repeat' first|simp (maxSteps:=2000000) (disch:=omega) only [gg,b83,c1,c3n,hkd,go_sem]|(refine br ?_ ?_<;>intro gg<;>try omega)|(apply And.intro;focus omega)|omega
  | mk c t l =>
   refine enter (ab_fn fn83) rfl rfl ?_
   have gg:=trivial;repeat' first|simp (maxSteps:=2000000) (disch:=omega) only [gg,b83,c1,c3,hkd,go_sem]|(refine br ?_ ?_<;>intro gg<;>try omega)|(apply And.intro;focus omega)|omega
end Go.Abs
namespace Go.Abs
open Am Go.Proofs
set_option maxRecDepth 20000
theorem jn_snoc : ∀ (r : List (List UInt8)) (p : List UInt8), jn (r ++ [p]) = jn r ++ 47 :: p
 | [], p => by simp [jn]
 | x :: r, p => by simp [jn, jn_snoc r p]
theorem joinB_snoc {d : List (List UInt8)} (h : d ≠ []) (p : List UInt8) : joinB (d ++ [p]) = joinB d ++ [47] ++ p := by
 obtain ⟨x, r, rfl⟩ := List.exists_cons_of_ne_nil h
 simp [joinB, jn_snoc]
theorem joinB_wsum {d : List (List UInt8)} (h : d ≠ []) : (joinB d).length + 1 = wsum d := by
 obtain ⟨x, r, rfl⟩ := List.exists_cons_of_ne_nil h
 exact joinB_len x r
set_option maxHeartbeats 4000000 in
theorem h123g (c t : Bool) (ps : List (List UInt8)) (hn : ps.length ≤ 2000000) (hq : ∀ p ∈ ps, p.length ≤ 1000000) (R : List UInt8) (E : Int) (hR : joinR ps = (R, E)) : ∀ (rest done : List (List UInt8)) (i : Int) (acc : List UInt8) (q : Nat), ps = done ++ rest → i = done.length → 0 < i → q = acc.length → acc = joinB done → done.all partB = true → acc.length ≤ 400 →
  HD AA 0 [0, 2, 3, 4, 5] l123_0 ⟨[.view 1 (ps.map .str) c t, .junk, .str [], .int .i64 0, .own 0 1 0 q false, .int .i64 i, .junk, .junk, .junk, .junk, .junk, .junk, .junk, .junk, .junk, .junk, .junk, .junk, .junk, .junk, .junk, .junk, .junk, .junk, .junk, .junk, .junk, .junk, .junk, .junk, .junk, .junk, .junk, .junk, .junk, .junk, .junk, .junk], [(0, .row (acc.map .byte) 1)], 1⟩ [.blk 0, .code r123_0] (Fin [(2, none), (3, none)] 0 (.tuple [.str R, .int .i64 E]) [])
 | [], done, i, acc, q, h1, h2, h3, hq', h5, h6, h7 => by
  rw [List.append_nil] at h1
  subst h1
  have hne : ps ≠ [] := by
   intro h
   subst h
   simp at h2
   omega
  rw [show joinR ps = (joinB ps, 0) from if_pos ⟨hne, h6, by rw [← h5]; exact h7⟩] at hR
  cases hR
  rw [← h5]
  have e : (acc.map AVal.byte).take q = acc.map .byte := List.take_of_length_le (by simp; omega)
  subst hq'
  refine hd_of (by unfold l123_0; rfl) ?_
  have gg:=trivial;repeat' first|simp (maxSteps:=2000000) (disch:=omega) only [gg,r123_0,e,go_sem]|(refine br ?_ ?_<;>intro gg<;>try omega)|(apply And.intro;focus omega)|omega
 | p :: rest, done, i, acc, q, h1, h2, h3, hq', h5, h6, h7 => by
  have hl : ps.length = done.length + (rest.length + 1) := by rw [h1]; simp
  have ei : i.toNat = done.length := by omega
  have hm : p ∈ ps := by rw [h1]; simp
  have hpl := hq p hm
  have h159 := s159 p hpl
  have hdn : done ≠ [] := by
   intro h
   subst h
   simp at h2
   omega
  have hxi : ps[i.toNat]? = some p := by
   rw [ei, h1, List.getElem?_append_right (by omega)]
   simp
  refine hd_of (by unfold l123_0; rfl) ?_
  cases hb : partB p with
  | false =>
   rw [hb] at h159
   have hall : ps.all partB = false := by rw [h1]; simp [hb]
   rw [joinR_bad (by rw [hall]; simp)] at hR
   cases hR
   have gg:=trivial;repeat' first|simp (maxSteps:=2000000) (disch:=omega) only [gg,hxi,h159,go_sem]|(refine br ?_ ?_<;>intro gg<;>try omega)|(apply And.intro;focus omega)|omega
  | true =>
   rw [hb] at h159
   have e : (acc.map AVal.byte).take q = acc.map .byte := List.take_of_length_le (by simp; omega)
   have e2 : (acc.map AVal.byte ++ [AVal.int .u8 47]).take (q + 1) = (acc ++ [47]).map AVal.byte := by
    rw [List.take_of_length_le (by simp; omega)]
    simp [AVal.byte]
    try rfl
   by_cases hle : q + 1 + p.length ≤ 400
   ·have ih := h123g c t ps hn hq R E hR rest (done ++ [p]) (i + 1) (acc ++ [47] ++ p) (q + 1 + p.length) (by rw [h1]; simp) (by simp; omega) (by omega) (by simp; omega) (by rw [joinB_snoc hdn, h5]) (by simp [h6, hb]) (by simp; omega)
    clear hR h5
    have gg:=trivial;repeat' first|simp (maxSteps:=2000000) (disch:=omega) only [gg,hxi,h159,e,e2,lp_head,← List.map_append,go_sem]|(refine br ?_ ?_<;>intro gg<;>try omega)|(apply And.intro;focus omega)|omega
   ·have hw : wsum ps = wsum done + (p.length + 1 + wsum rest) := by rw [h1, wsum_app]; rfl
    have hw2 := joinB_wsum hdn
    rw [← h5] at hw2
    have hps : ps ≠ [] := by rw [h1]; simp
    have hw3 := joinB_wsum hps
    rw [joinR_bad (by omega)] at hR
    cases hR
    clear h5
    have gg:=trivial;repeat' first|simp (maxSteps:=2000000) (disch:=omega) only [gg,hxi,h159,e,e2,← List.map_append,go_sem]|(refine br ?_ ?_<;>intro gg<;>try omega)|(apply And.intro;focus omega)|omega
set_option maxHeartbeats 4000000 in
theorem s123g (c t : Bool) (ps : List (List UInt8)) (hn : ps.length ≤ 2000000) (hq : ∀ p ∈ ps, p.length ≤ 1000000) : callT AA 123 [.view 1 (ps.map .str) c t] [] = some (.tuple [.str (joinR ps).1, .int .i64 (joinR ps).2], []) := by
 obtain ⟨⟨R, E⟩, hR⟩ : ∃ x, joinR ps = x := ⟨_, rfl⟩
 rw [hR]
 cases ps with
 | nil =>
  rw [joinR_bad (by simp)] at hR
  cases hR
  refine enter fn123 np123 rfl ?_
  have gg:=trivial;repeat' first|simp (maxSteps:=2000000) (disch:=omega) only [gg,b123,lp_head,go_sem]|(refine br ?_ ?_<;>intro gg<;>try omega)|(apply And.intro;focus omega)|omega
  refine hd_of (by unfold l123_0; rfl) ?_
  have gg:=trivial;repeat' first|simp (maxSteps:=2000000) (disch:=omega) only [gg,r123_0,lp_head,go_sem]|(refine br ?_ ?_<;>intro gg<;>try omega)|(apply And.intro;focus omega)|omega
 | cons p r =>
  have hpl := hq p (by simp)
  have h159 := s159 p hpl
  have hh := fun h6 h7 => h123g c t (p :: r) hn hq R E hR r [p] 1 p p.length rfl rfl (by omega) rfl (by simp [joinB, jn]) h6 h7
  have hx : (p :: r)[0]? = some p := rfl
  have hpos : 0 < (p :: r).length := by simp
  have hall : partB p = false → (p :: r).all partB = false := fun h => by simp [h]
  have hw := joinB_len p r
  have hw2 : wsum (p :: r) = p.length + 1 + wsum r := rfl
  generalize p :: r = ps at *
  refine enter fn123 np123 rfl ?_
  have gg:=trivial;repeat' first|simp (maxSteps:=2000000) (disch:=omega) only [gg,b123,lp_head,go_sem]|(refine br ?_ ?_<;>intro gg<;>try omega)|(apply And.intro;focus omega)|omega
  refine hd_of (by unfold l123_0; rfl) ?_
  cases hb : partB p with
  | false =>
   rw [hb] at h159
   rw [joinR_bad (by rw [hall hb]; simp)] at hR
   cases hR
   clear hh
   have gg:=trivial;repeat' first|simp (maxSteps:=2000000) (disch:=omega) only [gg,hx,h159,go_sem]|(refine br ?_ ?_<;>intro gg<;>try omega)|(apply And.intro;focus omega)|omega
  | true =>
   rw [hb] at h159
   by_cases hle : p.length ≤ 400
   ·have ih := hh (by simp [hb]) hle
    clear hR hh
    have gg:=trivial;repeat' first|simp (maxSteps:=2000000) (disch:=omega) only [gg,hx,h159,lp_head,go_sem]|(refine br ?_ ?_<;>intro gg<;>try omega)|(apply And.intro;focus omega)|omega
   ·rw [joinR_bad (by omega)] at hR
    cases hR
    clear hh
    have gg:=trivial;repeat' first|simp (maxSteps:=2000000) (disch:=omega) only [gg,hx,h159,go_sem]|(refine br ?_ ?_<;>intro gg<;>try omega)|(apply And.intro;focus omega)|omega
theorem s123z : callT AA 123 [.lit (.slice none 0 0)] [] = some (.tuple [.str (joinR []).1, .int .i64 (joinR []).2], []) := by
 rw [joinR_bad (by simp)]
 refine enter fn123 np123 rfl ?_
 have gg:=trivial;repeat' first|simp (maxSteps:=2000000) (disch:=omega) only [gg,b123,lp_head,go_sem]|(refine br ?_ ?_<;>intro gg<;>try omega)|(apply And.intro;focus omega)|omega
 refine hd_of (by unfold l123_0; rfl) ?_
 have gg:=trivial;repeat' first|simp (maxSteps:=2000000) (disch:=omega) only [gg,r123_0,lp_head,go_sem]|(refine br ?_ ?_<;>intro gg<;>try omega)|(apply And.intro;focus omega)|omega
end Go.Abs
namespace Go.Abs
open Am Go.Proofs
set_option maxRecDepth 20000
def nrRes (parts l : List (List UInt8)) : List UInt8 × Int := match normRun parts l with
 | some q => joinR q
 | none => ([], 12)
theorem nr_skip {parts l : List (List UInt8)} {p : List UInt8} (h : p = [] ∨ p = [46]) : nrRes parts (p :: l) = nrRes parts l := by
 unfold nrRes
 rw [normRun, show normStep parts p = some parts from if_pos h]
theorem nr_up0 {l : List (List UInt8)} : nrRes [] ([46, 46] :: l) = ([], 12) := by
 unfold nrRes
 rw [normRun, show normStep [] [46, 46] = none from rfl]
theorem nr_up {parts l : List (List UInt8)} (h : parts ≠ []) : nrRes parts ([46, 46] :: l) = nrRes parts.dropLast l := by
 unfold nrRes
 have e : normStep parts [46, 46] = some parts.dropLast := by
  unfold normStep
  rw [if_neg (by decide), if_pos rfl, if_neg h]
 rw [normRun, e]
theorem nr_add {parts l : List (List UInt8)} {p : List UInt8} (h1 : p ≠ []) (h2 : p ≠ [46]) (h3 : p ≠ [46, 46]) : nrRes parts (p :: l) = nrRes (parts ++ [p]) l := by
 unfold nrRes
 have e : normStep parts p = some (parts ++ [p]) := by
  unfold normStep
  rw [if_neg (by simp [h1, h2]), if_neg h3]
 rw [normRun, e]
theorem str_snoc (l : List (List UInt8)) (p : List UInt8) : l.map AVal.str ++ [.str p] = (l ++ [p]).map .str := by simp
set_option maxHeartbeats 4000000 in
theorem h88o (P : List (List UInt8)) (hP : P.length ≤ 2000000) (hp : ∀ p ∈ P, p.length ≤ 1000000) : ∀ (l d parts : List (List UInt8)) (i : Int), P = d ++ l → i = d.length → parts.length ≤ d.length → (∀ x ∈ parts, x.length ≤ 1000000) →
  HD AA 0 [2, 3, 4, 5, 6] l88_0 ⟨[.junk, .junk, .str [], .int .i64 0, .own 0 1 0 P.length false, .own 1 1 0 parts.length false, .int .i64 i, .junk, .junk, .junk, .junk, .junk, .junk, .junk, .junk, .junk, .junk, .junk, .junk, .junk, .junk, .junk, .junk, .junk, .junk, .junk, .junk, .junk, .junk, .junk, .junk, .junk, .junk, .junk, .junk, .junk, .junk, .junk, .junk, .junk, .junk, .junk, .junk, .junk, .junk, .junk, .junk, .junk, .junk, .junk, .junk, .junk, .junk], [(0, .row (P.map .str) 1), (1, .row (parts.map .str) 1)], 2⟩ [.blk 0, .code r88_0] (Fin [(2, none), (3, none)] 0 (.tuple [.str (nrRes parts l).1, .int .i64 (nrRes parts l).2]) [])
 | [], d, parts, i, h1, h2, h3, h4 => by
  have hl : P.length = d.length := by rw [h1]; simp
  have c := fun c t => s123g c t parts (by omega) h4
  have e : nrRes parts [] = joinR parts := rfl
  rw [e]
  generalize joinR parts = J at *
  have tk : (parts.map AVal.str).take parts.length = parts.map .str := List.take_of_length_le (by simp)
  refine hd_of (by unfold l88_0; rfl) ?_
  have gg:=trivial;repeat' first|simp (maxSteps:=2000000) (disch:=omega) only [gg,r88_0,c,tk,go_sem]|(refine br ?_ ?_<;>intro gg<;>try omega)|(apply And.intro;focus omega)|omega
 | p :: l, d, parts, i, h1, h2, h3, h4 => by
  have hl : P.length = d.length + (l.length + 1) := by rw [h1]; simp
  have hg : P[i.toNat]? = some p := by rw [h1, h2]; simp
  have hpl := hp p (by rw [h1]; simp)
  have e3 : ((d ++ [p]).length : Int) = (d.length : Int) + 1 := by simp
  have tk : (parts.map AVal.str).take parts.length = parts.map .str := List.take_of_length_le (by simp)
  refine hd_of (by unfold l88_0; rfl) ?_
  by_cases g1 : p = []
  ·have ih := h88o P hP hp l (d ++ [p]) parts (i + 1) (by simp [h1]) (by omega) (by simp; omega) h4
   rw [nr_skip (.inl g1)]
   have d1 : decide (p = []) = true := decide_eq_true g1
   generalize nrRes parts l = J at *
   have gg:=trivial;repeat' first|simp (maxSteps:=2000000) (disch:=omega) only [gg,hg,d1,lp_head,go_sem]|(refine br ?_ ?_<;>intro gg<;>try omega)|(apply And.intro;focus omega)|omega
  have d1 : decide (p = []) = false := decide_eq_false g1
  by_cases g2 : p = [46]
  ·have ih := h88o P hP hp l (d ++ [p]) parts (i + 1) (by simp [h1]) (by omega) (by simp; omega) h4
   rw [nr_skip (.inr g2)]
   have d2 : decide (p = [46]) = true := decide_eq_true g2
   generalize nrRes parts l = J at *
   have gg:=trivial;repeat' first|simp (maxSteps:=2000000) (disch:=omega) only [gg,hg,d1,d2,lp_head,go_sem]|(refine br ?_ ?_<;>intro gg<;>try omega)|(apply And.intro;focus omega)|omega
  have d2 : decide (p = [46]) = false := decide_eq_false g2
  by_cases g3 : p = [46, 46]
  ·have d3 : decide (p = [46, 46]) = true := decide_eq_true g3
   by_cases g4 : parts = []
   ·subst g4
    rw [g3, nr_up0]
    have gg:=trivial;repeat' first|simp (maxSteps:=2000000) (disch:=omega) only [gg,hg,d1,d2,d3,go_sem]|(refine br ?_ ?_<;>intro gg<;>try omega)|(apply And.intro;focus omega)|omega
   ·have hpos : 0 < parts.length := List.length_pos_iff.2 g4
    have dd : decide ((parts.length : Int) = 0) = false := decide_eq_false (by omega)
    have ih := h88o P hP hp l (d ++ [p]) parts.dropLast (i + 1) (by simp [h1]) (by omega) (by simp; omega) (fun x hx => h4 x ((List.dropLast_sublist _).subset hx))
    have dl : (parts.dropLast).length = parts.length - 1 := List.length_dropLast
    have dt : (parts.map AVal.str).take (parts.length - 1) = parts.dropLast.map .str := by rw [List.dropLast_eq_take, List.map_take]
    have dn : ((parts.length : Int) - 1).toNat = parts.length - 1 := by omega
    rw [g3, nr_up g4]
    rw [dl] at ih
    generalize nrRes parts.dropLast l = J at *
    have dle : parts.length - 1 ≤ parts.length := Nat.sub_le _ _
    have gg:=trivial;repeat' first|simp (maxSteps:=2000000) (disch:=omega) only [gg,hg,d1,d2,d3,dd,dt,dn,dle,dl,List.length_map,lp_head,go_sem]|(refine br ?_ ?_<;>intro gg<;>try omega)|(apply And.intro;focus omega)|omega
  ·have d3 : decide (p = [46, 46]) = false := decide_eq_false g3
   have ih := h88o P hP hp l (d ++ [p]) (parts ++ [p]) (i + 1) (by simp [h1]) (by omega) (by simp; omega) (fun x hx => by
    rcases List.mem_append.1 hx with h | h
    ·exact h4 x h
    ·rw [List.mem_singleton.1 h]
     exact hpl)
   have sn := str_snoc parts p
   have dl : (parts ++ [p]).length = parts.length + 1 := by simp
   rw [nr_add g1 g2 g3]
   rw [dl] at ih
   generalize nrRes (parts ++ [p]) l = J at *
   generalize parts ++ [p] = parts2 at *
   have gg:=trivial;repeat' first|simp (maxSteps:=2000000) (disch:=omega) only [gg,hg,d1,d2,d3,sn,tk,lp_head,go_sem]|(refine br ?_ ?_<;>intro gg<;>try omega)|(apply And.intro;focus omega)|omega
set_option maxHeartbeats 4000000 in
theorem h88n (P : List (List UInt8)) (hP : P.length ≤ 2000000) (hp : ∀ p ∈ P, p.length ≤ 1000000) : ∀ (l d : List (List UInt8)) (i : Int), P = d ++ l → i = d.length →
  HD AA 0 [2, 3, 4, 5, 6] l88_0 ⟨[.junk, .junk, .str [], .int .i64 0, .own 0 1 0 P.length false, .lit (.slice none 0 0), .int .i64 i, .junk, .junk, .junk, .junk, .junk, .junk, .junk, .junk, .junk, .junk, .junk, .junk, .junk, .junk, .junk, .junk, .junk, .junk, .junk, .junk, .junk, .junk, .junk, .junk, .junk, .junk, .junk, .junk, .junk, .junk, .junk, .junk, .junk, .junk, .junk, .junk, .junk, .junk, .junk, .junk, .junk, .junk, .junk, .junk, .junk, .junk], [(0, .row (P.map .str) 1)], 1⟩ [.blk 0, .code r88_0] (Fin [(2, none), (3, none)] 0 (.tuple [.str (nrRes [] l).1, .int .i64 (nrRes [] l).2]) [])
 | [], d, i, h1, h2 => by
  have hl : P.length = d.length := by rw [h1]; simp
  have c := s123z
  have e : nrRes [] [] = joinR [] := rfl
  rw [e]
  generalize joinR [] = J at *
  refine hd_of (by unfold l88_0; rfl) ?_
  have gg:=trivial;repeat' first|simp (maxSteps:=2000000) (disch:=omega) only [gg,r88_0,c,go_sem]|(refine br ?_ ?_<;>intro gg<;>try omega)|(apply And.intro;focus omega)|omega
 | p :: l, d, i, h1, h2 => by
  have hl : P.length = d.length + (l.length + 1) := by rw [h1]; simp
  have hg : P[i.toNat]? = some p := by rw [h1, h2]; simp
  have hpl := hp p (by rw [h1]; simp)
  have e3 : ((d ++ [p]).length : Int) = (d.length : Int) + 1 := by simp
  refine hd_of (by unfold l88_0; rfl) ?_
  by_cases g1 : p = []
  ·have ih := h88n P hP hp l (d ++ [p]) (i + 1) (by simp [h1]) (by omega)
   rw [nr_skip (.inl g1)]
   have d1 : decide (p = []) = true := decide_eq_true g1
   generalize nrRes [] l = J at *
   have gg:=trivial;repeat' first|simp (maxSteps:=2000000) (disch:=omega) only [gg,hg,d1,lp_head,go_sem]|(refine br ?_ ?_<;>intro gg<;>try omega)|(apply And.intro;focus omega)|omega
  have d1 : decide (p = []) = false := decide_eq_false g1
  by_cases g2 : p = [46]
  ·have ih := h88n P hP hp l (d ++ [p]) (i + 1) (by simp [h1]) (by omega)
   rw [nr_skip (.inr g2)]
   have d2 : decide (p = [46]) = true := decide_eq_true g2
   generalize nrRes [] l = J at *
   have gg:=trivial;repeat' first|simp (maxSteps:=2000000) (disch:=omega) only [gg,hg,d1,d2,lp_head,go_sem]|(refine br ?_ ?_<;>intro gg<;>try omega)|(apply And.intro;focus omega)|omega
  have d2 : decide (p = [46]) = false := decide_eq_false g2
  by_cases g3 : p = [46, 46]
  ·have d3 : decide (p = [46, 46]) = true := decide_eq_true g3
   rw [g3, nr_up0]
   have gg:=trivial;repeat' first|simp (maxSteps:=2000000) (disch:=omega) only [gg,hg,d1,d2,d3,go_sem]|(refine br ?_ ?_<;>intro gg<;>try omega)|(apply And.intro;focus omega)|omega
  ·have d3 : decide (p = [46, 46]) = false := decide_eq_false g3
   have ih := h88o P hP hp l (d ++ [p]) [p] (i + 1) (by simp [h1]) (by omega) (by simp) (fun x hx => by
    rw [List.mem_singleton.1 hx]
    exact hpl)
   rw [nr_add g1 g2 g3]
   rw [List.nil_append]
   generalize nrRes [p] l = J at *
   simp only [List.length_cons, List.length_nil, List.map_cons, List.map_nil] at ih
   have gg:=trivial;repeat' first|simp (maxSteps:=2000000) (disch:=omega) only [gg,hg,d1,d2,d3,lp_head,go_sem]|(refine br ?_ ?_<;>intro gg<;>try omega)|(apply And.intro;focus omega)|omega
theorem s88 (s : List UInt8) (hs : s.length ≤ 1000000) : callT AA 88 [.str s] [] = some (.tuple [.str (normQ s).1, .int .i64 (normQ s).2], []) := by
 have c := s125 s hs
 obtain ⟨h1, h2⟩ := split_part_le 47 s.length s (Nat.le_refl _)
 have hh := h88n (splitOn 47 s) (by omega) (fun p hp => by have := h1 p hp; omega) (splitOn 47 s) [] 0 rfl rfl
 have e : nrRes [] (splitOn 47 s) = normQ s := rfl
 rw [e] at hh
 generalize normQ s = J at *
 generalize splitOn 47 s = P at *
 refine enter fn88 np88 rfl ?_
 have gg:=trivial;repeat' first|simp (maxSteps:=2000000) (disch:=omega) only [gg,b88,c,lp_head,go_sem]|(refine br ?_ ?_<;>intro gg<;>try omega)|(apply And.intro;focus omega)|omega
end Go.Abs
