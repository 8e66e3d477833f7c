import Derived.Test.YtambgnjkakdoeaaGreatDoorChunks11
import Derived.ChangeSame
import Derived.Deep.Fields
import Derived.Deep.Slices
import Derived.ProofKit
/- PART OF A PROOF (texts joined by a program): F114 F115 F116 F117 F118 F119 F120 F121 Q9 F122 F123 F124 B3 F39 T6 F40 F41 F42 R2 Q6 Q4 F88 N6 F89 F90 B8 N7 N8. -/
set_option linter.unusedVariables false
set_option linter.unusedSimpArgs false
set_option linter.unusedSectionVars false
namespace Go.Abs
attribute [local go_sem high] aBin_xorZ aBin_andZ aBin_orZ aBin_shlZ aBin_shrZ aBin_andI aBin_shrI
set_option maxRecDepth 20000
def sqR (p : Int) : Nat → Int → Int
 | 0, x => x
 | k + 1, x => sqR p k (mulmZ p x x)
theorem h212 (p : Int) (h0 : 0 < p) (h1 : p ≤ 18446744073709551615) (r0 : Int) : ∀ (k : Nat) (x n i : Int), i + k = n → 0 ≤ i → n ≤ 1000000 → r0 = sqR p k x →
  HD AA 1 [1, 3, 4, 7, 8] l212_0 ⟨[.junk, .ptr 0 0, .junk, .int .u64 0, .int .u64 x, .junk, .junk, .int .i64 n, .int .i64 i, .junk, .junk, .junk, .junk, .junk, .junk, .junk], [(0, .var [.int .u64 p])], 2⟩ [.blk 0, .code r212_0] (Fin [(3, none)] 1 (.int .u64 r0) [(0, .var [.int .u64 p])])
 | 0, x, n, i, e1, e2, e3, h => by
  rw [h]
  simp only [sqR]
  refine hd_of (by unfold l212_0; rfl) ?_
  have gg:=trivial;repeat' first|simp (maxSteps:=2000000) (disch:=omega) only [gg,r212_0,go_sem]|(refine br ?_ ?_<;>intro gg<;>try omega)|(apply And.intro;focus omega)|omega
 | k + 1, x, n, i, e1, e2, e3, h => by
  have c := s214 p x x h0 h1
  have ih := h212 p h0 h1 r0 k (mulmZ p x x) n (i + 1) (by omega) (by omega) e3 h
  refine hd_of (by unfold l212_0; rfl) ?_
  have gg:=trivial;repeat' first|simp (maxSteps:=2000000) (disch:=omega) only [gg,c,lp_head,go_sem]|(refine br ?_ ?_<;>intro gg<;>try omega)|(apply And.intro;focus omega)|omega
def twoZ (p : Int) : Int := modZ 0 2 p
def sqZ (p n : Int) : Int := sqR p n.toNat (twoZ p)
theorem s212 (p : Int) (h0 : 0 < p) (h1 : p ≤ 18446744073709551615) (n : Int) (n0 : 0 ≤ n) (n1 : n ≤ 1000000) : callT AA 212 [.int .i64 n, .ptr 0 0] [(0, .var [.int .u64 p])] = some (.int .u64 (sqZ p n), [(0, .var [.int .u64 p])]) := by
 have hh := h212 p h0 h1 (sqZ p n) n.toNat (twoZ p) n 0 (by omega) (by omega) n1 rfl
 have c := s213 0 2 p h0 h1 (by simp) (by simp)
 unfold twoZ at hh
 refine enter fn212 np212 rfl ?_
 have gg:=trivial;repeat' first|simp (maxSteps:=2000000) (disch:=omega) only [gg,b212,c,lp_head,go_sem]|(refine br ?_ ?_<;>intro gg<;>try omega)|(apply And.intro;focus omega)|omega
theorem sqZ_le {p n : Int} (h0 : 0 < p) (h1 : p ≤ 18446744073709551615) : 0 ≤ sqZ p n ∧ sqZ p n ≤ 18446744073709551615 := by
 have key : ∀ (k : Nat) (x : Int), (0 ≤ x ∧ x ≤ 18446744073709551615) → 0 ≤ sqR p k x ∧ sqR p k x ≤ 18446744073709551615 := by
  intro k
  induction k with
  | zero => intro x hx; exact hx
  | succ k ih => intro x _; exact ih _ (mulmZ_le h0 h1)
 have h2 := modZ_le (hi := 0) (lo := 2) (m := p) h0 h1 (by simp) (by simp)
 exact key _ _ ⟨h2.1, h2.2.1⟩
set_option maxHeartbeats 4000000 in
/-- one prime -/
theorem g177 (p : Int) (h0 : 0 < p) (h1 : p ≤ 18446744073709551615) (d : Int) (d0 : 0 ≤ d) (d1 : d ≤ 63) (ps : List Int) (hl : ps.length ≤ 1000000) (m : Nat) (hm : m = ps.length) (q i : Int) (hq : 2 ≤ q ∧ q ≤ 64) (hi : 0 ≤ i) (hlt : i.toNat < ps.length) (hg : ps[i.toNat]? = some q)
  (ih : ∃ b, HD AA 0 [1, 2, 3, 4, 13, 14, 15] l177_0 ⟨[.junk, .ptr 0 0, .bool false, .int .i64 d, .func (.func 212) [.ptr 0 0], .junk, .junk, .junk, .junk, .junk, .junk, .junk, .junk, .own 1 1 0 m false, .int .i64 m, .int .i64 (i + 1), .junk, .junk, .junk, .junk, .junk, .junk, .junk, .junk, .junk, .junk, .junk, .junk, .junk, .junk, .junk, .junk, .junk, .junk, .junk, .junk, .junk, .junk], [(0, .var [.int .u64 p]), (1, .row (ps.map (AVal.int .i64)) 1)], 2⟩ [.blk 0, .code r177_0] (Fin [(2, none)] 0 (.bool b) [])) :
  ∃ b, HD AA 0 [1, 2, 3, 4, 13, 14, 15] l177_0 ⟨[.junk, .ptr 0 0, .bool false, .int .i64 d, .func (.func 212) [.ptr 0 0], .junk, .junk, .junk, .junk, .junk, .junk, .junk, .junk, .own 1 1 0 m false, .int .i64 m, .int .i64 i, .junk, .junk, .junk, .junk, .junk, .junk, .junk, .junk, .junk, .junk, .junk, .junk, .junk, .junk, .junk, .junk, .junk, .junk, .junk, .junk, .junk, .junk], [(0, .var [.int .u64 p]), (1, .row (ps.map (AVal.int .i64)) 1)], 2⟩ [.blk 0, .code r177_0] (Fin [(2, none)] 0 (.bool b) []) := by
 obtain ⟨e, he, he0, he1⟩ : ∃ e, d.tdiv q = e ∧ 0 ≤ e ∧ e ≤ 63 := by
  refine ⟨_, rfl, ?_, ?_⟩
  all_goals rw [Int.tdiv_eq_ediv_of_nonneg d0]
  ·exact Int.ediv_nonneg d0 (by omega)
  ·exact Int.le_trans (Int.ediv_le_self _ d0) d1
 have hqz : ¬ q = 0 := by omega
 have c1 := s212 p h0 h1 e he0 (by omega)
 have c2 := s213 0 2 p h0 h1 (by simp) (by simp)
 have b1 := sqZ_le (n := e) h0 h1
 have c3 := fun c t => s216 c t [p, xorZ (sqZ p e) (modZ 0 2 p)] (by simp) (by
  intro x hx
  simp only [List.mem_cons, List.not_mem_nil, or_false] at hx
  rcases hx with rfl | rfl
  ·omega
  ·exact xorZ_le)
 simp only [u64s, List.map_cons, List.map_nil] at c3
 generalize sqZ p e = A at *
 generalize modZ 0 2 p = B at *
 generalize gcdZ [p, xorZ A B] = G at *
 by_cases hG : G = 1
 ·obtain ⟨b, ih⟩ := ih
  refine ⟨b, ?_⟩
  refine hd_of (by unfold l177_0; rfl) ?_
  have gg:=trivial;repeat' first|simp (maxSteps:=2000000) (disch:=omega) only [gg,hg,hqz,he,c1,c2,c3,hG,lp_head,go_sem]|(refine br ?_ ?_<;>intro gg<;>try omega)|(apply And.intro;focus omega)|omega
 ·refine ⟨false, ?_⟩
  refine hd_of (by unfold l177_0; rfl) ?_
  have gg:=trivial;repeat' first|simp (maxSteps:=2000000) (disch:=omega) only [gg,hg,hqz,he,c1,c2,c3,hG,lp_head,go_sem]|(refine br ?_ ?_<;>intro gg<;>try omega)|(apply And.intro;focus omega)|omega
set_option maxHeartbeats 4000000 in
theorem e177 (p : Int) (h0 : 0 < p) (h1 : p ≤ 18446744073709551615) (d : Int) (d0 : 0 ≤ d) (d1 : d ≤ 63) (T : AVal) (H : Heap) (n : Int) (hT : T = .lit (.slice none 0 0) ∧ H = [(0, .var [.int .u64 p])] ∧ n = 0 ∨ ∃ ps : List Int, T = .own 1 1 0 ps.length false ∧ H = [(0, .var [.int .u64 p]), (1, .row (ps.map (AVal.int .i64)) 1)] ∧ n = ps.length) (k : Nat) :
  ∃ b, HD AA 0 [1, 2, 3, 4, 13, 14, 15] l177_0 ⟨[.junk, .ptr 0 0, .bool false, .int .i64 d, .func (.func 212) [.ptr 0 0], .junk, .junk, .junk, .junk, .junk, .junk, .junk, .junk, T, .int .i64 n, .int .i64 n, .junk, .junk, .junk, .junk, .junk, .junk, .junk, .junk, .junk, .junk, .junk, .junk, .junk, .junk, .junk, .junk, .junk, .junk, .junk, .junk, .junk, .junk], H, k⟩ [.blk 0, .code r177_0] (Fin [(2, none)] 0 (.bool b) []) := by
 have c1 := s212 p h0 h1 d d0 (by omega)
 have c2 := s213 0 2 p h0 h1 (by simp) (by simp)
 generalize sqZ p d = A at *
 generalize modZ 0 2 p = B at *
 refine ⟨decide (A = B), ?_⟩
 rcases hT with ⟨a, b, c⟩ | ⟨ps, a, b, c⟩
 all_goals
  subst a b c
  refine hd_of (by unfold l177_0; rfl) ?_
  have gg:=trivial;repeat' first|simp (maxSteps:=2000000) (disch:=omega) only [gg,c1,c2,r177_0,go_sem]|(refine br ?_ ?_<;>intro gg<;>try omega)|(apply And.intro;focus omega)|omega
theorem h177 (p : Int) (h0 : 0 < p) (h1 : p ≤ 18446744073709551615) (d : Int) (d0 : 0 ≤ d) (d1 : d ≤ 63) (ps : List Int) (hl : ps.length ≤ 1000000) (hps : ∀ q ∈ ps, 2 ≤ q ∧ q ≤ 64) : ∀ (rest done : List Int) (i : Int), ps = done ++ rest → i = done.length →
  ∃ b, HD AA 0 [1, 2, 3, 4, 13, 14, 15] l177_0 ⟨[.junk, .ptr 0 0, .bool false, .int .i64 d, .func (.func 212) [.ptr 0 0], .junk, .junk, .junk, .junk, .junk, .junk, .junk, .junk, .own 1 1 0 ps.length false, .int .i64 ps.length, .int .i64 i, .junk, .junk, .junk, .junk, .junk, .junk, .junk, .junk, .junk, .junk, .junk, .junk, .junk, .junk, .junk, .junk, .junk, .junk, .junk, .junk, .junk, .junk], [(0, .var [.int .u64 p]), (1, .row (ps.map (AVal.int .i64)) 1)], 2⟩ [.blk 0, .code r177_0] (Fin [(2, none)] 0 (.bool b) [])
 | [], done, i, e1, e2 => by
  have e3 : i = ps.length := by rw [e1, e2]; simp
  rw [e3]
  exact e177 p h0 h1 d d0 d1 _ _ _ (.inr ⟨ps, rfl, rfl, rfl⟩) 2
 | q :: rest, done, i, e1, e2 => by
  have hg : ps[i.toNat]? = some q := by
   rw [e1]
   simp [e2]
  have hlt : i.toNat < ps.length := by rw [e1]; simp; omega
  exact g177 p h0 h1 d d0 d1 ps hl ps.length rfl q i (hps q (by rw [e1]; simp)) (by omega) hlt hg (h177 p h0 h1 d d0 d1 ps hl hps rest (done ++ [q]) (i + 1) (by simp [e1]) (by simp; omega))
theorem s177 (p : Int) (p0 : 0 ≤ p) (h1 : p ≤ 18446744073709551615) : ∃ b, callT AA 177 [.int .u64 p] [] = some (.bool b, []) := by
 have c0 := s176 p p0 h1
 have hl := lenZ_le h1
 by_cases hd : lenZ p - 1 < 1
 ·refine ⟨false, ?_⟩
  generalize lenZ p = L at *
  refine enter fn177 np177 rfl ?_
  have gg:=trivial;repeat' first|simp (maxSteps:=2000000) (disch:=omega) only [gg,b177,c0,go_sem]|(refine br ?_ ?_<;>intro gg<;>try omega)|(apply And.intro;focus omega)|omega
 ·have h0 : 0 < p := by
   refine Int.not_le.1 fun h => hd ?_
   have : p = 0 := by omega
   subst this
   decide
  obtain ⟨ps, hps, hpl0, hc⟩ := s215 (n := lenZ p - 1) (by omega) (by omega)
  have hpl : ps.length ≤ 1000000 := by omega
  have hh := h177 p h0 h1 (lenZ p - 1) (by omega) (by omega) ps hpl hps ps [] 0 rfl rfl
  have he := e177 p h0 h1 (lenZ p - 1) (by omega) (by omega) (.lit (.slice none 0 0)) [(0, .var [.int .u64 p])] 0 (.inl ⟨rfl, rfl, rfl⟩) 1
  generalize lenZ p = L at *
  rcases hc with hc | ⟨_, hc⟩
  ·obtain ⟨b, hh⟩ := hh
   refine ⟨b, ?_⟩
   clear he
   refine enter fn177 np177 rfl ?_
   have gg:=trivial;repeat' first|simp (maxSteps:=2000000) (disch:=omega) only [gg,b177,c0,hc,lp_head,go_sem]|(refine br ?_ ?_<;>intro gg<;>try omega)|(apply And.intro;focus omega)|omega
  ·obtain ⟨b, he⟩ := he
   refine ⟨b, ?_⟩
   clear hh
   refine enter fn177 np177 rfl ?_
   have gg:=trivial;repeat' first|simp (maxSteps:=2000000) (disch:=omega) only [gg,b177,c0,hc,lp_head,go_sem]|(refine br ?_ ?_<;>intro gg<;>try omega)|(apply And.intro;focus omega)|omega
end Go.Abs
namespace Go.Abs
attribute [local go_sem high] aBin_xorZ aBin_andZ aBin_orZ aBin_shlZ aBin_shrZ aBin_andI aBin_shrI
set_option maxRecDepth 20000
theorem ids_u64s : ∀ l : List Int, idsL (l.map (AVal.int .u64)) = []
 | [] => rfl
 | x :: r => by
  simp only [List.map_cons, idsL, AVal.ids, List.nil_append]
  exact ids_u64s r
theorem ren_u64s (f : Nat → Option Nat) : ∀ l : List Int, renL f (l.map (AVal.int .u64)) = l.map (AVal.int .u64)
 | [] => rfl
 | x :: r => by
  simp only [List.map_cons, renL, AVal.ren]
  rw [ren_u64s f r]
theorem leaf_u64s (l : List Int) : (l.map (AVal.int .u64)).all AVal.leaf = true := by
 rw [List.all_map]
 exact List.all_eq_true.2 fun _ _ => rfl
theorem rep_u64 (n : Nat) : List.replicate n (AVal.int .u64 0) = (List.replicate n (0 : Int)).map (AVal.int .u64) := by
 rw [List.map_replicate]
theorem splice_one {l : List Int} {o : Nat} {v : Int} (h : o < l.length) : splice (l.map (AVal.int .u64)) o [.int .u64 v] = (l.set o v).map (AVal.int .u64) := by
 unfold splice
 rw [List.map_set, List.set_eq_take_append_cons_drop, if_pos (by simpa using h)]
 simp
def tabF (p w : Int) (b : Nat) : Int := prodZ p [(b : Int), w]
def tabI (p w : Int) (i : Nat) : List Int := (List.range i).map (tabF p w) ++ List.replicate (256 - i) 0
def tabZ (p n : Int) : List Int := (List.range 256).map (tabF p (powZ n p))
theorem tabI_len {p w : Int} {i : Nat} (h : i ≤ 256) : (tabI p w i).length = 256 := by
 unfold tabI
 simp
 omega
theorem tabI_set {p w : Int} {i : Nat} (h : i < 256) : (tabI p w i).set i (tabF p w i) = tabI p w (i + 1) := by
 unfold tabI
 obtain ⟨k, hk⟩ : ∃ k, 256 - i = k + 1 := ⟨256 - i - 1, by omega⟩
 rw [hk, List.replicate_succ, show 256 - (i + 1) = k by omega, List.range_succ, List.map_append, List.set_append_right _ _ (by simp)]
 simp
theorem tabI_all {p w : Int} : tabI p w 256 = (List.range 256).map (tabF p w) := by
 unfold tabI
 simp
theorem h179 (p : Int) (h0 : 0 < p) (h1 : p ≤ 18446744073709551615) (w : Int) (Z : List Int) (hZ : Z.length = 256) : ∀ (k : Nat) (i : Nat) (x : Int), i + k = 256 → x = i →
  HD AA 0 [0, 4, 5, 6, 15] l179_0 ⟨[.int .u64 p, .junk, .junk, .junk, .ptr 0 0, .ptr 1 0, .int .u64 w, .junk, .junk, .junk, .junk, .junk, .junk, .junk, .junk, .int .i64 x, .junk, .junk, .junk, .junk, .junk, .junk, .junk, .junk, .junk, .junk, .junk, .junk, .junk, .junk, .junk], [(0, .var (Z.map (AVal.int .u64))), (1, .var ((tabI p w i).map (AVal.int .u64)))], 2⟩ [.blk 0, .code r179_0] (Fin [(4, some (256, true))] 0 (.agg ((tabI p w 256).map (AVal.int .u64))) [])
 | 0, i, x, e1, e2 => by
  have e3 : i = 256 := by omega
  subst e3
  have hl := tabI_len (p := p) (w := w) (Nat.le_refl 256)
  generalize tabI p w 256 = T at *
  have p1 : List.take 256 (T.map (AVal.int .u64)) = T.map (AVal.int .u64) := List.take_of_length_le (by simp; omega)
  have p2 : List.drop 256 (Z.map (AVal.int .u64)) = [] := List.drop_of_length_le (by simp; omega)
  have lf := leaf_u64s T
  refine hd_of (by unfold l179_0; rfl) ?_
  have gg:=trivial;repeat' first|simp (maxSteps:=2000000) (disch:=omega) only [gg,p1,p2,lf,hl,hZ,ids_u64s,ren_u64s,List.append_nil,r179_0,go_sem]|(refine br ?_ ?_<;>intro gg<;>try omega)|(apply And.intro;focus omega)|omega
 | k + 1, i, x, e1, e2 => by
  have hlt : i < 256 := by omega
  have hl := tabI_len (p := p) (w := w) (i := i) (by omega)
  have hs := tabI_set (p := p) (w := w) hlt
  have ih := h179 p h0 h1 w Z hZ k (i + 1) (x + 1) (by omega) (by omega)
  have hsp := splice_one (l := tabI p w i) (o := i) (v := tabF p w i) (by omega)
  rw [hs] at hsp
  unfold splice at hsp
  simp only [List.length_cons, List.length_nil, Nat.zero_add] at hsp
  have ex : x.toNat = i := by omega
  have hx : IntKind.u64.wrap x = x := wrap64_id (by omega) (by omega)
  have c := fun c t => s218 p h0 h1 c t [x, w] (by simp)
  have ef : prodZ p [x, w] = tabF p w i := by unfold tabF; rw [e2]
  rw [ef] at c
  simp only [u64s, List.map_cons, List.map_nil] at c
  generalize tabF p w i = v at *
  generalize tabI p w (i + 1) = T' at *
  generalize tabI p w i = T at *
  refine hd_of (by unfold l179_0; rfl) ?_
  have gg:=trivial;repeat' first|simp (maxSteps:=2000000) (disch:=omega) only [gg,c,ex,hx,hsp,hl,hZ,ids_u64s,ren_u64s,Nat.mul_one,lp_head,go_sem]|(refine br ?_ ?_<;>intro gg<;>try omega)|(apply And.intro;focus omega)|omega
theorem tabI_zero (p w : Int) : tabI p w 0 = List.replicate 256 0 := rfl
theorem s179 (p n : Int) (h0 : 0 < p) (h1 : p ≤ 18446744073709551615) (n0 : 0 ≤ n) (n1 : n ≤ 9223372036854775807) : callT AA 179 [.int .u64 p, .int .i64 n] [] = some (.agg ((tabZ p n).map (AVal.int .u64)), []) := by
 have c := s217 n p n0 n1 h0 h1
 have hh := h179 p h0 h1 (powZ n p) (List.replicate 256 0) (by simp) 256 0 0 (by omega) rfl
 rw [tabI_zero, tabI_all] at hh
 have e : tabZ p n = (List.range 256).map (tabF p (powZ n p)) := rfl
 rw [e]
 generalize (List.range 256).map (tabF p (powZ n p)) = R at *
 have hz := rep_u64 256
 generalize List.replicate 256 (0 : Int) = Z at *
 generalize powZ n p = w at *
 refine enter fn179 np179 rfl ?_
 have gg:=trivial;repeat' first|simp (maxSteps:=2000000) (disch:=omega) only [gg,b179,c,hz,ids_u64s,ren_u64s,lp_head,go_sem]|(refine br ?_ ?_<;>intro gg<;>try omega)|(apply And.intro;focus omega)|omega
end Go.Abs
namespace Go.Abs
attribute [local go_sem high] aBin_xorZ aBin_andZ aBin_orZ aBin_shlZ aBin_shrZ aBin_andI aBin_shrI
set_option maxRecDepth 20000
theorem tabZ_len (p n : Int) : (tabZ p n).length = 256 := by simp [tabZ]
/-- a taker's cells -/
def takC (p : Int) (T : List Int) : List AVal := .int .u64 p :: .int .i64 (lenZ p - 1) :: T.map (AVal.int .u64)
theorem s178 (p : Int) (h0 : 0 < p) (h1 : p ≤ 18446744073709551615) : callT AA 178 [.int .u64 p] [] = some (.agg (takC p (tabZ p (lenZ p - 1))), []) := by
 have l := lenZ_le h1
 have lp := lenZ_pos h0
 have c1 := s176 p (by omega) h1
 have c2 := s179 p (lenZ p - 1) h0 h1 (by omega) (by omega)
 have hl := tabZ_len p (lenZ p - 1)
 unfold takC
 generalize tabZ p (lenZ p - 1) = T at *
 generalize lenZ p = L at *
 have hz := rep_u64 256
 have hzl : (List.replicate 256 (0 : Int)).length = 256 := by simp
 generalize List.replicate 256 (0 : Int) = Z at *
 have lf := leaf_u64s T
 have d1 : List.drop 258 (.int .u64 p :: .int .i64 (L - 1) :: Z.map (AVal.int .u64)) = [] := List.drop_of_length_le (by simp; omega)
 have d2 : List.take 258 (.int .u64 p :: .int .i64 (L - 1) :: T.map (AVal.int .u64)) = .int .u64 p :: .int .i64 (L - 1) :: T.map (AVal.int .u64) := List.take_of_length_le (by simp; omega)
 have d3 : List.drop 258 (.int .u64 0 :: .int .i64 0 :: Z.map (AVal.int .u64)) = [] := List.drop_of_length_le (by simp; omega)
 refine enter fn178 np178 rfl ?_
 have gg:=trivial;repeat' first|simp (maxSteps:=2000000) (disch:=omega) only [gg,b178,c1,c2,hz,hzl,hl,lf,d1,d2,d3,ids_u64s,ren_u64s,List.append_nil,go_sem]|(refine br ?_ ?_<;>intro gg<;>try omega)|(apply And.intro;focus omega)|omega
end Go.Abs
namespace Go.Abs
attribute [local go_sem high] aBin_xorZ aBin_andZ aBin_orZ aBin_shlZ aBin_shrZ aBin_andI aBin_shrI
set_option maxRecDepth 20000
structure Rol where
 p : Int
 deg : Int
 over : List Int
 out : List Int
 at_ : Int
 full : Bool
 print : Int
/-- its cells, the window's slice given -/
def rolC (r : Rol) (W : AVal) : List AVal := .int .u64 r.p :: .int .i64 r.deg :: (r.over.map (AVal.int .u64) ++ (r.out.map (AVal.int .u64) ++ [W, .int .i64 r.at_, .bool r.full, .int .u64 r.print]))
structure RolOk (r : Rol) : Prop where
 over : r.over.length = 256
 out : r.out.length = 256
 deg : 8 ≤ r.deg ∧ r.deg ≤ 55
theorem rol_len {r : Rol} {W : AVal} (h : RolOk r) : (rolC r W).length = 518 := by
 simp [rolC, h.over, h.out]
theorem rol_1 {r : Rol} {W : AVal} : (rolC r W)[1]? = some (.int .i64 r.deg) := rfl
theorem rol_over {r : Rol} {W : AVal} (h : RolOk r) {j : Nat} (hj : j < 256) : (rolC r W)[2 + j]? = some (.int .u64 (r.over.getD j 0)) := by
 unfold rolC
 rw [show 2 + j = j + 1 + 1 by omega, List.getElem?_cons_succ, List.getElem?_cons_succ, List.getElem?_append_left (by simp [h.over]; exact hj), List.getElem?_map]
 rw [List.getElem?_eq_getElem (by rw [h.over]; exact hj), List.getD, List.getElem?_eq_getElem (by rw [h.over]; exact hj)]
 rfl
theorem rol_out {r : Rol} {W : AVal} (h : RolOk r) {j : Nat} (hj : j < 256) : (rolC r W)[258 + j]? = some (.int .u64 (r.out.getD j 0)) := by
 unfold rolC
 rw [show 258 + j = (256 + j) + 1 + 1 by omega, List.getElem?_cons_succ, List.getElem?_cons_succ, List.getElem?_append_right (by simp [h.over]), List.length_map, h.over, Nat.add_sub_cancel_left, List.getElem?_append_left (by simp [h.out]; exact hj), List.getElem?_map]
 rw [List.getElem?_eq_getElem (by rw [h.out]; exact hj), List.getD, List.getElem?_eq_getElem (by rw [h.out]; exact hj)]
 rfl
theorem rol_end {r : Rol} {W : AVal} (h : RolOk r) (j : Nat) : (rolC r W)[514 + j]? = ([W, .int .i64 r.at_, .bool r.full, .int .u64 r.print] : List AVal)[j]? := by
 unfold rolC
 rw [show 514 + j = (512 + j) + 1 + 1 by omega, List.getElem?_cons_succ, List.getElem?_cons_succ, List.getElem?_append_right (by simp [h.over]; omega), List.length_map, h.over, List.getElem?_append_right (by simp [h.out]; omega), List.length_map, h.out]
 congr 1
 omega
theorem ids_app : ∀ (a b : List AVal), idsL (a ++ b) = idsL a ++ idsL b
 | [], b => rfl
 | x :: a, b => by
  simp only [List.cons_append, idsL, ids_app a b, List.append_assoc]
theorem ren_app (f : Nat → Option Nat) : ∀ (a b : List AVal), renL f (a ++ b) = renL f a ++ renL f b
 | [], b => rfl
 | x :: a, b => by
  simp only [List.cons_append, renL, ren_app f a b]
theorem rol_ids {r : Rol} {W : AVal} : idsL (rolC r W) = W.ids := by
 unfold rolC
 simp only [idsL, AVal.ids, ids_app, ids_u64s, List.nil_append, List.append_nil]
theorem rol_ren {r : Rol} {W : AVal} (f : Nat → Option Nat) : renL f (rolC r W) = rolC r (W.ren f) := by
 unfold rolC
 simp only [renL, AVal.ren, ren_app, ren_u64s]
/-- a byte taken in -/
def takeZ (r : Rol) (x b : Int) : Int := xorZ (andZ (orZ (shlZ x 8) b) (IntKind.u64.wrap (shlZ 1 r.deg - 1))) (r.over.getD (andZ (shrZ x (r.deg - 8)) 255).toNat 0)
theorem s180 (r : Rol) (h : RolOk r) (x b : Int) (x0 : 0 ≤ x) (x1 : x ≤ 18446744073709551615) (b0 : 0 ≤ b) (b1 : b ≤ 255) (n : Nat) (ws : List AVal) : callT AA 180 [.ptr 0 0, .int .u64 x, .int .u8 b] [(0, .var (rolC r (.own 1 1 0 n false))), (1, .row ws 1)] = some (.int .u64 (takeZ r x b), [(0, .var (rolC r (.own 1 1 0 n false))), (1, .row ws 1)]) := by
 obtain ⟨d0, d1⟩ := h.deg
 have sx := shrZ_le (y := r.deg - 8) x0
 have ha := andZ_255 (x := shrZ x (r.deg - 8)) sx.1 (by omega)
 have f1 := rol_1 (r := r) (W := .own 1 1 0 n false)
 have f2 := rol_over (r := r) (W := .own 1 1 0 n false) h (j := (andZ (shrZ x (r.deg - 8)) 255).toNat) (by omega)
 have hi := rol_ids (r := r) (W := .own 1 1 0 n false)
 have hr := fun f => rol_ren (r := r) (W := .own 1 1 0 n false) f
 unfold takeZ
 refine enter fn180 np180 rfl ?_
 have gg:=trivial;repeat' first|simp (maxSteps:=2000000) (disch:=omega) only [gg,b180,f1,f2,hi,hr,Nat.mul_one,go_sem]|(refine br ?_ ?_<;>intro gg<;>try omega)|(apply And.intro;focus omega)|omega
end Go.Abs
namespace Go.Abs
attribute [local go_sem high] aBin_xorZ aBin_andZ aBin_orZ aBin_shlZ aBin_shrZ aBin_andI aBin_shrI
set_option maxRecDepth 20000
def rolA (r : Rol) : List AVal := .int .u64 r.p :: .int .i64 r.deg :: (r.over.map (AVal.int .u64) ++ r.out.map (AVal.int .u64))
theorem rol_split {r : Rol} {W : AVal} : rolC r W = rolA r ++ [W, .int .i64 r.at_, .bool r.full, .int .u64 r.print] := by
 unfold rolC rolA
 simp
theorem rolA_len {r : Rol} (h : RolOk r) : (rolA r).length = 514 := by simp [rolA, h.over, h.out]
theorem rol_cut {r : Rol} {W : AVal} (h : RolOk r) (j : Nat) (v : AVal) : List.take (514 + j) (rolC r W) ++ [v] ++ List.drop (514 + j + 1) (rolC r W) = rolA r ++ (List.take j [W, .int .i64 r.at_, .bool r.full, .int .u64 r.print] ++ [v] ++ List.drop (j + 1) [W, .int .i64 r.at_, .bool r.full, .int .u64 r.print]) := by
 have hl := rolA_len h
 rw [rol_split, ← hl, List.take_length_add_append, Nat.add_assoc, List.drop_length_add_append]
 simp
theorem put_at {r : Rol} {W : AVal} (h : RolOk r) (x : Int) : List.take 515 (rolC r W) ++ [.int .i64 x] ++ List.drop 516 (rolC r W) = rolC { r with at_ := x } W := by
 rw [rol_split (r := { r with at_ := x })]
 exact rol_cut h 1 _
theorem put_full {r : Rol} {W : AVal} (h : RolOk r) (x : Bool) : List.take 516 (rolC r W) ++ [.bool x] ++ List.drop 517 (rolC r W) = rolC { r with full := x } W := by
 rw [rol_split (r := { r with full := x })]
 exact rol_cut h 2 _
theorem put_print {r : Rol} {W : AVal} (h : RolOk r) (x : Int) : List.take 517 (rolC r W) ++ [.int .u64 x] ++ List.drop 518 (rolC r W) = rolC { r with print := x } W := by
 rw [rol_split (r := { r with print := x })]
 exact rol_cut h 3 _
theorem rol_514 {r : Rol} {W : AVal} (h : RolOk r) : (rolC r W)[514]? = some W := rol_end h 0
theorem rol_515 {r : Rol} {W : AVal} (h : RolOk r) : (rolC r W)[515]? = some (.int .i64 r.at_) := rol_end h 1
theorem rol_516 {r : Rol} {W : AVal} (h : RolOk r) : (rolC r W)[516]? = some (.bool r.full) := rol_end h 2
theorem rol_517 {r : Rol} {W : AVal} (h : RolOk r) : (rolC r W)[517]? = some (.int .u64 r.print) := rol_end h 3
def rstZ (r : Rol) : Rol := { r with at_ := 0, full := false, print := 0 }
theorem s137 (r : Rol) (h : RolOk r) (n : Nat) (ws : List AVal) : callT AA 137 [.ptr 0 0] [(0, .var (rolC r (.own 1 1 0 n false))), (1, .row ws 1)] = some (.tuple [], [(0, .var (rolC (rstZ r) (.own 1 1 0 n false))), (1, .row ws 1)]) := by
 have h1 : RolOk { r with at_ := 0 } := ⟨h.over, h.out, h.deg⟩
 have h2 : RolOk { r with at_ := 0, full := false } := ⟨h.over, h.out, h.deg⟩
 have h3 : RolOk (rstZ r) := ⟨h.over, h.out, h.deg⟩
 have l0 := rol_len (W := .own 1 1 0 n false) h
 have l1 := rol_len (W := .own 1 1 0 n false) h1
 have l2 := rol_len (W := .own 1 1 0 n false) h2
 have e1 := put_at (W := .own 1 1 0 n false) h 0
 have e2 := put_full (W := .own 1 1 0 n false) h1 false
 have e3 := put_print (W := .own 1 1 0 n false) h2 0
 have hi := rol_ids (r := rstZ r) (W := .own 1 1 0 n false)
 have hr := fun f => rol_ren (r := rstZ r) (W := .own 1 1 0 n false) f
 have er : ({ r with at_ := 0, full := false, print := 0 } : Rol) = rstZ r := rfl
 refine enter fn137 np137 rfl ?_
 have gg:=trivial;repeat' first|simp (maxSteps:=2000000) (disch:=omega) only [gg,b137,l0,l1,l2,e1,e2,e3,er,hi,hr,go_sem]|(refine br ?_ ?_<;>intro gg<;>try omega)|(apply And.intro;focus omega)|omega
end Go.Abs
namespace Go.Abs
attribute [local go_sem high] aBin_xorZ aBin_andZ aBin_orZ aBin_shlZ aBin_shrZ aBin_andI aBin_shrI
set_option maxRecDepth 20000
/-- the print behind a byte -/
def prZ (r : Rol) (ws : List UInt8) (b : UInt8) : Int := if r.full = true then xorZ (takeZ r r.print b.toNat) (r.out.getD (ws.getD r.at_.toNat 0).toNat 0) else takeZ r r.print b.toNat
def rollZ (r : Rol) (ws : List UInt8) (b : UInt8) : Rol :=
 if r.at_ + 1 = ws.length then { r with print := prZ r ws b, at_ := 0, full := true } else { r with print := prZ r ws b, at_ := r.at_ + 1 }
set_option maxHeartbeats 4000000 in
theorem s136 (r : Rol) (h : RolOk r) (p0 : 0 ≤ r.print) (p1 : r.print ≤ 18446744073709551615) (ws : List UInt8) (n : Nat) (hn : ws.length = n) (n1 : n ≤ 1000000) (a0 : 0 ≤ r.at_) (a1 : r.at_ < n) (b : UInt8) : callT AA 136 [.ptr 0 0, .int .u8 b.toNat] [(0, .var (rolC r (.own 1 1 0 n false))), (1, .row (ws.map .byte) 1)] = some (.int .u64 (rollZ r ws b).print, [(0, .var (rolC (rollZ r ws b) (.own 1 1 0 n false))), (1, .row ((ws.set r.at_.toNat b).map .byte) 1)]) := by
 have hb := b.toNat_lt
 have c := s180 r h r.print b.toNat p0 p1 (by omega) (by omega) n (ws.map .byte)
 obtain ⟨w, hw⟩ : ∃ w, ws[r.at_.toNat]? = some w := ⟨_, List.getElem?_eq_getElem (by omega)⟩
 have hwd : ws.getD r.at_.toNat 0 = w := by rw [List.getD, hw]; rfl
 have hwl := w.toNat_lt
 obtain ⟨t, ht⟩ : ∃ t, takeZ r r.print b.toNat = t := ⟨_, rfl⟩
 have hpr : prZ r ws b = if r.full = true then xorZ t (r.out.getD w.toNat 0) else t := by unfold prZ; rw [ht, hwd]
 rw [ht] at c
 have hset : (ws.map AVal.byte).set r.at_.toNat (.int .u8 (b.toNat : Int)) = (ws.set r.at_.toNat b).map .byte := by
  rw [List.map_set]
  rfl
 have ha : r.at_.toNat < n := by omega
 have k1 : RolOk ({ r with print := t } : Rol) := ⟨h.over, h.out, h.deg⟩
 have l0 := fun (q : Rol) (hq : RolOk q) => rol_len (W := .own 1 1 0 n false) hq
 unfold rollZ
 rw [hpr, hn]
 clear hpr hwd ht
 obtain ⟨p, dg, ov, ou, at0, fu, pr⟩ := r
 simp only at *
 cases fu with
 | false =>
  have k2 : RolOk ⟨p, dg, ov, ou, at0 + 1, false, t⟩ := ⟨h.over, h.out, h.deg⟩
  by_cases hz : at0 + 1 = n
  ·rw [if_pos hz]
   have hzd := decide_eq_true hz
   have k3 : RolOk ⟨p, dg, ov, ou, 0, false, t⟩ := ⟨h.over, h.out, h.deg⟩
   have k3f : RolOk ⟨p, dg, ov, ou, 0, true, t⟩ := ⟨h.over, h.out, h.deg⟩
   simp only [Bool.false_eq_true, if_false]
   refine enter fn136 np136 rfl ?_
   have gg:=trivial;repeat' first|simp (maxSteps:=2000000) (disch:=omega) only [gg,b136,c,l0 _ h,l0 _ k1,l0 _ k2,l0 _ k3,rol_514 h,rol_515 h,rol_516 h,rol_517 h,rol_514 k1,rol_515 k1,rol_516 k1,rol_517 k1,rol_514 k2,rol_515 k2,rol_517 k2,rol_517 k3,put_print h,put_at k1,put_at k2,put_full k3,rol_517 (show RolOk ⟨p,dg,ov,ou,0,true,t⟩ from k3f),rol_ids,rol_ren,hzd,hn,ha,hset,UInt8.ofNat_toNat,go_sem]|(refine br ?_ ?_<;>intro gg<;>try omega)|(apply And.intro;focus omega)|omega
  ·rw [if_neg hz]
   have hzd := decide_eq_false hz
   simp only [Bool.false_eq_true, if_false]
   refine enter fn136 np136 rfl ?_
   have gg:=trivial;repeat' first|simp (maxSteps:=2000000) (disch:=omega) only [gg,b136,c,l0 _ h,l0 _ k1,l0 _ k2,rol_514 h,rol_515 h,rol_516 h,rol_517 h,rol_514 k1,rol_515 k1,rol_516 k1,rol_517 k1,rol_514 k2,rol_515 k2,rol_517 k2,put_print h,put_at k1,rol_ids,rol_ren,hzd,hn,ha,hset,UInt8.ofNat_toNat,go_sem]|(refine br ?_ ?_<;>intro gg<;>try omega)|(apply And.intro;focus omega)|omega
 | true =>
  obtain ⟨t2, ht2⟩ : ∃ t2, xorZ t (ou.getD w.toNat 0) = t2 := ⟨_, rfl⟩
  have k1b : RolOk ⟨p, dg, ov, ou, at0, true, t2⟩ := ⟨h.over, h.out, h.deg⟩
  have fo := rol_out (W := .own 1 1 0 n false) k1 (j := w.toNat) (by omega)
  simp only at fo
  have k2 : RolOk ⟨p, dg, ov, ou, at0 + 1, true, t2⟩ := ⟨h.over, h.out, h.deg⟩
  by_cases hz : at0 + 1 = n
  ·rw [if_pos hz]
   have hzd := decide_eq_true hz
   have k3 : RolOk ⟨p, dg, ov, ou, 0, true, t2⟩ := ⟨h.over, h.out, h.deg⟩
   have k3f : RolOk ⟨p, dg, ov, ou, 0, true, t2⟩ := ⟨h.over, h.out, h.deg⟩
   simp only [if_true, ht2]
   refine enter fn136 np136 rfl ?_
   have gg:=trivial;repeat' first|simp (maxSteps:=2000000) (disch:=omega) only [gg,b136,c,l0 _ h,l0 _ k1,l0 _ k1b,l0 _ k2,l0 _ k3,rol_514 h,rol_515 h,rol_516 h,rol_517 h,rol_514 k1,rol_515 k1,rol_516 k1,rol_517 k1,rol_514 k1b,rol_515 k1b,fo,ht2,hw,Nat.mul_one,rol_514 k2,rol_515 k2,rol_517 k2,rol_517 k3,put_print h,put_print k1,put_at k1b,put_at k2,put_full k3,rol_517 (show RolOk ⟨p,dg,ov,ou,0,true,t2⟩ from k3f),rol_ids,rol_ren,hzd,hn,ha,hset,UInt8.ofNat_toNat,go_sem]|(refine br ?_ ?_<;>intro gg<;>try omega)|(apply And.intro;focus omega)|omega
  ·rw [if_neg hz]
   have hzd := decide_eq_false hz
   simp only [if_true, ht2]
   refine enter fn136 np136 rfl ?_
   have gg:=trivial;repeat' first|simp (maxSteps:=2000000) (disch:=omega) only [gg,b136,c,l0 _ h,l0 _ k1,l0 _ k1b,l0 _ k2,rol_514 h,rol_515 h,rol_516 h,rol_517 h,rol_514 k1,rol_515 k1,rol_516 k1,rol_517 k1,rol_514 k1b,rol_515 k1b,fo,ht2,hw,Nat.mul_one,rol_514 k2,rol_515 k2,rol_517 k2,put_print h,put_print k1,put_at k1b,rol_ids,rol_ren,hzd,hn,ha,hset,UInt8.ofNat_toNat,go_sem]|(refine br ?_ ?_<;>intro gg<;>try omega)|(apply And.intro;focus omega)|omega
end Go.Abs
namespace Go.Abs
attribute [local go_sem high] aBin_xorZ aBin_andZ aBin_orZ aBin_shlZ aBin_shrZ aBin_andI aBin_shrI
set_option maxRecDepth 20000
def newR (p w : Int) : Rol := ⟨p, lenZ p - 1, tabZ p (lenZ p - 1), tabZ p (8 * w), 0, false, 0⟩
theorem tak_len {p : Int} {T : List Int} (h : T.length = 256) : (takC p T).length = 258 := by simp [takC, h]
theorem tak_ids {p : Int} {T : List Int} : idsL (takC p T) = [] := by
 unfold takC
 simp only [idsL, AVal.ids, ids_u64s, List.nil_append]
theorem tak_ren {p : Int} {T : List Int} (f : Nat → Option Nat) : renL f (takC p T) = takC p T := by
 unfold takC
 simp only [renL, AVal.ren, ren_u64s]
theorem tak_leaf {p : Int} {T : List Int} : (takC p T).all AVal.leaf = true := by
 unfold takC
 simp only [List.all_cons, leaf_u64s, leaf_int, Bool.and_self]
theorem rol_leaf {r : Rol} {W : AVal} (h : W.leaf = true) : (rolC r W).all AVal.leaf = true := by
 unfold rolC
 simp only [List.all_cons, List.all_append, leaf_u64s, leaf_int, leaf_bool, h, List.all_nil, Bool.and_self]
theorem fill_rol {p w : Int} {W : AVal} (hW : W.leaf = true) (hc : W.cells = [W]) :
  fillA (.int .u64 0 :: .int .i64 0 :: (List.replicate 512 (.int .u64 0) ++ [.lit (.slice none 0 0), .int .i64 0, .bool false, .int .u64 0]))
   [(0, 258, .agg (takC p (tabZ p (lenZ p - 1)))), (258, 256, .agg ((tabZ p (8 * w)).map (AVal.int .u64))), (514, 1, W)] = some (rolC (newR p w) W) := by
 have hl1 := tabZ_len p (lenZ p - 1)
 have hl2 := tabZ_len p (8 * w)
 unfold newR rolC
 simp only
 generalize tabZ p (lenZ p - 1) = T at *
 generalize tabZ p (8 * w) = O at *
 have lt := tak_len (p := p) hl1
 have ot : (O.map (AVal.int .u64)).length = 256 := by simp [hl2]
 generalize hA : takC p T = A at *
 have leaf1 : A.all AVal.leaf = true := by rw [← hA]; exact tak_leaf
 have leaf2 := leaf_u64s O
 generalize hB : O.map (AVal.int .u64) = B at *
 have e0 : (AVal.int .u64 0 :: AVal.int .i64 0 :: (List.replicate 512 (AVal.int .u64 0) ++ [.lit (.slice none 0 0), .int .i64 0, .bool false, .int .u64 0])).drop 258 = List.replicate 256 (AVal.int .u64 0) ++ [.lit (.slice none 0 0), .int .i64 0, .bool false, .int .u64 0] := by
  rw [List.drop_succ_cons, List.drop_succ_cons, List.drop_append_of_le_length (by simp), List.drop_replicate]
 have len0 : (AVal.int .u64 0 :: AVal.int .i64 0 :: (List.replicate 512 (AVal.int .u64 0) ++ [.lit (.slice none 0 0), .int .i64 0, .bool false, .int .u64 0])).length = 518 := by simp
 have s1 : splice (AVal.int .u64 0 :: AVal.int .i64 0 :: (List.replicate 512 (AVal.int .u64 0) ++ [.lit (.slice none 0 0), .int .i64 0, .bool false, .int .u64 0])) 0 A = A ++ (List.replicate 256 (AVal.int .u64 0) ++ [.lit (.slice none 0 0), .int .i64 0, .bool false, .int .u64 0]) := by
  unfold splice
  rw [Nat.zero_add, lt, e0, List.take_zero, List.nil_append]
 have s2 : splice (A ++ (List.replicate 256 (AVal.int .u64 0) ++ [.lit (.slice none 0 0), .int .i64 0, .bool false, .int .u64 0])) 258 B = A ++ (B ++ [.lit (.slice none 0 0), .int .i64 0, .bool false, .int .u64 0]) := by
  unfold splice
  rw [List.take_append_of_le_length (by omega), List.take_of_length_le (by omega), ot, List.drop_append, List.drop_of_length_le (by omega), List.nil_append, lt]
  rw [List.drop_append_of_le_length (by simp), List.drop_replicate]
  simp
 have s3 : splice (A ++ (B ++ [.lit (.slice none 0 0), .int .i64 0, .bool false, .int .u64 0])) 514 [W] = A ++ (B ++ [W, .int .i64 0, .bool false, .int .u64 0]) := by
  unfold splice
  rw [← List.append_assoc, List.take_append, List.take_of_length_le (by simp; omega), List.drop_append, List.drop_of_length_le (by simp; omega)]
  simp [lt, ot]
 unfold fillA
 rw [if_pos ⟨lt, by rw [len0]; omega, leaf1⟩]
 show fillA (splice _ 0 A) _ = _
 rw [s1]
 unfold fillA
 rw [if_pos ⟨ot, by simp [lt], leaf2⟩]
 show fillA (splice _ 258 B) _ = _
 rw [s2]
 unfold fillA
 rw [if_pos ⟨by rw [hc]; rfl, by simp [lt, ot], by rw [hc]; simp [hW]⟩, hc, s3]
 show some _ = _
 rw [← hA, ← hB]
 simp [takC]
theorem fill_own {p w : Int} {i n : Nat} : fillA (.int .u64 0 :: .int .i64 0 :: (List.replicate 512 (.int .u64 0) ++ [.lit (.slice none 0 0), .int .i64 0, .bool false, .int .u64 0]))
   [(0, 258, .agg (takC p (tabZ p (lenZ p - 1)))), (258, 256, .agg ((tabZ p (8 * w)).map (AVal.int .u64))), (514, 1, .own i 1 0 n false)] = some (rolC (newR p w) (.own i 1 0 n false)) := fill_rol rfl rfl
attribute [local go_sem high] fill_own
theorem s134 (p w mn mx bits : Int) (h0 : 0 < p) (h1 : p ≤ 18446744073709551615) (w0 : 1 ≤ w) (w1 : w ≤ 64) : callT AA 134 [.agg [.int .u64 p, .int .i64 w, .int .i64 mn, .int .i64 mx, .int .i64 bits]] [] = some (.ptr 0 0, [(0, .var (rolC (newR p w) (.own 1 1 0 w.toNat false))), (1, .row ((List.replicate w.toNat (0 : UInt8)).map .byte) 1)]) := by
 have c1 := s178 p h0 h1
 have c2 := s179 p (8 * w) h0 h1 (by omega) (by omega)
 have rl := fun i n => rol_leaf (r := newR p w) (W := .own i 1 0 n false) rfl
 have rows : List.replicate w.toNat (AVal.int .u8 0) = (List.replicate w.toNat (0 : UInt8)).map .byte := by
  rw [List.map_replicate]
  rfl
 refine enter fn134 np134 rfl ?_
 have gg:=trivial;repeat' first|simp (maxSteps:=2000000) (disch:=omega) only [gg,b134,c1,c2,rl,rows,rol_ids,rol_ren,tak_ids,tak_ren,ids_u64s,ren_u64s,go_sem]|(refine br ?_ ?_<;>intro gg<;>try omega)|(apply And.intro;focus omega)|omega
/-- the settings are good -/
def setB (irr : Bool) (p w mn mx bits : Int) : Bool := (decide (8 ≤ lenZ p - 1 ∧ lenZ p - 1 ≤ 55) && irr) && decide (1 ≤ w ∧ w ≤ 64 ∧ w ≤ mn ∧ mn ≤ mx ∧ mx ≤ 65536 ∧ 0 ≤ bits ∧ bits ≤ lenZ p - 1 ∧ bits ≤ 20)
end Go.Abs
namespace Go.Abs
attribute [local go_sem high] aBin_xorZ aBin_andZ aBin_orZ aBin_shlZ aBin_shrZ aBin_andI aBin_shrI
set_option maxRecDepth 20000
theorem s133 (p w mn mx bits : Int) (p0 : 0 ≤ p) (h1 : p ≤ 18446744073709551615) : ∃ irr, callT AA 133 [.agg [.int .u64 p, .int .i64 w, .int .i64 mn, .int .i64 mx, .int .i64 bits]] [] = some (if setB irr p w mn mx bits = true then .lit .nilIface else .iface 58 (.int .i64 11), []) := by
 obtain ⟨irr, hi⟩ := s177 p p0 h1
 have c := s176 p p0 h1
 have l := lenZ_le h1
 refine ⟨irr, ?_⟩
 unfold setB
 generalize lenZ p = L at *
 cases irr with
 | false =>
  rw [if_neg (by simp)]
  refine enter fn133 np133 rfl ?_
  have gg:=trivial;repeat' first|simp (maxSteps:=2000000) (disch:=omega) only [gg,b133,c,hi,go_sem]|(refine br ?_ ?_<;>intro gg<;>try omega)|(apply And.intro;focus omega)|omega
 | true =>
  by_cases hb : (8 ≤ L - 1 ∧ L - 1 ≤ 55) ∧ (1 ≤ w ∧ w ≤ 64 ∧ w ≤ mn ∧ mn ≤ mx ∧ mx ≤ 65536 ∧ 0 ≤ bits ∧ bits ≤ L - 1 ∧ bits ≤ 20)
  ·rw [if_pos (by simp [hb.1, hb.2])]
   obtain ⟨⟨_, _⟩, _, _, _, _, _, _, _, _⟩ := hb
   refine enter fn133 np133 rfl ?_
   have gg:=trivial;repeat' first|simp (maxSteps:=2000000) (disch:=omega) only [gg,b133,c,hi,go_sem]|(refine br ?_ ?_<;>intro gg<;>try omega)|(apply And.intro;focus omega)|omega
  ·rw [if_neg (by simpa using hb)]
   refine enter fn133 np133 rfl ?_
   have gg:=trivial;repeat' first|simp (maxSteps:=2000000) (disch:=omega) only [gg,b133,c,hi,go_sem]|(refine br ?_ ?_<;>intro gg<;>try omega)|(apply And.intro;focus omega)|omega
def maskZ (bits : Int) : Int := IntKind.u64.wrap (shlZ 1 bits - 1)
def endsZ (mn mx bits : Int) (k : Nat) (pr : Int) : Bool := decide (mn ≤ (k : Int)) && (decide ((k : Int) = mx) || decide (andZ pr (maskZ bits) = maskZ bits))
theorem s135 (p w mn mx bits pr : Int) (b0 : 0 ≤ bits) (r : Rol) (n : Nat) (ws X : List AVal) (k : Nat) (hk : k ≤ 1000000) :
  callT AA 135 [.ptr 0 0, .int .u64 pr] [(0, .var [.int .u64 p, .int .i64 w, .int .i64 mn, .int .i64 mx, .int .i64 bits, .ptr 1 0, .own 3 1 0 k false]), (1, .var (rolC r (.own 2 1 0 n false))), (2, .row ws 1), (3, .row X 1)]
   = some (.bool (endsZ mn mx bits k pr), [(0, .var [.int .u64 p, .int .i64 w, .int .i64 mn, .int .i64 mx, .int .i64 bits, .ptr 1 0, .own 3 1 0 k false]), (1, .var (rolC r (.own 2 1 0 n false))), (2, .row ws 1), (3, .row X 1)]) := by
 obtain ⟨M, hM⟩ : ∃ M, IntKind.u64.wrap (shlZ 1 bits - 1) = M := ⟨_, rfl⟩
 obtain ⟨A, hA⟩ : ∃ A, andZ pr M = A := ⟨_, rfl⟩
 unfold endsZ maskZ
 rw [hM, hA]
 have hi := rol_ids (r := r) (W := .own 2 1 0 n false)
 have hr := fun f => rol_ren (r := r) (W := .own 2 1 0 n false) f
 by_cases a : mn ≤ (k : Int)
 ·have a2 := decide_eq_true a
  by_cases b : (k : Int) = mx
  ·have b2 := decide_eq_true b
   rw [a2, b2]
   refine enter fn135 np135 rfl ?_
   have gg:=trivial;repeat' first|simp (maxSteps:=2000000) (disch:=omega) only [gg,b135,hM,hA,hi,hr,a2,b2,go_sem]|(refine br ?_ ?_<;>intro gg<;>try omega)|(apply And.intro;focus omega)|omega
  ·have b2 := decide_eq_false b
   rw [a2, b2]
   refine enter fn135 np135 rfl ?_
   have gg:=trivial;repeat' first|simp (maxSteps:=2000000) (disch:=omega) only [gg,b135,hM,hA,hi,hr,a2,b2,go_sem]|(refine br ?_ ?_<;>intro gg<;>try omega)|(apply And.intro;focus omega)|omega
 ·have a2 := decide_eq_false a
  rw [a2]
  refine enter fn135 np135 rfl ?_
  have gg:=trivial;repeat' first|simp (maxSteps:=2000000) (disch:=omega) only [gg,b135,hM,hA,hi,hr,a2,go_sem]|(refine br ?_ ?_<;>intro gg<;>try omega)|(apply And.intro;focus omega)|omega
end Go.Abs
namespace Go.Abs
structure CkS (σ : Type) where
 s : σ
 rest : List UInt8
 out : List (List UInt8)
section
variable {σ : Type} (roll : σ → UInt8 → σ) (ends : σ → Nat → Bool) (rst : σ → σ)
def ckStep (k : CkS σ) (b : UInt8) : CkS σ :=
 if ends (roll k.s b) (k.rest.length + 1) = true then ⟨rst (roll k.s b), [], k.out ++ [k.rest ++ [b]]⟩ else ⟨roll k.s b, k.rest ++ [b], k.out⟩
def ckFold (k : CkS σ) (l : List UInt8) : CkS σ := l.foldl (ckStep roll ends rst) k
def ckAll (k : CkS σ) : List (List UInt8) := if k.rest = [] then k.out else k.out ++ [k.rest]
def lens (l : List (List UInt8)) : List Nat := l.map List.length
theorem ckFold_snoc (k : CkS σ) (l : List UInt8) (b : UInt8) : ckFold roll ends rst k (l ++ [b]) = ckStep roll ends rst (ckFold roll ends rst k l) b := by
 unfold ckFold
 rw [List.foldl_append]
 rfl
/-- a list of bytes, from its end on -/
theorem snoc_ind {P : List UInt8 → Prop} (h0 : P []) (h1 : ∀ l b, P l → P (l ++ [b])) : ∀ (n : Nat) (l : List UInt8), l.length = n → P l
 | 0, l, h => by
  have : l = [] := List.length_eq_zero_iff.1 h
  rw [this]
  exact h0
 | n + 1, l, h => by
  have hne : l ≠ [] := by
   intro hh
   rw [hh] at h
   exact absurd h (by simp)
  have e := List.dropLast_concat_getLast hne
  have h2 := h1 l.dropLast (l.getLast hne) (snoc_ind h0 h1 n _ (by rw [List.length_dropLast, h]; rfl))
  rwa [e] at h2
theorem ck_sum (s : σ) (l : List UInt8) : (lens (ckFold roll ends rst ⟨s, [], []⟩ l).out).sum + (ckFold roll ends rst ⟨s, [], []⟩ l).rest.length = l.length := by
 refine snoc_ind (P := fun l => (lens (ckFold roll ends rst ⟨s, [], []⟩ l).out).sum + (ckFold roll ends rst ⟨s, [], []⟩ l).rest.length = l.length) rfl ?_ _ l rfl
 intro l b ih
 rw [ckFold_snoc]
 generalize ckFold roll ends rst ⟨s, [], []⟩ l = k at *
 unfold ckStep
 split
 ·simp only [lens, List.map_append, List.map_cons, List.map_nil, List.sum_append, List.length_append, List.length_cons, List.length_nil, List.sum_cons, List.sum_nil] at *
  omega
 ·simp only [List.length_append, List.length_cons, List.length_nil] at *
  omega
theorem ck_take (s : σ) (l : List UInt8) : ∀ i, i < (ckFold roll ends rst ⟨s, [], []⟩ l).out.length →
  (ckFold roll ends rst ⟨s, [], []⟩ (l.take ((lens (ckFold roll ends rst ⟨s, [], []⟩ l).out).take (i + 1)).sum)).out = (ckFold roll ends rst ⟨s, [], []⟩ l).out.take (i + 1) := by
 refine snoc_ind (P := fun l => ∀ i, i < (ckFold roll ends rst ⟨s, [], []⟩ l).out.length →
  (ckFold roll ends rst ⟨s, [], []⟩ (l.take ((lens (ckFold roll ends rst ⟨s, [], []⟩ l).out).take (i + 1)).sum)).out = (ckFold roll ends rst ⟨s, [], []⟩ l).out.take (i + 1)) ?_ ?_ _ l rfl
 ·intro i hi
  exact absurd hi (by simp [ckFold])
 intro l b ih i hi
 have hs := ck_sum roll ends rst s l
 have hsb := ck_sum roll ends rst s (l ++ [b])
 rw [ckFold_snoc] at hi hsb ⊢
 generalize hk : ckFold roll ends rst ⟨s, [], []⟩ l = k at *
 have le : ∀ (m : List Nat) (j : Nat), (m.take j).sum ≤ m.sum := by
  intro m j
  have := congrArg List.sum (List.take_append_drop j m)
  rw [List.sum_append] at this
  omega
 by_cases he : ends (roll k.s b) (k.rest.length + 1) = true
 ·have e1 : ckStep roll ends rst k b = ⟨rst (roll k.s b), [], k.out ++ [k.rest ++ [b]]⟩ := if_pos he
  rw [e1] at hi hsb ⊢
  simp only at hi hsb ⊢
  by_cases hlt : i < k.out.length
  ·have e2 : (lens (k.out ++ [k.rest ++ [b]])).take (i + 1) = (lens k.out).take (i + 1) := by
    unfold lens
    rw [List.map_append, List.take_append_of_le_length (by rw [List.length_map]; omega)]
   have h3 := le (lens k.out) (i + 1)
   rw [e2, List.take_append_of_le_length (by omega), List.take_append_of_le_length (by omega)]
   exact ih i hlt
  ·have e3 : i + 1 = (k.out ++ [k.rest ++ [b]]).length := by
    rw [List.length_append] at hi ⊢
    simp only [List.length_cons, List.length_nil] at hi ⊢
    omega
   have e4 : (lens (k.out ++ [k.rest ++ [b]])).take (i + 1) = lens (k.out ++ [k.rest ++ [b]]) := List.take_of_length_le (by rw [e3]; unfold lens; rw [List.length_map]; exact Nat.le_refl _)
   rw [e4, List.take_of_length_le (i := i + 1) (by omega)]
   have e5 : (lens (k.out ++ [k.rest ++ [b]])).sum = (l ++ [b]).length := by
    simpa using hsb
   rw [e5, List.take_length, ckFold_snoc, hk, e1]
 ·have e1 : ckStep roll ends rst k b = ⟨roll k.s b, k.rest ++ [b], k.out⟩ := if_neg he
  rw [e1] at hi hsb ⊢
  simp only at hi hsb ⊢
  have h3 := le (lens k.out) (i + 1)
  rw [List.take_append_of_le_length (by omega)]
  exact ih i hi
/-- what is cut off once stays cut off -/
theorem ck_more (k : CkS σ) : ∀ l : List UInt8, ∃ m, (ckFold roll ends rst k l).out = k.out ++ m
 | [] => ⟨[], (List.append_nil _).symm⟩
 | b :: l => by
  obtain ⟨m, hm⟩ := ck_more (ckStep roll ends rst k b) l
  have e : ckFold roll ends rst k (b :: l) = ckFold roll ends rst (ckStep roll ends rst k b) l := rfl
  rw [e, hm]
  unfold ckStep
  split
  ·exact ⟨_, List.append_assoc _ _ _⟩
  ·exact ⟨_, rfl⟩
theorem all_sum (s : σ) (l : List UInt8) : (lens (ckAll (ckFold roll ends rst ⟨s, [], []⟩ l))).sum = l.length := by
 have h := ck_sum roll ends rst s l
 unfold ckAll
 split
 ·rename_i e
  rw [e] at h
  simpa using h
 ·simp only [lens, List.map_append, List.map_cons, List.map_nil, List.sum_append, List.sum_cons, List.sum_nil] at *
  omega
theorem all_alike (s : σ) (a b : List UInt8) (n : Nat) (hn : a.take n = b.take n) (i : Nat) (c : Nat) (hc : (lens (ckAll (ckFold roll ends rst ⟨s, [], []⟩ a)))[i]? = some c)
  (h1 : ((lens (ckAll (ckFold roll ends rst ⟨s, [], []⟩ a))).take (i + 1)).sum ≤ n) (h2 : ((lens (ckAll (ckFold roll ends rst ⟨s, [], []⟩ a))).take (i + 1)).sum < a.length) :
  (lens (ckAll (ckFold roll ends rst ⟨s, [], []⟩ b)))[i]? = some c := by
 have hs := ck_sum roll ends rst s a
 have ht := ck_take roll ends rst s a
 generalize hk : ckFold roll ends rst ⟨s, [], []⟩ a = k at *
 have hall : ∃ m, ckAll k = k.out ++ m := by
  unfold ckAll
  split
  ·exact ⟨[], (List.append_nil _).symm⟩
  ·exact ⟨_, rfl⟩
 have hi : i < k.out.length := by
  refine Nat.lt_of_not_le fun hle => ?_
  have hb := (List.getElem?_eq_some_iff.1 hc).1
  have hlen : (lens (ckAll k)).length = (ckAll k).length := List.length_map _
  have he : (lens (ckAll k)).take (i + 1) = lens (ckAll k) := by
   refine List.take_of_length_le ?_
   rw [hlen]
   unfold ckAll
   split
   ·omega
   ·rw [List.length_append]
    simp only [List.length_cons, List.length_nil]
    omega
  have hsum := all_sum roll ends rst s a
  rw [hk] at hsum
  rw [he, hsum] at h2
  exact Nat.lt_irrefl _ h2
 obtain ⟨m, hm⟩ := hall
 rw [hm] at hc h1 h2
 have hl : lens (k.out ++ m) = lens k.out ++ lens m := List.map_append
 have hil : i < (lens k.out).length := by unfold lens; rw [List.length_map]; exact hi
 rw [hl, List.getElem?_append_left hil] at hc
 rw [hl, List.take_append_of_le_length (by omega)] at h1 h2
 have ht := ht i hi
 have eab : a.take ((lens k.out).take (i + 1)).sum = b.take ((lens k.out).take (i + 1)).sum := by
  have := congrArg (List.take ((lens k.out).take (i + 1)).sum) hn
  rwa [List.take_take, List.take_take, Nat.min_eq_left h1] at this
 rw [eab] at ht
 obtain ⟨m2, hm2⟩ := ck_more roll ends rst (ckFold roll ends rst ⟨s, [], []⟩ (b.take ((lens k.out).take (i + 1)).sum)) (b.drop ((lens k.out).take (i + 1)).sum)
 have e7 : ckFold roll ends rst (ckFold roll ends rst ⟨s, [], []⟩ (b.take ((lens k.out).take (i + 1)).sum)) (b.drop ((lens k.out).take (i + 1)).sum) = ckFold roll ends rst ⟨s, [], []⟩ b := by
  unfold ckFold
  rw [← List.foldl_append, List.take_append_drop]
 rw [e7, ht] at hm2
 have hall2 : ∃ m, ckAll (ckFold roll ends rst ⟨s, [], []⟩ b) = k.out.take (i + 1) ++ m := by
  unfold ckAll
  split
  ·exact ⟨_, hm2⟩
  ·rw [hm2, List.append_assoc]
   exact ⟨_, rfl⟩
 obtain ⟨m3, hm3⟩ := hall2
 rw [hm3]
 have hl3 : lens (k.out.take (i + 1) ++ m3) = (lens k.out).take (i + 1) ++ lens m3 := by
  unfold lens
  rw [List.map_append, List.map_take]
 rw [hl3, List.getElem?_append_left (by rw [List.length_take]; omega), List.getElem?_take, if_pos (by omega)]
 exact hc
end
end Go.Abs
namespace Go.Abs
attribute [local go_sem high] aBin_xorZ aBin_andZ aBin_orZ aBin_shlZ aBin_shrZ aBin_andI aBin_shrI
set_option maxRecDepth 20000
structure RInv (q : Rol × List UInt8) (n : Nat) : Prop where
 ok : RolOk q.1
 p0 : 0 ≤ q.1.print
 p1 : q.1.print ≤ 18446744073709551615
 len : q.2.length = n
 a0 : 0 ≤ q.1.at_
 a1 : q.1.at_ < n
def rollQ (q : Rol × List UInt8) (b : UInt8) : Rol × List UInt8 := (rollZ q.1 q.2 b, q.2.set q.1.at_.toNat b)
def rstQ (q : Rol × List UInt8) : Rol × List UInt8 := (rstZ q.1, q.2)
def endsQ (mn mx bits : Int) (q : Rol × List UInt8) (k : Nat) : Bool := endsZ mn mx bits k q.1.print
theorem prZ_le (r : Rol) (ws : List UInt8) (b : UInt8) : 0 ≤ prZ r ws b ∧ prZ r ws b ≤ 18446744073709551615 := by
 unfold prZ takeZ
 split <;> exact xorZ_le
theorem RInv.roll {q : Rol × List UInt8} {n : Nat} (h : RInv q n) (b : UInt8) : RInv (rollQ q b) n := by
 have := prZ_le q.1 q.2 b
 have hl := h.len
 have ha := h.a0
 have hb := h.a1
 unfold rollQ rollZ
 split
 ·exact ⟨⟨h.ok.over, h.ok.out, h.ok.deg⟩, this.1, this.2, by simpa using hl, by simp, by simp; omega⟩
 ·exact ⟨⟨h.ok.over, h.ok.out, h.ok.deg⟩, this.1, this.2, by simpa using hl, by simp; omega, by simp; omega⟩
theorem RInv.rst {q : Rol × List UInt8} {n : Nat} (h : RInv q n) : RInv (rstQ q) n := by
 have ha := h.a0
 have hb := h.a1
 exact ⟨⟨h.ok.over, h.ok.out, h.ok.deg⟩, by simp [rstQ, rstZ], by simp [rstQ, rstZ], h.len, by simp [rstQ, rstZ], by simp [rstQ, rstZ]; omega⟩
def ckC (p w mn mx bits : Int) (R : AVal) : List AVal := [.int .u64 p, .int .i64 w, .int .i64 mn, .int .i64 mx, .int .i64 bits, .ptr 1 0, R]
def vw (x : List UInt8) : AVal := .view 1 (x.map .byte) false false
def ckHeap (p w mn mx bits : Int) (n : Nat) (k : CkS (Rol × List UInt8)) : Heap :=
 if k.rest = [] then
  (if k.out = [] then [(0, .var (ckC p w mn mx bits (.lit (.slice none 0 0)))), (1, .var (rolC k.s.1 (.own 2 1 0 n false))), (2, .row (k.s.2.map .byte) 1)]
  else [(0, .var (ckC p w mn mx bits (.lit (.slice none 0 0)))), (1, .var (rolC k.s.1 (.own 2 1 0 n false))), (2, .row (k.s.2.map .byte) 1), (3, .row (k.out.map vw) 1)])
 else
  (if k.out = [] then [(0, .var (ckC p w mn mx bits (.own 3 1 0 k.rest.length false))), (1, .var (rolC k.s.1 (.own 2 1 0 n false))), (2, .row (k.s.2.map .byte) 1), (3, .row (k.rest.map .byte) 1)]
  else [(0, .var (ckC p w mn mx bits (.own 3 1 0 k.rest.length false))), (1, .var (rolC k.s.1 (.own 2 1 0 n false))), (2, .row (k.s.2.map .byte) 1), (3, .row (k.rest.map .byte) 1), (4, .row (k.out.map vw) 1)])
def ckOut (k : CkS (Rol × List UInt8)) : AVal :=
 if k.out = [] then .lit (.slice none 0 0) else if k.rest = [] then .own 3 1 0 k.out.length false else .own 4 1 0 k.out.length false
theorem ixa_1 {z : Nat} {x : AVal} {c t : Bool} {h : Heap} : ixaV z (.view z [x] c t) (.int .i64 0) h = some (.rptr x.cells t, h) := by
 simp [ixaV, toNat?]
theorem hp00 {p w mn mx bits : Int} {n : Nat} {r : Rol} {ws : List UInt8} : ckHeap p w mn mx bits n ⟨(r, ws), [], []⟩ = [(0, .var [.int .u64 p, .int .i64 w, .int .i64 mn, .int .i64 mx, .int .i64 bits, .ptr 1 0, .lit (.slice none 0 0)]), (1, .var (rolC r (.own 2 1 0 n false))), (2, .row (ws.map .byte) 1)] := rfl
theorem hp01 {p w mn mx bits : Int} {n : Nat} {r : Rol} {ws : List UInt8} {O : List (List UInt8)} (hO : O ≠ []) : ckHeap p w mn mx bits n ⟨(r, ws), [], O⟩ = [(0, .var [.int .u64 p, .int .i64 w, .int .i64 mn, .int .i64 mx, .int .i64 bits, .ptr 1 0, .lit (.slice none 0 0)]), (1, .var (rolC r (.own 2 1 0 n false))), (2, .row (ws.map .byte) 1), (3, .row (O.map vw) 1)] := by
 unfold ckHeap
 rw [if_pos rfl, if_neg hO]
 rfl
theorem hp10 {p w mn mx bits : Int} {n : Nat} {r : Rol} {ws R : List UInt8} (hR : R ≠ []) : ckHeap p w mn mx bits n ⟨(r, ws), R, []⟩ = [(0, .var [.int .u64 p, .int .i64 w, .int .i64 mn, .int .i64 mx, .int .i64 bits, .ptr 1 0, .own 3 1 0 R.length false]), (1, .var (rolC r (.own 2 1 0 n false))), (2, .row (ws.map .byte) 1), (3, .row (R.map .byte) 1)] := by
 unfold ckHeap
 rw [if_neg hR, if_pos rfl]
 rfl
theorem hp11 {p w mn mx bits : Int} {n : Nat} {r : Rol} {ws R : List UInt8} {O : List (List UInt8)} (hR : R ≠ []) (hO : O ≠ []) : ckHeap p w mn mx bits n ⟨(r, ws), R, O⟩ = [(0, .var [.int .u64 p, .int .i64 w, .int .i64 mn, .int .i64 mx, .int .i64 bits, .ptr 1 0, .own 3 1 0 R.length false]), (1, .var (rolC r (.own 2 1 0 n false))), (2, .row (ws.map .byte) 1), (3, .row (R.map .byte) 1), (4, .row (O.map vw) 1)] := by
 unfold ckHeap
 rw [if_neg hR, if_neg hO]
 rfl
theorem ot0 {q : Rol × List UInt8} {R : List UInt8} : ckOut ⟨q, R, []⟩ = .lit (.slice none 0 0) := rfl
theorem ot1 {q : Rol × List UInt8} {O : List (List UInt8)} (hO : O ≠ []) : ckOut ⟨q, [], O⟩ = .own 3 1 0 O.length false := by
 unfold ckOut
 rw [if_neg hO, if_pos rfl]
theorem ot2 {q : Rol × List UInt8} {R : List UInt8} {O : List (List UInt8)} (hR : R ≠ []) (hO : O ≠ []) : ckOut ⟨q, R, O⟩ = .own 4 1 0 O.length false := by
 unfold ckOut
 rw [if_neg hO, if_neg hR]
/-- the head of the loop over bytes -/
def wHd (p w mn mx bits : Int) (n : Nat) (D : List UInt8) (c1 t1 c2 t2 : Bool) (RO : AVal) (RH : Heap) (i : Int) (k : CkS (Rol × List UInt8)) : Prop :=
 HD AA 3 [0, 4, 5, 12, 13, 14, 18, 19, 20] l92_0 ⟨[.ptr 0 0, .junk, .junk, .junk, .lit (.slice none 0 0), ckOut k, .junk, .junk, .junk, .junk, .junk, .junk, .view 1 [.view 1 (D.map .byte) c1 t1] c2 t2, .int .i64 1, .int .i64 0, .junk, .junk, .junk, .view 1 (D.map .byte) c1 t1, .int .i64 D.length, .int .i64 i, .junk, .junk, .junk, .junk, .junk, .junk, .junk, .junk, .junk, .junk, .junk, .junk, .junk, .junk, .junk, .junk, .junk, .junk, .junk, .junk, .junk, .junk, .junk, .junk, .junk, .junk, .junk, .junk, .junk, .junk, .junk, .junk, .junk, .junk, .junk, .junk, .junk, .junk, .junk], ckHeap p w mn mx bits n k, 3 + (ckHeap p w mn mx bits n k).length⟩
  [.blk 2, .blk 1, .code r92_0, .loop [0, 4, 5, 12, 13, 14] l92_1, .blk 0, .code r92_1] (Fin [(4, none)] 3 RO RH)
set_option maxHeartbeats 2000000 in
theorem h92_end (p w mn mx bits : Int) (n : Nat) (D : List UInt8) (hd : D.length ≤ 1000000) (c1 t1 c2 t2 : Bool) (k : CkS (Rol × List UInt8)) : wHd p w mn mx bits n D c1 t1 c2 t2 (ckOut k) (ckHeap p w mn mx bits n k) D.length k := by
 obtain ⟨⟨r, ws⟩, R, O⟩ := k
 unfold wHd
 by_cases hR : R = []
 ·subst hR
  by_cases hO : O = []
  ·subst hO
   rw [hp00, ot0]
   refine hd_of (by unfold l92_0; rfl) ?_
   have gg:=trivial;repeat' first|simp (maxSteps:=2000000) (disch:=omega) only [gg,ixa_1,rol_ids,rol_ren,r92_0,lp_head,go_sem]|(refine br ?_ ?_<;>intro gg<;>try omega)|(apply And.intro;focus omega)|omega
   refine hd_of (by unfold l92_1; rfl) ?_
   have gg:=trivial;repeat' first|simp (maxSteps:=2000000) (disch:=omega) only [gg,ixa_1,rol_ids,rol_ren,r92_1,lp_head,go_sem]|(refine br ?_ ?_<;>intro gg<;>try omega)|(apply And.intro;focus omega)|omega
  ·rw [hp01 hO, ot1 hO]
   refine hd_of (by unfold l92_0; rfl) ?_
   have gg:=trivial;repeat' first|simp (maxSteps:=2000000) (disch:=omega) only [gg,ixa_1,rol_ids,rol_ren,r92_0,lp_head,go_sem]|(refine br ?_ ?_<;>intro gg<;>try omega)|(apply And.intro;focus omega)|omega
   refine hd_of (by unfold l92_1; rfl) ?_
   have gg:=trivial;repeat' first|simp (maxSteps:=2000000) (disch:=omega) only [gg,ixa_1,rol_ids,rol_ren,r92_1,lp_head,go_sem]|(refine br ?_ ?_<;>intro gg<;>try omega)|(apply And.intro;focus omega)|omega
 ·by_cases hO : O = []
  ·subst hO
   rw [hp10 hR, ot0]
   refine hd_of (by unfold l92_0; rfl) ?_
   have gg:=trivial;repeat' first|simp (maxSteps:=2000000) (disch:=omega) only [gg,ixa_1,rol_ids,rol_ren,r92_0,lp_head,go_sem]|(refine br ?_ ?_<;>intro gg<;>try omega)|(apply And.intro;focus omega)|omega
   refine hd_of (by unfold l92_1; rfl) ?_
   have gg:=trivial;repeat' first|simp (maxSteps:=2000000) (disch:=omega) only [gg,ixa_1,rol_ids,rol_ren,r92_1,lp_head,go_sem]|(refine br ?_ ?_<;>intro gg<;>try omega)|(apply And.intro;focus omega)|omega
  ·rw [hp11 hR hO, ot2 hR hO]
   refine hd_of (by unfold l92_0; rfl) ?_
   have gg:=trivial;repeat' first|simp (maxSteps:=2000000) (disch:=omega) only [gg,ixa_1,rol_ids,rol_ren,r92_0,lp_head,go_sem]|(refine br ?_ ?_<;>intro gg<;>try omega)|(apply And.intro;focus omega)|omega
   refine hd_of (by unfold l92_1; rfl) ?_
   have gg:=trivial;repeat' first|simp (maxSteps:=2000000) (disch:=omega) only [gg,ixa_1,rol_ids,rol_ren,r92_1,lp_head,go_sem]|(refine br ?_ ?_<;>intro gg<;>try omega)|(apply And.intro;focus omega)|omega
section
variable {x : List UInt8} {f : Nat → Option Nat}
theorem vw_cells : (vw x).cells = [vw x] := rfl
theorem vw_flat : (vw x).flat = true := rfl
theorem vw_closed : (vw x).closed = true := rfl
theorem vw_leaf : (vw x).leaf = true := rfl
theorem vw_ids : (vw x).ids = [] := rfl
theorem vw_ren : (vw x).ren f = vw x := rfl
theorem vw_noTmp : (vw x).noTmp = true := rfl
end
attribute [local go_sem high] vw_cells vw_flat vw_closed vw_leaf vw_ids vw_ren vw_noTmp
theorem snoc_byte (R : List UInt8) (b : UInt8) : R.map AVal.byte ++ [.int .u8 (b.toNat : Int)] = (R ++ [b]).map .byte := by
 rw [List.map_append]
 rfl
theorem snoc_vw (O : List (List UInt8)) (x : List UInt8) : O.map vw ++ [vw x] = (O ++ [x]).map vw := by
 rw [List.map_append]
 rfl
theorem vw_eq (x : List UInt8) : AVal.view 1 (x.map .byte) false false = vw x := rfl
set_option maxHeartbeats 4000000 in
theorem h92_step (p w mn mx bits : Int) (b0 : 0 ≤ bits) (n : Nat) (n1 : n ≤ 1000000) (D : List UInt8) (hd : D.length ≤ 1000000) (c1 t1 c2 t2 : Bool) (RO : AVal) (RH : Heap) (k : CkS (Rol × List UInt8)) (hq : RInv k.s n) (i : Int) (b : UInt8) (i0 : 0 ≤ i) (hb : D[i.toNat]? = some b)
  (l1 : k.rest.length ≤ i) (l2 : k.out.length ≤ i) (ih : wHd p w mn mx bits n D c1 t1 c2 t2 RO RH (i + 1) (ckStep rollQ (endsQ mn mx bits) rstQ k b)) : wHd p w mn mx bits n D c1 t1 c2 t2 RO RH i k := by
 have hil : i.toNat < D.length := (List.getElem?_eq_some_iff.1 hb).1
 have hil2 : i < D.length := by omega
 have hbl := b.toNat_lt
 obtain ⟨⟨r, ws⟩, R, O⟩ := k
 simp only at l1 l2
 have hq2 := hq.roll b
 have c136 := s136 r hq.ok hq.p0 hq.p1 ws n hq.len n1 hq.a0 hq.a1 b
 have e0 : rollQ (r, ws) b = (rollZ r ws b, ws.set r.at_.toNat b) := rfl
 rw [e0] at hq2
 unfold ckStep at ih
 simp only [e0] at ih
 have e1 : endsQ mn mx bits (rollZ r ws b, ws.set r.at_.toNat b) (R.length + 1) = endsZ mn mx bits (R.length + 1) (rollZ r ws b).print := rfl
 have e2 : rstQ (rollZ r ws b, ws.set r.at_.toNat b) = (rstZ (rollZ r ws b), ws.set r.at_.toNat b) := rfl
 rw [e1, e2] at ih
 clear hq e0 e1 e2
 generalize rollZ r ws b = r2 at *
 generalize ws.set r.at_.toNat b = ws2 at *
 have c137 := s137 r2 hq2.ok n (ws2.map .byte)
 have hnR : R ++ [b] ≠ [] := by simp
 have hnO : O ++ [R ++ [b]] ≠ [] := by simp
 have hlO : (O ++ [R ++ [b]]).length = O.length + 1 := by simp
 have hlR : (R ++ [b]).length = R.length + 1 := by simp
 have vb : AVal.view 1 [.int .u8 (b.toNat : Int)] false false = vw [b] := rfl
 unfold wHd at ih ⊢
 by_cases hR : R = []
 ·subst hR
  have c135 := s135 p w mn mx bits r2.print b0 r2 n (ws2.map .byte) [.int .u8 (b.toNat : Int)] 1 (by omega)
  simp only [List.length_nil, Nat.zero_add, List.nil_append] at ih hnR hnO hlO
  by_cases he : endsZ mn mx bits 1 r2.print = true
  ·rw [if_pos he] at ih
   rw [he] at c135
   by_cases hO : O = []
   ·subst hO
    rw [hp01 hnO, ot1 hnO, hlO] at ih
    simp only [List.nil_append, List.length_nil, Nat.zero_add, List.map_cons, List.map_nil] at ih
    rw [hp00, ot0] 
    refine hd_of (by unfold l92_0; rfl) ?_
    have gg:=trivial;repeat' first|simp (maxSteps:=2000000) (disch:=omega) only [gg,vb,hb,c136,c135,c137,rol_ids,rol_ren,lp_head,go_sem]|(refine br ?_ ?_<;>intro gg<;>try omega)|(apply And.intro;focus omega)|omega
    try exact ih
   ·skip
    rw [hp01 hnO, ot1 hnO, hlO] at ih
    have so := snoc_vw O ([b])
    generalize O ++ [[b]] = O2 at *
    rw [hp01 hO, ot1 hO] 
    refine hd_of (by unfold l92_0; rfl) ?_
    have gg:=trivial;repeat' first|simp (maxSteps:=2000000) (disch:=omega) only [gg,vb,so,hb,c136,c135,c137,rol_ids,rol_ren,lp_head,go_sem]|(refine br ?_ ?_<;>intro gg<;>try omega)|(apply And.intro;focus omega)|omega
    try exact ih
  ·rw [if_neg he] at ih
   have he2 : endsZ mn mx bits 1 r2.print = false := by simpa using he
   rw [he2] at c135
   by_cases hO : O = []
   ·subst hO
    rw [hp10 hnR, ot0] at ih
    simp only [List.length_cons, List.length_nil, Nat.zero_add, List.map_cons, List.map_nil, AVal.byte] at ih
    rw [hp00, ot0] 
    refine hd_of (by unfold l92_0; rfl) ?_
    have gg:=trivial;repeat' first|simp (maxSteps:=2000000) (disch:=omega) only [gg,hb,c136,c135,c137,rol_ids,rol_ren,lp_head,go_sem]|(refine br ?_ ?_<;>intro gg<;>try omega)|(apply And.intro;focus omega)|omega
    try exact ih
   ·skip
    rw [hp11 hnR hO, ot2 hnR hO] at ih
    simp only [List.length_cons, List.length_nil, Nat.zero_add, List.map_cons, List.map_nil, AVal.byte] at ih
    rw [hp01 hO, ot1 hO] 
    refine hd_of (by unfold l92_0; rfl) ?_
    have gg:=trivial;repeat' first|simp (maxSteps:=2000000) (disch:=omega) only [gg,hb,c136,c135,c137,rol_ids,rol_ren,lp_head,go_sem]|(refine br ?_ ?_<;>intro gg<;>try omega)|(apply And.intro;focus omega)|omega
    try exact ih
 ·have c135 := s135 p w mn mx bits r2.print b0 r2 n (ws2.map .byte) ((R ++ [b]).map .byte) (R.length + 1) (by omega)
  have sb := snoc_byte R b
  have tk : List.take (R.length + 1) ((R ++ [b]).map AVal.byte) = (R ++ [b]).map AVal.byte := List.take_of_length_le (by simp)
  by_cases he : endsZ mn mx bits (R.length + 1) r2.print = true
  ·rw [if_pos he] at ih
   rw [he] at c135
   by_cases hO : O = []
   ·subst hO
    rw [hp01 hnO, ot1 hnO, hlO] at ih
    simp only [List.nil_append, List.length_nil, Nat.zero_add, List.map_cons, List.map_nil] at ih
    generalize R ++ [b] = R2 at *
    rw [hp10 hR, ot0] 
    refine hd_of (by unfold l92_0; rfl) ?_
    have gg:=trivial;repeat' first|simp (maxSteps:=2000000) (disch:=omega) only [gg,sb,tk,vw_eq,hlR,hb,c136,c135,c137,rol_ids,rol_ren,lp_head,go_sem]|(refine br ?_ ?_<;>intro gg<;>try omega)|(apply And.intro;focus omega)|omega
    try exact ih
   ·skip
    rw [hp01 hnO, ot1 hnO, hlO] at ih
    have so := snoc_vw O (R ++ [b])
    generalize O ++ [R ++ [b]] = O2 at *
    generalize R ++ [b] = R2 at *
    rw [hp11 hR hO, ot2 hR hO] 
    refine hd_of (by unfold l92_0; rfl) ?_
    have gg:=trivial;repeat' first|simp (maxSteps:=2000000) (disch:=omega) only [gg,sb,tk,vw_eq,hlR,so,hb,c136,c135,c137,rol_ids,rol_ren,lp_head,go_sem]|(refine br ?_ ?_<;>intro gg<;>try omega)|(apply And.intro;focus omega)|omega
    try exact ih
  ·rw [if_neg he] at ih
   have he2 : endsZ mn mx bits (R.length + 1) r2.print = false := by simpa using he
   rw [he2] at c135
   by_cases hO : O = []
   ·subst hO
    rw [hp10 hnR, ot0] at ih
    rw [hlR] at ih
    generalize R ++ [b] = R2 at *
    rw [hp10 hR, ot0] 
    refine hd_of (by unfold l92_0; rfl) ?_
    have gg:=trivial;repeat' first|simp (maxSteps:=2000000) (disch:=omega) only [gg,sb,hb,c136,c135,c137,rol_ids,rol_ren,lp_head,go_sem]|(refine br ?_ ?_<;>intro gg<;>try omega)|(apply And.intro;focus omega)|omega
    try exact ih
   ·skip
    rw [hp11 hnR hO, ot2 hnR hO] at ih
    rw [hlR] at ih
    generalize R ++ [b] = R2 at *
    rw [hp11 hR hO, ot2 hR hO] 
    refine hd_of (by unfold l92_0; rfl) ?_
    have gg:=trivial;repeat' first|simp (maxSteps:=2000000) (disch:=omega) only [gg,sb,hb,c136,c135,c137,rol_ids,rol_ren,lp_head,go_sem]|(refine br ?_ ?_<;>intro gg<;>try omega)|(apply And.intro;focus omega)|omega
    try exact ih
theorem ck_inv {mn mx bits : Int} {n : Nat} {k : CkS (Rol × List UInt8)} (hq : RInv k.s n) (b : UInt8) : RInv (ckStep rollQ (endsQ mn mx bits) rstQ k b).s n := by
 unfold ckStep
 split
 ·exact (hq.roll b).rst
 ·exact hq.roll b
theorem ck_len {mn mx bits : Int} {k : CkS (Rol × List UInt8)} {d : Nat} (b : UInt8) (l1 : k.rest.length ≤ d) (l2 : k.out.length ≤ d) :
  (ckStep rollQ (endsQ mn mx bits) rstQ k b).rest.length ≤ d + 1 ∧ (ckStep rollQ (endsQ mn mx bits) rstQ k b).out.length ≤ d + 1 := by
 unfold ckStep
 split
 ·simp; omega
 ·simp; omega
theorem h92 (p w mn mx bits : Int) (b0 : 0 ≤ bits) (n : Nat) (n1 : n ≤ 1000000) (D : List UInt8) (hd : D.length ≤ 1000000) (c1 t1 c2 t2 : Bool) : ∀ (l done : List UInt8) (k : CkS (Rol × List UInt8)), RInv k.s n → k.rest.length ≤ done.length → k.out.length ≤ done.length → D = done ++ l →
  wHd p w mn mx bits n D c1 t1 c2 t2 (ckOut (ckFold rollQ (endsQ mn mx bits) rstQ k l)) (ckHeap p w mn mx bits n (ckFold rollQ (endsQ mn mx bits) rstQ k l)) done.length k
 | [], done, k, hq, l1, l2, e => by
  have e2 : (done.length : Int) = D.length := by rw [e]; simp
  rw [e2]
  exact h92_end p w mn mx bits n D hd c1 t1 c2 t2 k
 | b :: l, done, k, hq, l1, l2, e => by
  have ih := h92 p w mn mx bits b0 n n1 D hd c1 t1 c2 t2 l (done ++ [b]) (ckStep rollQ (endsQ mn mx bits) rstQ k b) (ck_inv hq b) (by simpa using (ck_len b l1 l2).1) (by simpa using (ck_len b l1 l2).2) (by rw [e]; simp)
  refine h92_step p w mn mx bits b0 n n1 D hd c1 t1 c2 t2 _ _ k hq done.length b (by omega) ?_ (by omega) (by omega) ?_
  ·rw [e]
   simp
  ·have e3 : ((done ++ [b]).length : Int) = (done.length : Int) + 1 := by simp
   rw [e3] at ih
   exact ih
theorem s92 (p w mn mx bits : Int) (b0 : 0 ≤ bits) (n : Nat) (n1 : n ≤ 1000000) (q : Rol × List UInt8) (hq : RInv q n) (data : List UInt8) (hd : data.length ≤ 1000000) (c1 t1 c2 t2 : Bool) :
  callT AA 92 [.ptr 0 0, .view 1 [.view 1 (data.map .byte) c1 t1] c2 t2] (ckHeap p w mn mx bits n ⟨q, [], []⟩)
   = some (ckOut (ckFold rollQ (endsQ mn mx bits) rstQ ⟨q, [], []⟩ data), ckHeap p w mn mx bits n (ckFold rollQ (endsQ mn mx bits) rstQ ⟨q, [], []⟩ data)) := by
 have hh := h92 p w mn mx bits b0 n n1 data hd c1 t1 c2 t2 data [] ⟨q, [], []⟩ hq (Nat.le_refl _) (Nat.le_refl _) rfl
 generalize ckOut (ckFold rollQ (endsQ mn mx bits) rstQ ⟨q, [], []⟩ data) = RO at *
 generalize ckHeap p w mn mx bits n (ckFold rollQ (endsQ mn mx bits) rstQ ⟨q, [], []⟩ data) = RH at *
 obtain ⟨r, ws⟩ := q
 unfold wHd at hh
 rw [hp00, ot0] at hh
 rw [hp00]
 simp only [List.length_nil, Int.natCast_zero] at hh
 refine enter fn92 np92 rfl ?_
 have gg:=trivial;repeat' first|simp (maxSteps:=2000000) (disch:=omega) only [gg,b92,rol_ids,rol_ren,lp_head,go_sem]|(refine br ?_ ?_<;>intro gg<;>try omega)|(apply And.intro;focus omega)|omega
 refine hd_of (by unfold l92_1; rfl) ?_
 have gg:=trivial;repeat' first|simp (maxSteps:=2000000) (disch:=omega) only [gg,ixa_1,rol_ids,rol_ren,lp_head,go_sem]|(refine br ?_ ?_<;>intro gg<;>try omega)|(apply And.intro;focus omega)|omega
end Go.Abs
namespace Go.Abs
attribute [local go_sem high] aBin_xorZ aBin_andZ aBin_orZ aBin_shlZ aBin_shrZ aBin_andI aBin_shrI
attribute [local go_sem high] vw_cells vw_flat vw_closed vw_leaf vw_ids vw_ren vw_noTmp
set_option maxRecDepth 20000
theorem noTmp_u64s : ∀ l : List Int, noTmpL (l.map (AVal.int .u64)) = true
 | [] => rfl
 | x :: r => by
  simp only [List.map_cons, noTmpL, AVal.noTmp, Bool.true_and]
  exact noTmp_u64s r
theorem noTmp_app : ∀ (a b : List AVal), noTmpL (a ++ b) = (noTmpL a && noTmpL b)
 | [], b => by simp [noTmpL]
 | x :: a, b => by
  simp only [List.cons_append, noTmpL, noTmp_app a b, Bool.and_assoc]
theorem rol_noTmp {r : Rol} {W : AVal} : noTmpL (rolC r W) = W.noTmp := by
 unfold rolC
 simp only [noTmpL, AVal.noTmp, noTmp_app, noTmp_u64s, Bool.true_and, Bool.and_true]
theorem ldE_1 {x : AVal} {h : Heap} {z : Nat} {g : Bool} : ldE [x] 0 0 z g h = (part x.cells 0 z g).map (·, h) := rfl
theorem consume_view {h : Heap} {z : Nat} {es : List AVal} {c t : Bool} : consume h (.view z es c t) = some (.view z es c t, h) := rfl
theorem closed_viewt {z : Nat} {es : List AVal} {c : Bool} : AVal.closed (.view z es c true) = false := rfl
theorem closed_viewf {z : Nat} {es : List AVal} {c : Bool} : AVal.closed (.view z es c false) = true := rfl
theorem closedT_view {z : Nat} {es : List AVal} {c t : Bool} : AVal.closedT (.view z es c t) = true := rfl
attribute [local go_sem high] consume_view closed_viewt closed_viewf closedT_view
theorem s91_bad (p w mn mx bits : Int) (irr : Bool) (hb : setB irr p w mn mx bits = false) (hc : callT AA 133 [.agg [.int .u64 p, .int .i64 w, .int .i64 mn, .int .i64 mx, .int .i64 bits]] [] = some (if setB irr p w mn mx bits = true then .lit .nilIface else .iface 58 (.int .i64 11), [])) :
  callT AA 91 [.agg [.int .u64 p, .int .i64 w, .int .i64 mn, .int .i64 mx, .int .i64 bits]] [] = some (.tuple [.lit (.pointer none), .iface 58 (.int .i64 11)], []) := by
 rw [hb] at hc
 simp only [Bool.false_eq_true, if_false] at hc
 refine enter fn91 np91 rfl ?_
 have gg:=trivial;repeat' first|simp (maxSteps:=2000000) (disch:=omega) only [gg,b91,hc,go_sem]|(refine br ?_ ?_<;>intro gg<;>try omega)|(apply And.intro;focus omega)|omega
theorem s91_ok (p w mn mx bits : Int) (irr : Bool) (h0 : 0 < p) (h1 : p ≤ 18446744073709551615) (w0 : 1 ≤ w) (w1 : w ≤ 64) (hb : setB irr p w mn mx bits = true) (hc : callT AA 133 [.agg [.int .u64 p, .int .i64 w, .int .i64 mn, .int .i64 mx, .int .i64 bits]] [] = some (if setB irr p w mn mx bits = true then .lit .nilIface else .iface 58 (.int .i64 11), [])) :
  callT AA 91 [.agg [.int .u64 p, .int .i64 w, .int .i64 mn, .int .i64 mx, .int .i64 bits]] [] = some (.tuple [.ptr 0 0, .lit .nilIface], ckHeap p w mn mx bits w.toNat ⟨(newR p w, List.replicate w.toNat 0), [], []⟩) := by
 rw [hb] at hc
 simp only [if_true] at hc
 have c := s134 p w mn mx bits h0 h1 w0 w1
 rw [hp00]
 generalize newR p w = r at *
 generalize List.replicate w.toNat (0 : UInt8) = ws at *
 refine enter fn91 np91 rfl ?_
 have gg:=trivial;repeat' first|simp (maxSteps:=2000000) (disch:=omega) only [gg,b91,hc,c,rol_ids,rol_ren,go_sem]|(refine br ?_ ?_<;>intro gg<;>try omega)|(apply And.intro;focus omega)|omega
/-- what End answers -/
def endOut (k : CkS (Rol × List UInt8)) : AVal := if k.rest = [] then .lit (.slice none 0 0) else .own 4 1 0 1 false
def endHeap (p w mn mx bits : Int) (n : Nat) (k : CkS (Rol × List UInt8)) : Heap :=
 if k.rest = [] then ckHeap p w mn mx bits n ⟨k.s, [], []⟩ else [(0, .var [.int .u64 p, .int .i64 w, .int .i64 mn, .int .i64 mx, .int .i64 bits, .ptr 1 0, .lit (.slice none 0 0)]), (1, .var (rolC (rstQ k.s).1 (.own 2 1 0 n false))), (2, .row ((rstQ k.s).2.map .byte) 1), (4, .row [vw k.rest] 1)]
theorem s93 (p w mn mx bits : Int) (n : Nat) (q : Rol × List UInt8) (hq : RInv q n) (R : List UInt8) (hl : R.length ≤ 1000000) :
  callT AA 93 [.ptr 0 0] (ckHeap p w mn mx bits n ⟨q, R, []⟩) = some (endOut ⟨q, R, []⟩, endHeap p w mn mx bits n ⟨q, R, []⟩) := by
 obtain ⟨r, ws⟩ := q
 unfold endOut endHeap
 by_cases hR : R = []
 ·subst hR
  rw [if_pos rfl, if_pos rfl, hp00]
  refine enter fn93 np93 rfl ?_
  have gg:=trivial;repeat' first|simp (maxSteps:=2000000) (disch:=omega) only [gg,b93,rol_ids,rol_ren,go_sem]|(refine br ?_ ?_<;>intro gg<;>try omega)|(apply And.intro;focus omega)|omega
 ·rw [if_neg hR, if_neg hR, hp10 hR]
  have e : rstQ (r, ws) = (rstZ r, ws) := rfl
  simp only [e]
  have c137 := s137 r hq.ok n (ws.map .byte)
  have hpos : 0 < R.length := List.length_pos_iff.2 hR
  have tk : List.take R.length (R.map AVal.byte) = R.map AVal.byte := List.take_of_length_le (by simp)
  refine enter fn93 np93 rfl ?_
  have gg:=trivial;repeat' first|simp (maxSteps:=2000000) (disch:=omega) only [gg,b93,c137,tk,vw_eq,rol_ids,rol_ren,hpos,go_sem]|(refine br ?_ ?_<;>intro gg<;>try omega)|(apply And.intro;focus omega)|omega
theorem vw_len {x : List UInt8} {h : Heap} : lenV (vw x) h = some (.int .i64 x.length, h) := by
 unfold vw
 rw [lenV_view, List.length_map]
attribute [local go_sem high] vw_len
def iv (l : List Nat) : List AVal := l.map fun (n : Nat) => AVal.int .i64 (n : Int)
theorem iv_snoc (l : List Nat) (n : Nat) : iv l ++ [.int .i64 (n : Int)] = iv (l ++ [n]) := by
 unfold iv
 rw [List.map_append]
 rfl
theorem iv_len (l : List Nat) : (iv l).length = l.length := by simp [iv]
theorem h51 (C : List (List UInt8)) (hC : C.length ≤ 1000000) : ∀ (l done : List (List UInt8)), done ≠ [] → C = done ++ l →
  HD AA 0 [4, 5, 8, 25, 26, 27] l51_0 ⟨[.junk, .junk, .junk, .junk, .lit (.slice none 0 0), .lit .nilIface, .junk, .junk, .own 0 1 0 done.length false, .junk, .junk, .junk, .junk, .junk, .junk, .junk, .junk, .junk, .junk, .junk, .junk, .junk, .junk, .junk, .junk, .own 1 1 0 C.length false, .int .i64 C.length, .int .i64 done.length, .junk, .junk, .junk, .junk, .junk, .junk, .junk, .junk, .junk, .junk], [(0, .row (iv (lens done)) 1), (1, .row (C.map vw) 1)], 2⟩ [.blk 0, .code r51_0]
   (Fin [(4, none), (5, none)] 0 (.tuple [.own 0 1 0 C.length false, .lit .nilIface]) [(0, .row (iv (lens C)) 1)])
 | [], done, hd, e => by
  rw [List.append_nil] at e
  subst e
  refine hd_of (by unfold l51_0; rfl) ?_
  have gg:=trivial;repeat' first|simp (maxSteps:=2000000) (disch:=omega) only [gg,r51_0,go_sem]|(refine br ?_ ?_<;>intro gg<;>try omega)|(apply And.intro;focus omega)|omega
 | x :: l, done, hd, e => by
  have ih := h51 C hC l (done ++ [x]) (by simp) (by rw [e]; simp)
  have hg : C[done.length]? = some x := by rw [e]; simp
  have hl : done.length < C.length := by rw [e]; simp
  have el : lens (done ++ [x]) = lens done ++ [x.length] := by unfold lens; rw [List.map_append]; rfl
  have sn := iv_snoc (lens done) x.length
  have tk : (iv (lens done)).take done.length = iv (lens done) := List.take_of_length_le (by rw [iv_len]; unfold lens; simp)
  have l3 : (iv (lens done)).length = done.length := by rw [iv_len]; unfold lens; simp
  have l4 : (done ++ [x]).length = done.length + 1 := by simp
  have e3 : ((done.length + 1 : Nat) : Int) = (done.length : Int) + 1 := by omega
  rw [el, ← sn, l4, e3] at ih
  clear el sn
  generalize iv (lens done) = I at *
  refine hd_of (by unfold l51_0; rfl) ?_
  have gg:=trivial;repeat' first|simp (maxSteps:=2000000) (disch:=omega) only [gg,hg,tk,l3,lp_head,go_sem]|(refine br ?_ ?_<;>intro gg<;>try omega)|(apply And.intro;focus omega)|omega
/-- what Cut answers -/
def cutL (mn mx bits p w : Int) (D : List UInt8) : List (List UInt8) := ckAll (ckFold rollQ (endsQ mn mx bits) rstQ ⟨(newR p w, List.replicate w.toNat 0), [], []⟩ D)
theorem newR_inv {p w : Int} (h : 8 ≤ lenZ p - 1 ∧ lenZ p - 1 ≤ 55) (w0 : 1 ≤ w) : RInv (newR p w, List.replicate w.toNat 0) w.toNat :=
 ⟨⟨tabZ_len _ _, tabZ_len _ _, h⟩, by simp [newR], by simp [newR], by simp, by simp [newR], by simp [newR]; omega⟩
theorem ck_lens {mn mx bits : Int} {D : List UInt8} : ∀ (k : CkS (Rol × List UInt8)) (d : Nat), k.rest.length ≤ d → k.out.length ≤ d → (ckFold rollQ (endsQ mn mx bits) rstQ k D).rest.length ≤ d + D.length ∧ (ckFold rollQ (endsQ mn mx bits) rstQ k D).out.length ≤ d + D.length := by
 induction D with
 | nil => exact fun k d h1 h2 => ⟨h1, h2⟩
 | cons b l ih =>
  intro k d h1 h2
  have h3 := ck_len (mn := mn) (mx := mx) (bits := bits) b h1 h2
  have := ih (ckStep rollQ (endsQ mn mx bits) rstQ k b) (d + 1) h3.1 h3.2
  have e : ckFold rollQ (endsQ mn mx bits) rstQ k (b :: l) = ckFold rollQ (endsQ mn mx bits) rstQ (ckStep rollQ (endsQ mn mx bits) rstQ k b) l := rfl
  rw [e, List.length_cons]
  omega
theorem ck_invs {mn mx bits : Int} {n : Nat} {D : List UInt8} : ∀ (k : CkS (Rol × List UInt8)), RInv k.s n → RInv (ckFold rollQ (endsQ mn mx bits) rstQ k D).s n := by
 induction D with
 | nil => exact fun k h => h
 | cons b l ih => exact fun k h => ih _ (ck_inv h b)
theorem s51_bad (p w mn mx bits : Int) (irr : Bool) (hb : setB irr p w mn mx bits = false) (hc : callT AA 133 [.agg [.int .u64 p, .int .i64 w, .int .i64 mn, .int .i64 mx, .int .i64 bits]] [] = some (if setB irr p w mn mx bits = true then .lit .nilIface else .iface 58 (.int .i64 11), [])) (D : List UInt8) (c t : Bool) :
  callT AA 51 [.agg [.int .u64 p, .int .i64 w, .int .i64 mn, .int .i64 mx, .int .i64 bits], .view 1 (D.map .byte) c t] [] = some (.tuple [.lit (.slice none 0 0), .iface 58 (.int .i64 11)], []) := by
 have c := s91_bad p w mn mx bits irr hb hc
 refine enter fn51 np51 rfl ?_
 have gg:=trivial;repeat' first|simp (maxSteps:=2000000) (disch:=omega) only [gg,b51,c,go_sem]|(refine br ?_ ?_<;>intro gg<;>try omega)|(apply And.intro;focus omega)|omega
set_option maxHeartbeats 4000000 in
theorem s51_ok (p w mn mx bits : Int) (irr : Bool) (h0 : 0 < p) (h1 : p ≤ 18446744073709551615) (hb : setB irr p w mn mx bits = true) (hc : callT AA 133 [.agg [.int .u64 p, .int .i64 w, .int .i64 mn, .int .i64 mx, .int .i64 bits]] [] = some (if setB irr p w mn mx bits = true then .lit .nilIface else .iface 58 (.int .i64 11), [])) (D : List UInt8) (hD : D ≠ []) (hl : D.length ≤ 900000) (c t : Bool) :
  callT AA 51 [.agg [.int .u64 p, .int .i64 w, .int .i64 mn, .int .i64 mx, .int .i64 bits], .view 1 (D.map .byte) c t] [] = some (.tuple [.own 0 1 0 (cutL mn mx bits p w D).length false, .lit .nilIface], [(0, .row (iv (lens (cutL mn mx bits p w D))) 1)]) := by
 have hb2 := hb
 unfold setB at hb2
 simp only [Bool.and_eq_true, decide_eq_true_eq] at hb2
 obtain ⟨⟨⟨d0, d1⟩, _⟩, w0, w1, _, _, _, bits0, _⟩ := hb2
 have c91 := s91_ok p w mn mx bits irr h0 h1 w0 w1 hb hc
 have hq := newR_inv (p := p) (w := w) ⟨d0, d1⟩ w0
 have c92 := fun c1 t1 c2 t2 => s92 p w mn mx bits bits0 w.toNat (by omega) _ hq D (by omega) c1 t1 c2 t2
 have hkl := ck_lens (mn := mn) (mx := mx) (bits := bits) (D := D) ⟨(newR p w, List.replicate w.toNat 0), [], []⟩ 0 (Nat.le_refl _) (Nat.le_refl _)
 have hki := ck_invs (mn := mn) (mx := mx) (bits := bits) (D := D) (n := w.toNat) ⟨(newR p w, List.replicate w.toNat 0), [], []⟩ hq
 have hsum := ck_sum rollQ (endsQ mn mx bits) rstQ (newR p w, List.replicate w.toNat 0) D
 unfold cutL
 rw [hp00] at c91
 simp only [hp00] at c92
 generalize ckFold rollQ (endsQ mn mx bits) rstQ ⟨(newR p w, List.replicate w.toNat 0), [], []⟩ D = k at *
 generalize newR p w = r at *
 generalize List.replicate w.toNat (0 : UInt8) = ws at *
 obtain ⟨⟨r2, ws2⟩, R, O⟩ := k
 simp only at hkl hki hsum
 have hC1 : (ckAll ⟨(r2, ws2), R, O⟩).length ≤ 1000000 := by unfold ckAll; split <;> simp <;> omega
 have hloop := h51 (ckAll ⟨(r2, ws2), R, O⟩) hC1
 have c93 := s93 p w mn mx bits w.toNat (r2, ws2) hki R (by omega)
 unfold endOut endHeap at c93
 have tkO : List.take O.length (O.map vw) = O.map vw := List.take_of_length_le (by simp)
 by_cases hR : R = []
 ·subst hR
  have hO : O ≠ [] := by
   intro h
   subst h
   exact hD (List.length_eq_zero_iff.1 (by simpa [lens] using hsum.symm))
  have hCO : ckAll ⟨(r2, ws2), [], O⟩ = O := by unfold ckAll; exact if_pos rfl
  rw [hCO] at hloop hC1 ⊢
  simp only [if_true] at c93
  rw [hp00] at c93
  simp only [hp01 hO, ot1 hO] at c92
  obtain ⟨x, l, hx⟩ := List.exists_cons_of_ne_nil hO
  have hg : O[0]? = some x := by rw [hx]; rfl
  have hpos : 0 < O.length := by rw [hx]; simp
  have ih := hloop l [x] (by simp) hx
  have e1 : lens [x] = [x.length] := rfl
  have e2 : iv [x.length] = [.int .i64 x.length] := rfl
  rw [e1, e2] at ih
  simp only [List.length_cons, List.length_nil, Nat.zero_add, Int.natCast_one] at ih
  clear hloop hx
  cases t <;> refine enter fn51 np51 rfl ?_ <;>
  have gg:=trivial;repeat' first|simp (maxSteps:=2000000) (disch:=omega) only [gg,b51,c91,c92,c93,tkO,hg,hpos,rol_ids,rol_ren,rol_noTmp,lp_head,go_sem]|(refine br ?_ ?_<;>intro gg<;>try omega)|(apply And.intro;focus omega)|omega
  all_goals refine hd_of (by unfold l51_0; rfl) ?_
  all_goals have gg:=trivial;repeat' first|simp (maxSteps:=2000000) (disch:=omega) only [gg,c91,c92,c93,tkO,hg,hpos,lp_head,go_sem]|(refine br ?_ ?_<;>intro gg<;>try omega)|(apply And.intro;focus omega)|omega
 ·have hCO : ckAll ⟨(r2, ws2), R, O⟩ = O ++ [R] := by unfold ckAll; exact if_neg hR
  rw [hCO] at hloop hC1 ⊢
  simp only [if_neg hR, rstQ] at c93
  rw [hp10 hR] at c93
  by_cases hO : O = []
  ·subst hO
   simp only [hp10 hR, ot0] at c92
   have ih := hloop [] [R] (by simp) rfl
   have e1 : lens [R] = [R.length] := rfl
   have e2 : iv [R.length] = [.int .i64 R.length] := rfl
   simp only [List.nil_append, e1, e2, List.length_cons, List.length_nil, Nat.zero_add, Int.natCast_one, List.map_cons, List.map_nil] at ih ⊢
   clear hloop
   cases t <;> refine enter fn51 np51 rfl ?_ <;>
   have gg:=trivial;repeat' first|simp (maxSteps:=2000000) (disch:=omega) only [gg,b51,c91,c92,c93,rol_ids,rol_ren,rol_noTmp,lp_head,go_sem]|(refine br ?_ ?_<;>intro gg<;>try omega)|(apply And.intro;focus omega)|omega
   all_goals refine hd_of (by unfold l51_0; rfl) ?_
   all_goals have gg:=trivial;repeat' first|simp (maxSteps:=2000000) (disch:=omega) only [gg,c91,c92,c93,ldE_1,lp_head,go_sem]|(refine br ?_ ?_<;>intro gg<;>try omega)|(apply And.intro;focus omega)|omega
  ·simp only [hp11 hR hO, ot2 hR hO] at c92
   obtain ⟨x, l, hx⟩ := List.exists_cons_of_ne_nil hO
   have so := snoc_vw O R
   have hlC : (O ++ [R]).length = O.length + 1 := by simp
   have hg : (O ++ [R])[0]? = some x := by rw [hx]; rfl
   have ih := hloop (l ++ [R]) [x] (by simp) (by rw [hx]; rfl)
   have e1 : lens [x] = [x.length] := rfl
   have e2 : iv [x.length] = [.int .i64 x.length] := rfl
   rw [e1, e2] at ih
   simp only [List.length_cons, List.length_nil, Nat.zero_add, Int.natCast_one] at ih
   clear hloop hx hCO
   rw [hlC] at ih
   rw [hlC]
   simp only [Int.natCast_add, Int.natCast_one] at ih
   generalize O ++ [R] = C at *
   cases t <;> refine enter fn51 np51 rfl ?_ <;>
   have gg:=trivial;repeat' first|simp (maxSteps:=2000000) (disch:=omega) only [gg,b51,c91,c92,c93,tkO,so,hg,hlC,rol_ids,rol_ren,rol_noTmp,lp_head,go_sem]|(refine br ?_ ?_<;>intro gg<;>try omega)|(apply And.intro;focus omega)|omega
   all_goals refine hd_of (by unfold l51_0; rfl) ?_
   all_goals have gg:=trivial;repeat' first|simp (maxSteps:=2000000) (disch:=omega) only [gg,c91,c92,c93,tkO,so,hg,hlC,lp_head,go_sem]|(refine br ?_ ?_<;>intro gg<;>try omega)|(apply And.intro;focus omega)|omega
end Go.Abs
namespace Go.Abs
set_option maxRecDepth 20000
def comL : List UInt8 → List UInt8 → Nat
 | x :: a, y :: b => if x = y then comL a b + 1 else 0
 | _, _ => 0
theorem comL_eq (x : UInt8) (a b : List UInt8) : comL (x :: a) (x :: b) = comL a b + 1 := by
 show (if x = x then comL a b + 1 else 0) = _
 exact if_pos rfl
theorem comL_ne {x y : UInt8} (h : x ≠ y) (a b : List UInt8) : comL (x :: a) (y :: b) = 0 := by
 show (if x = y then comL a b + 1 else 0) = _
 exact if_neg h
theorem comL_le : ∀ a b : List UInt8, comL a b ≤ a.length ∧ comL a b ≤ b.length
 | [], b => by simp [comL]
 | x :: a, [] => by simp [comL]
 | x :: a, y :: b => by
  have := comL_le a b
  unfold comL
  split <;> simp <;> omega
theorem comL_take : ∀ a b : List UInt8, a.take (comL a b) = b.take (comL a b)
 | [], b => by simp [comL]
 | x :: a, [] => by simp [comL]
 | x :: a, y :: b => by
  have := comL_take a b
  unfold comL
  split
  ·rename_i h
   subst h
   simp [this]
  ·rfl
theorem h52 (A B : List UInt8) (hA : A.length ≤ 1000000) (hB : B.length ≤ 1000000) (c t c2 t2 : Bool) (R : Nat) : ∀ (a b da db : List UInt8) (i : Int), A = da ++ a → B = db ++ b → i = da.length → db.length = da.length → R = da.length + comL a b →
  HD AA 0 [0, 1, 4, 5] l52_0 ⟨[.view 1 (A.map .byte) c t, .view 1 (B.map .byte) c2 t2, .junk, .junk, .int .i64 0, .int .i64 i, .junk, .junk, .junk, .junk, .junk, .junk, .junk, .junk, .junk, .junk, .junk, .junk, .junk, .junk, .junk, .junk, .junk, .junk, .junk, .junk, .junk, .junk, .junk, .junk], [], 0⟩ [.blk 0, .code r52_0] (Fin [(4, none)] 0 (.int .i64 R) [])
 | [], b, da, db, i, h1, h2, h3, h4, h5 => by
  have hl : A.length = da.length := by rw [h1]; simp
  have hR : (R : Int) = i := by rw [h5, h3]; simp [comL]
  rw [hR]
  refine hd_of (by unfold l52_0; rfl) ?_
  have gg:=trivial;repeat' first|simp (maxSteps:=2000000) (disch:=omega) only [gg,r52_0,go_sem]|(refine br ?_ ?_<;>intro gg<;>try omega)|(apply And.intro;focus omega)|omega
 | x :: a, [], da, db, i, h1, h2, h3, h4, h5 => by
  have hl : B.length = db.length := by rw [h2]; simp
  have hl2 : A.length = da.length + a.length + 1 := by rw [h1]; simp; omega
  have hR : (R : Int) = i := by rw [h5, h3]; simp [comL]
  rw [hR]
  refine hd_of (by unfold l52_0; rfl) ?_
  have gg:=trivial;repeat' first|simp (maxSteps:=2000000) (disch:=omega) only [gg,r52_0,go_sem]|(refine br ?_ ?_<;>intro gg<;>try omega)|(apply And.intro;focus omega)|omega
 | x :: a, y :: b, da, db, i, h1, h2, h3, h4, h5 => by
  have hl : B.length = db.length + b.length + 1 := by rw [h2]; simp; omega
  have hl2 : A.length = da.length + a.length + 1 := by rw [h1]; simp; omega
  have hx : A[i.toNat]? = some x := by rw [h1, h3]; simp
  have hy : B[i.toNat]? = some y := by rw [h2, h3, ← h4]; simp
  have bx := x.toNat_lt
  have bY := y.toNat_lt
  by_cases hxy : x = y
  ·have hd : decide ((x.toNat : Int) = y.toNat) = true := decide_eq_true (by rw [hxy])
   have ih := h52 A B hA hB c t c2 t2 R a b (da ++ [x]) (db ++ [y]) (i + 1) (by simp [h1]) (by simp [h2]) (by simp [h3]) (by simp [h4]) (by
    rw [h5, hxy, comL_eq]
    simp
    omega)
   clear h5
   refine hd_of (by unfold l52_0; rfl) ?_
   have gg:=trivial;repeat' first|simp (maxSteps:=2000000) (disch:=omega) only [gg,hx,hy,hd,lp_head,go_sem]|(refine br ?_ ?_<;>intro gg<;>try omega)|(apply And.intro;focus omega)|omega
  ·have hd : decide ((x.toNat : Int) = y.toNat) = false := decide_eq_false (fun h => hxy (UInt8.toNat_inj.1 (by omega)))
   have hR : (R : Int) = i := by rw [h5, h3, comL_ne hxy]; simp
   rw [hR]
   refine hd_of (by unfold l52_0; rfl) ?_
   have gg:=trivial;repeat' first|simp (maxSteps:=2000000) (disch:=omega) only [gg,hx,hy,hd,r52_0,lp_head,go_sem]|(refine br ?_ ?_<;>intro gg<;>try omega)|(apply And.intro;focus omega)|omega
theorem s52 (A B : List UInt8) (hA : A.length ≤ 1000000) (hB : B.length ≤ 1000000) (c t c2 t2 : Bool) : callT AA 52 [.view 1 (A.map .byte) c t, .view 1 (B.map .byte) c2 t2] [] = some (.int .i64 (comL A B : Nat), []) := by
 have hh := h52 A B hA hB c t c2 t2 (comL A B) A B [] [] 0 rfl rfl rfl rfl (by simp)
 refine enter fn52 np52 rfl ?_
 have gg:=trivial;repeat' first|simp (maxSteps:=2000000) (disch:=omega) only [gg,b52,lp_head,go_sem]|(refine br ?_ ?_<;>intro gg<;>try omega)|(apply And.intro;focus omega)|omega
/-- the loop of the law -/
theorem h13 (X Y : List Nat) (A B : List UInt8) (n : Nat) (hA : A.length ≤ 1000000) (hB : B.length ≤ 1000000) (hX : X.sum = A.length) (hXl : X.length ≤ 1000000) (hYl : Y.length ≤ 1000000) (hn : n ≤ 1000000)
  (H : ∀ i c, X[i]? = some c → (X.take (i + 1)).sum ≤ n → (X.take (i + 1)).sum < A.length → (X.take (i + 1)).sum < B.length → Y[i]? = some c) : ∀ (l done : List Nat) (at_ : Int), X = done ++ l → at_ = done.sum →
  HD AB 0 [6, 7, 9, 12, 13, 14, 79, 80, 81] l13_0 ⟨[.junk, .junk, .junk, .junk, .junk, .junk, .bool false, .own 0 1 0 A.length false, .junk, .own 1 1 0 B.length false, .junk, .junk, .own 2 1 0 Y.length false, .int .i64 n, .int .i64 at_, .junk, .junk, .junk, .junk, .junk, .junk, .junk, .junk, .junk, .junk, .junk, .junk, .junk, .junk, .junk, .junk, .junk, .junk, .junk, .junk, .junk, .junk, .junk, .junk, .junk, .junk, .junk, .junk, .junk, .junk, .junk, .junk, .junk, .junk, .junk, .junk, .junk, .junk, .junk, .junk, .junk, .junk, .junk, .junk, .junk, .junk, .junk, .junk, .junk, .junk, .junk, .junk, .junk, .junk, .junk, .junk, .junk, .junk, .junk, .junk, .junk, .junk, .junk, .junk, .own 3 1 0 X.length false, .int .i64 X.length, .int .i64 done.length, .junk, .junk, .junk, .junk, .junk, .junk, .junk, .junk, .junk, .junk, .junk, .junk, .junk, .junk, .junk, .junk, .junk, .junk, .junk, .junk, .junk, .junk, .junk, .junk, .junk, .junk, .junk, .junk, .junk, .junk, .junk, .junk, .junk, .junk, .junk, .junk, .junk, .junk, .junk, .junk, .junk],
   [(0, .row (A.map .byte) 1), (1, .row (B.map .byte) 1), (2, .row (iv Y) 1), (3, .row (iv X) 1)], 4⟩ [.blk 0, .code r13_0] (Fin [(6, none)] 0 (.bool true) [])
 | [], done, at_, h1, h2 => by
  have e : X = done := by rw [h1, List.append_nil]
  have e2 : X.length = done.length := by rw [e]
  have e3 : at_ = A.length := by rw [h2, ← e, hX]
  have hd : decide (at_ = (A.length : Int)) = true := decide_eq_true e3
  refine hd_of (by unfold l13_0; rfl) ?_
  have gg:=trivial;repeat' first|simp (maxSteps:=2000000) (disch:=omega) only [gg,hd,r13_0,go_sem]|(refine br ?_ ?_<;>intro gg<;>try omega)|(apply And.intro;focus omega)|omega
 | c :: l, done, at_, h1, h2 => by
  have hg : X[done.length]? = some c := by rw [h1]; simp
  have hlt : done.length < X.length := by rw [h1]; simp
  have ht : X.take (done.length + 1) = done ++ [c] := by rw [h1, List.take_append, List.take_of_length_le (by omega)]; simp
  have hs : (X.take (done.length + 1)).sum = done.sum + c := by rw [ht, List.sum_append]; simp
  have hsx : done.sum + c ≤ X.sum := by rw [h1, List.sum_append, List.sum_cons]; omega
  have ih := h13 X Y A B n hA hB hX hXl hYl hn H l (done ++ [c]) (at_ + c) (by simp [h1]) (by rw [List.sum_append, h2]; simp)
  have e4 : ((done ++ [c]).length : Int) = (done.length : Int) + 1 := by simp
  rw [e4] at ih
  have H1 := H done.length c hg
  rw [hs] at H1
  clear H h1 ht hs
  dsimp only at ih
  unfold iv at *
  refine hd_of (by unfold l13_0; rfl) ?_
  by_cases hP : at_ + c ≤ n ∧ at_ + c < A.length ∧ at_ + c < B.length
  ·obtain ⟨p1, p2, p3⟩ := hP
   have hy := H1 (by omega) (by omega) (by omega)
   have hyl := (List.getElem?_eq_some_iff.1 hy).1
   have gg:=trivial;repeat' first|simp (maxSteps:=2000000) (disch:=omega) only [gg,hg,hy,lp_head,go_sem]|(refine br ?_ ?_<;>intro gg<;>try omega)|(apply And.intro;focus omega)|omega
  ·have gg:=trivial;repeat' first|simp (maxSteps:=2000000) (disch:=omega) only [gg,hg,lp_head,go_sem]|(refine br ?_ ?_<;>intro gg<;>try omega)|(apply And.intro;focus omega)|omega
end Go.Abs
namespace Go.Abs
end Go.Abs
namespace Go.Abs
open Am
set_option maxRecDepth 10000
/-- a list that is too large -/
def largeB : Int → List Ent → Bool
 | _, [] => false
 | n, e :: r => if 65536 < n + (512 + (e.data.l.length : Int) + e.path.length + e.link.length) then true else largeB (n + (512 + (e.data.l.length : Int) + e.path.length + e.link.length)) r
def EntL (e : Ent) : Prop := e.path.length ≤ 140737488351232 ∧ e.link.length ≤ 140737488351232 ∧ e.data.l.length ≤ 140737488351232
inductive RS where
 | nil
 | mk (clip tmp : Bool) (l : List Rcd)
namespace RS
def av : RS → AVal
 | .nil => .lit (.slice none 0 0)
 | .mk c t l => .view 2 (l.map Rcd.av) c t
def l : RS → List Rcd
 | .nil => []
 | .mk _ _ l => l
def isTmp : RS → Bool
 | .nil => false
 | .mk _ t _ => t
end RS
section
variable {r : RS} {f : Nat → Option Nat} {h : Heap}
end
end Go.Abs
namespace Go.Abs
section
variable {A : AProg} {m nid n : Nat} {d : Option Nat} {env : List AVal} {h h' : Heap} {st : ASt} {S : List Frame} {F : FinP} {ops : List AOper} {v : AVal} {op : AOp} {ps : List (Nat × Nat)} {base : Nat} {fs : List Foot} {f : Foot}
def RZ (A : AProg) (m base : Nat) (ops : List AOper) (nid : Nat) (env : List AVal) (h : Heap) (n : Nat) (S : List Frame) (F : FinP) : Prop :=
 FeetT A ops nid ⟨env, h, n⟩ fun fs st => (∀ f ∈ fs, f.wr = [] ∧ ∀ id ∈ f.rd, id < base) ∧ toK A m F S .norm st
def GZ (A : AProg) (m base : Nat) (v : AVal) (want : Bool) (d : Option Nat) (op : AOp) (ops : List AOper) (nid : Nat) (env : List AVal) (h : Heap) (n : Nat) (S : List Frame) (F : FinP) : Prop := match v with
 | .bool b => (b = want → RZ A m base (⟨d, op, none⟩ :: ops) nid env h n S F) ∧ (b ≠ want → RZ A m base ops (nid + stride) (setAt d .undef env) h n S F)
 | .lit (.tuple _) => RZ A m base ops (nid + stride) (setAt d .undef env) h n S F
 | _ => False
@[go_sem] theorem gz_undef {want : Bool} : GZ A m base (.lit Go.undef) want d op ops nid env h n S F ↔ RZ A m base ops (nid + stride) (setAt d .undef env) h n S F := Iff.rfl
@[go_sem] theorem foot_wr {a b : List Nat} : Foot.wr ⟨a, b⟩ = b := rfl
@[go_sem] theorem foot_rd {a b : List Nat} : Foot.rd ⟨a, b⟩ = a := rfl
end
end Go.Abs
namespace Go.Abs
open Am
set_option maxRecDepth 10000
end Go.Abs
namespace Go.Abs
open Am
set_option maxRecDepth 100000
end Go.Abs
namespace Go.Abs
open Am
set_option maxRecDepth 100000
end Go.Abs
namespace Go.Abs
open Go.Proofs Go.RowKit Go.ChangeShapes Go.WideShapes Go.Deep
set_option maxRecDepth 100000
/-- a value that is all old memory's -/
abbrev RepW (w : World) : AVal → Value → Prop := Rep (fun _ => none) (fun b => b < w.heap.size) (fun _ => False) w
section
variable {H : Type} {enc : TypeId × Value → H} {w : World} {n : Nat} {cs : List Value} {x : DataW H × List MemPlace}
theorem lt_of_cell {a : Addr} {v : Value} (h : w.cell? a = some v) : a.block < w.heap.size ∧ a.spot = none := by
 unfold World.cell? at h
 split at h
 ·rename_i c e f hb
  refine ⟨(Array.getElem?_eq_some_iff.1 hb).1, ?_⟩
  cases hs : a.spot with
  | none => rfl
  | some k => rw [hs] at h; simp at h
 ·cases h
theorem cell_add {b o i : Nat} {sp : Option Nat} {v : Value} (h : w.cell? ((⟨b, o, sp⟩ : Addr).add i) = some v) (hs : sp = none) : w.cell? ⟨b, o + i, none⟩ = some v := by
 subst hs
 rw [← h, Addr.add_none]
/-- no string, slice or map of it is larger than the reach -/
def Light (d : DataW H) (t : TypeId) : Prop := ∀ k ∈ d.weights Tryz.prog t, k ≤ reachBytes
theorem reach_eq : reachBytes = 140737488351232 := by decide
theorem str_of (hw : Light x.1 9) (h : DataW.trod enc Tryz.prog w 0 (fun _ => true) true n 9 cs = some x) : ∃ (l : List UInt8) (v : Value), cs = [v] ∧ RepW w (.str l) v ∧ l.length ≤ 140737488351232 := by
 obtain ⟨s, h1, hx, h2⟩ := DataW.trod_string Tryz.underlying9 h
 have hwl : s.data.toList.length ≤ 140737488351232 := by
  rw [← reach_eq]
  refine hw _ ?_
  rw [hx]
  simp [DataW.weights]
 refine ⟨s.data.toList, .string s, h1, ?_, hwl⟩
 ·have := Rep.str (ι := fun _ => none) (S := fun b => b < w.heap.size) (T := fun _ => False) (w := w) s.data.toList
  simpa using this
theorem int_of (h : DataW.trod enc Tryz.prog w 0 (fun _ => true) true n 3 cs = some x) : ∃ (z : Int) (v : Value), cs = [v] ∧ RepW w (.int .i64 z) v ∧ -9223372036854775808 ≤ z ∧ z ≤ 9223372036854775807 := by
 obtain ⟨z, h1, _, h2⟩ := DataW.trod_int Tryz.underlying3 h
 simp only [Lit.wf, Bool.and_eq_true, decide_eq_true_eq] at h2
 exact ⟨z, _, h1, .int _ _, h2.1, h2.2⟩
theorem bytes_of (hw : Light x.1 26) (h : DataW.trod enc Tryz.prog w 0 (fun _ => true) true n 26 cs = some x) : ∃ (b : BS) (v : Value), cs = [v] ∧ RepW w b.av v ∧ b.isTmp = false ∧ b.l.length ≤ 140737488351232 := by
 rcases open_ints Tryz.underlying26 Tryz.underlying5 (by kernel_rfl) h with ⟨hcs, _⟩ | ⟨a, l, c, zs, hcs, _, hl, hm, hz, hx, hcell, hwz⟩
 ·exact ⟨.nil, _, hcs, .lit _, rfl, by simp [BS.l]⟩
 ·simp only [if_true] at hz
  have hwt : zs.length ≤ 140737488351232 := by
   have hb : Tryz.prog.bytesOf 5 = 1 := by kernel_rfl
   rw [← reach_eq]
   refine hw _ ?_
   rw [hx]
   simp only [DataW.weights, Tryz.underlying26, hb, lits, List.length_map, List.length_take, List.length_drop]
   refine List.mem_cons.2 (.inl ?_)
   omega
  have hw : ∀ i, i < zs.length → 0 ≤ zs.getD i 0 ∧ zs.getD i 0 ≤ 255 := by
   intro i hi
   have := hwz (zs.getD i 0) (by rw [List.getD, List.getElem?_eq_getElem hi]; exact List.getElem_mem hi)
   simpa [Lit.wf, IntKind.min, IntKind.max, IntKind.signed, IntKind.bits] using this
  obtain ⟨b, o, sp⟩ := a
  have hsp : sp = none ∨ c = 0 := by
   rcases Nat.eq_zero_or_pos c with h0 | h0
   ·exact .inr h0
   ·exact .inl (by simpa [Addr.add] using (lt_of_cell (hcell 0 (by omega))).2)
  let bs := (zs.take l).map fun z => UInt8.ofNat z.toNat
  have hlen : bs.length = l := by simp [bs]; omega
  have hget : ∀ (i : Nat) (e : AVal), (bs.map AVal.byte)[i]? = some e → i < l ∧ e = .int .u8 (zs.getD i 0) := by
   intro i e he
   have hi : i < l := by
    have := (List.getElem?_eq_some_iff.1 he).1
    simpa [hlen] using this
   refine ⟨hi, ?_⟩
   have hiz : i < zs.length := by omega
   have e1 : zs[i]? = some zs[i] := List.getElem?_eq_getElem hiz
   have e2 : zs.getD i 0 = zs[i] := by rw [List.getD, e1]; rfl
   have hb := hw i hiz
   rw [e2] at hb ⊢
   have e3 : (bs.map AVal.byte)[i]? = some (AVal.byte (UInt8.ofNat zs[i].toNat)) := by
    simp only [bs, List.getElem?_map, List.getElem?_take, hi, if_true, e1, Option.map_some]
   rw [e3] at he
   cases he
   unfold AVal.byte
   congr 1
   simp
   omega
  have hcl : ∀ i, i < zs.length → w.cell? ⟨b, o + i, none⟩ = some (.int .u8 (zs.getD i 0)) := by
   intro i hi
   refine cell_add (hcell i hi) ?_
   rcases hsp with h | h
   ·exact h
   ·omega
  have hcl1 : ∀ i, i < zs.length → w.cell? ⟨b, o + i * 1, none⟩ = some (.int .u8 (zs.getD i 0)) := by
   intro i hi
   rw [Nat.mul_one]
   exact hcl i hi
  have := Rep.view (ι := fun _ => none) (S := fun b => b < w.heap.size) (T := fun _ => False) (w := w) 1 (bs.map AVal.byte) false false b o c sp (fun i _ => .int .u8 (zs.getD i 0)) hsp (by simp [hlen]; omega) (by simp)
   (fun i e he => by
    obtain ⟨hi, rfl⟩ := hget i e he
    exact (lt_of_cell (hcl i (by omega))).1)
   (fun i e he => by
    obtain ⟨hi, rfl⟩ := hget i e he
    rfl)
   (fun i e he => by
    obtain ⟨hi, rfl⟩ := hget i e he
    rfl)
   (fun i e j y he hy => by
    obtain ⟨hi, rfl⟩ := hget i e he
    match j, hy with
    | 0, _ => exact hcl1 i (by omega)
    | j + 1, hy => simp [AVal.cells] at hy)
   (fun i e j y he hy => by
    obtain ⟨hi, rfl⟩ := hget i e he
    match j, hy with
    | 0, hy =>
     simp [AVal.cells] at hy
     subst hy
     exact .int _ _
    | j + 1, hy => simp [AVal.cells] at hy)
  refine ⟨.mk false false bs, _, hcs, ?_, rfl, ?_⟩
  ·rw [List.length_map, hlen] at this
   exact this
  ·simp only [BS.l, hlen]
   omega
structure EntW (e : Ent) : Prop where
 kind : -9223372036854775808 ≤ e.kind ∧ e.kind ≤ 9223372036854775807
 mode : -9223372036854775808 ≤ e.mode ∧ e.mode ≤ 9223372036854775807
 uid : -9223372036854775808 ≤ e.uid ∧ e.uid ≤ 9223372036854775807
 gid : -9223372036854775808 ≤ e.gid ∧ e.gid ≤ 9223372036854775807
 time : -9223372036854775808 ≤ e.time ∧ e.time ≤ 9223372036854775807
 path : e.path.length ≤ 140737488351232
 link : e.link.length ≤ 140737488351232
 data : e.data.l.length ≤ 140737488351232
 tmp : e.data.isTmp = false
theorem ent_of (hw : Light x.1 36) (h : DataW.trod enc Tryz.prog w 0 (fun _ => true) true n 36 cs = some x) : ∃ e : Ent, cs.length = 8 ∧ EntW e ∧ ∀ (j : Nat) (c : AVal) (v : Value), e.av.cells[j]? = some c → cs[j]? = some v → RepW w c v := by
 obtain ⟨xs, m, _, hx, hl, hxl, hf⟩ := DataW.trod_struct Tryz.underlying36 h
 have h8 : Tryz.prog.cellsOf 36 = 8 := by kernel_rfl
 have h9 : Tryz.prog.cellsOf 9 = 1 := by kernel_rfl
 have h3 : Tryz.prog.cellsOf 3 = 1 := by kernel_rfl
 have h26 : Tryz.prog.cellsOf 26 = 1 := by kernel_rfl
 rw [h8] at hl
 match cs, hl, xs, hxl with
 | [c0, c1, c2, c3, c4, c5, c6, c7], _, [y0, y1, y2, y3, y4, y5, y6, y7], _ =>
  have hws : (DataW.agg [y0.1, y1.1, y2.1, y3.1, y4.1, y5.1, y6.1, y7.1] : DataW H).weights Tryz.prog 36 = y0.1.weights Tryz.prog 9 ++ (y1.1.weights Tryz.prog 3 ++ (y2.1.weights Tryz.prog 3 ++ (y3.1.weights Tryz.prog 3 ++ (y4.1.weights Tryz.prog 3 ++ (y5.1.weights Tryz.prog 3 ++ (y6.1.weights Tryz.prog 9 ++ (y7.1.weights Tryz.prog 26 ++ []))))))) := by
   simp only [DataW.weights, Tryz.underlying36, List.map_cons, List.map_nil, DataW.weightsEach]
  have hw8 : ∀ k ∈ y0.1.weights Tryz.prog 9 ++ (y1.1.weights Tryz.prog 3 ++ (y2.1.weights Tryz.prog 3 ++ (y3.1.weights Tryz.prog 3 ++ (y4.1.weights Tryz.prog 3 ++ (y5.1.weights Tryz.prog 3 ++ (y6.1.weights Tryz.prog 9 ++ (y7.1.weights Tryz.prog 26 ++ []))))))), k ≤ reachBytes := by
   rw [← hws]
   intro k hk
   refine hw k ?_
   rw [hx]
   exact hk
  have w0 : Light y0.1 9 := fun k hk => hw8 k (by simp [hk])
  have w6 : Light y6.1 9 := fun k hk => hw8 k (by simp [hk])
  have w7 : Light y7.1 26 := fun k hk => hw8 k (by simp [hk])
  have g0 := hf 0 _ rfl
  have g1 := hf 1 _ rfl
  have g2 := hf 2 _ rfl
  have g3 := hf 3 _ rfl
  have g4 := hf 4 _ rfl
  have g5 := hf 5 _ rfl
  have g6 := hf 6 _ rfl
  have g7 := hf 7 _ rfl
  simp only [h9, h3, h26, List.drop_zero, List.drop_succ_cons, List.take_succ_cons, List.take_zero, List.getElem?_cons_zero, List.getElem?_cons_succ] at g0 g1 g2 g3 g4 g5 g6 g7
  obtain ⟨p, v0, e0, r0, b0⟩ := str_of w0 g0
  obtain ⟨k, v1, e1, r1, b1⟩ := int_of g1
  obtain ⟨md, v2, e2, r2, b2⟩ := int_of g2
  obtain ⟨u, v3, e3, r3, b3⟩ := int_of g3
  obtain ⟨gd, v4, e4, r4, b4⟩ := int_of g4
  obtain ⟨t, v5, e5, r5, b5⟩ := int_of g5
  obtain ⟨lk, v6, e6, r6, b6⟩ := str_of w6 g6
  obtain ⟨d, v7, e7, r7, b7, b8⟩ := bytes_of w7 g7
  cases e0; cases e1; cases e2; cases e3; cases e4; cases e5; cases e6; cases e7
  refine ⟨⟨p, k, md, u, gd, t, lk, d⟩, rfl, ⟨b1, b2, b3, b4, b5, b0, b6, b8, b7⟩, fun j c v hc hv => ?_⟩
  match j, hc, hv with
  | 0, hc, hv => cases hc; cases hv; exact r0
  | 1, hc, hv => cases hc; cases hv; exact r1
  | 2, hc, hv => cases hc; cases hv; exact r2
  | 3, hc, hv => cases hc; cases hv; exact r3
  | 4, hc, hv => cases hc; cases hv; exact r4
  | 5, hc, hv => cases hc; cases hv; exact r5
  | 6, hc, hv => cases hc; cases hv; exact r6
  | 7, hc, hv => cases hc; cases hv; exact r7
  | j + 8, hc, hv => cases hv
instance : Inhabited Ent := ⟨⟨[], 0, 0, 0, 0, 0, [], .nil⟩⟩
/-- a list of entries: nil, or a row -/
def esAv : Option (List Ent) → AVal
 | none => .lit (.slice none 0 0)
 | some t => .view 8 (t.map Ent.av) false false
def esL : Option (List Ent) → List Ent
 | none => []
 | some t => t
theorem weightsAll_mem : ∀ (l : List (DataW H)) (t : TypeId) (d : DataW H), d ∈ l → ∀ k ∈ d.weights Tryz.prog t, k ∈ DataW.weightsAll Tryz.prog t l
 | [], _, d, hd => by cases hd
 | a :: r, t, d, hd => by
  intro k hk
  simp only [DataW.weightsAll, List.mem_append]
  rcases List.mem_cons.1 hd with rfl | hd
  ·exact .inl hk
  ·exact .inr (weightsAll_mem r t d hd k hk)
theorem ents_of (hw : Light x.1 22) (h : DataW.trod enc Tryz.prog w 0 (fun _ => true) true n 22 cs = some x) : ∃ (t : Option (List Ent)) (v : Value), cs = [v] ∧ RepW w (esAv t) v ∧ (∀ e ∈ esL t, EntW e) ∧ (esL t).length ≤ 140737488351232 := by
 rcases open_slice Tryz.underlying22 h with ⟨hcs, _⟩ | ⟨a, len, cap, m, n', D, Pl, hcs, _, hl, hm, hmm, hx, hi⟩
 ·exact ⟨none, _, hcs, .lit _, by simp [esL], by simp [esL]⟩
 ·have h8 : Tryz.prog.cellsOf 36 = 8 := by kernel_rfl
  simp only [if_true] at hmm
  subst hmm
  rw [h8] at hi
  have hb : Tryz.prog.bytesOf 36 = 96 := by kernel_rfl
  have hws : x.1.weights Tryz.prog 22 = (((List.range len).map D).length + ((List.range (m - len)).map fun j => D (len + j)).length) * 96 :: (DataW.weightsAll Tryz.prog 36 ((List.range len).map D) ++ DataW.weightsAll Tryz.prog 36 ((List.range (m - len)).map fun j => D (len + j))) := by
   rw [hx]
   simp only [DataW.weights, Tryz.underlying22, hb]
  have hm96 : m * 96 ≤ 140737488351232 := by
   rw [← reach_eq]
   refine hw _ ?_
   rw [hws]
   simp only [List.length_map, List.length_range]
   refine List.mem_cons.2 (.inl ?_)
   congr 1
   omega
  have hwD : ∀ i, i < m → Light (D i) 36 := by
   intro i him k hk
   refine hw k ?_
   rw [hws]
   refine List.mem_cons.2 (.inr (List.mem_append.2 ?_))
   by_cases hil : i < len
   ·exact .inl (weightsAll_mem _ _ _ (List.mem_map.2 ⟨i, List.mem_range.2 hil, rfl⟩) k hk)
   ·refine .inr (weightsAll_mem _ _ (D i) (List.mem_map.2 ⟨i - len, List.mem_range.2 (by omega), ?_⟩) k hk)
    show D (len + (i - len)) = D i
    congr 1
    omega
  obtain ⟨V, hV⟩ := choose_lt (α := Ent × List Value) (n := m) (p := fun i z => w.cells? 0 (a.add (i * 8)) 8 = some z.2 ∧ z.2.length = 8 ∧ EntW z.1 ∧ ∀ (j : Nat) (c : AVal) (v : Value), z.1.av.cells[j]? = some c → z.2[j]? = some v → RepW w c v) (fun i him => by
   obtain ⟨cs', h1, h2⟩ := hi i him
   obtain ⟨e, e1, e2, e3⟩ := ent_of (hwD i him) h2
   exact ⟨(e, cs'), h1, e1, e2, e3⟩)
  obtain ⟨b, o, sp⟩ := a
  have hsp : sp = none ∨ m = 0 := by
   rcases Nat.eq_zero_or_pos m with h0 | h0
   ·exact .inr h0
   ·obtain ⟨h1, h2, _⟩ := hV 0 h0
    obtain ⟨_, _, h3⟩ := World.cells?_some h1
    have h4 := h3 0 (by omega)
    rw [List.getElem?_eq_getElem (by omega)] at h4
    exact .inl (by simpa [Addr.add] using (lt_of_cell h4).2)
  let t := (List.range len).map fun i => (V i).1
  have hlen : t.length = len := by simp [t]
  have hget : ∀ (i : Nat) (e : AVal), (t.map Ent.av)[i]? = some e → i < len ∧ e = (V i).1.av := by
   intro i e he
   have hi : i < len := by
    have := (List.getElem?_eq_some_iff.1 he).1
    simpa [hlen] using this
   refine ⟨hi, ?_⟩
   simp [t, hi] at he
   exact he.symm
  have hcell : ∀ (i j : Nat), i < len → j < 8 → w.cell? ⟨b, o + i * 8 + j, none⟩ = some ((V i).2.getD j undef) := by
   intro i j hi hj
   obtain ⟨h1, h2, _⟩ := hV i (by omega)
   obtain ⟨_, _, h3⟩ := World.cells?_some h1
   have h4 := h3 j hj
   have hs : sp = none := by
    rcases hsp with h | h
    ·exact h
    ·omega
   subst hs
   rw [Addr.add_none, Addr.add_none] at h4
   rw [h4, List.getD, List.getElem?_eq_getElem (by omega)]
   rfl
  have hcn : ∀ e : Ent, e.av.cells.length = 8 := fun _ => rfl
  have := Rep.view (ι := fun _ => none) (S := fun b => b < w.heap.size) (T := fun _ => False) (w := w) 8 (t.map Ent.av) false false b o m sp (fun i j => (V i).2.getD j undef) hsp (by simp [hlen]; omega) (by simp)
   (fun i e he => by
    obtain ⟨hi, rfl⟩ := hget i e he
    exact (lt_of_cell (hcell i 0 hi (by omega))).1)
   (fun i e he => by
    obtain ⟨hi, rfl⟩ := hget i e he
    rfl)
   (fun i e he => by
    obtain ⟨hi, rfl⟩ := hget i e he
    have ht := (hV i (by omega)).2.2.1.tmp
    have hf : (V i).1.data.av.flat = true := by rw [flat_bs, ht]; rfl
    show (V i).1.av.closed = true
    simp only [AVal.closed, cells_ent, List.all_cons, List.all_nil, flat_str, flat_int, hf, Bool.and_true])
   (fun i e j y he hy => by
    obtain ⟨hi, rfl⟩ := hget i e he
    have hj : j < 8 := by
     have := (List.getElem?_eq_some_iff.1 hy).1
     rwa [hcn] at this
    exact hcell i j hi hj)
   (fun i e j y he hy => by
    obtain ⟨hi, rfl⟩ := hget i e he
    have hj : j < 8 := by
     have := (List.getElem?_eq_some_iff.1 hy).1
     rwa [hcn] at this
    obtain ⟨_, h2, _, h4⟩ := hV i (by omega)
    refine h4 j y _ hy ?_
    rw [List.getD, List.getElem?_eq_getElem (by omega)]
    rfl)
  refine ⟨some t, _, hcs, ?_, ?_, ?_⟩
  ·rw [List.length_map, hlen] at this
   exact this
  ·intro e he
   simp only [esL, t, List.mem_map, List.mem_range] at he
   obtain ⟨i, hi, rfl⟩ := he
   exact (hV i (by omega)).2.2.1
  ·simp only [esL, hlen]
   omega
end
end Go.Abs
namespace Go.Abs
open Am
set_option maxRecDepth 10000
theorem large_small : ∀ (t : List Ent) (n : Int), 0 ≤ n → largeB n t = false → n + 512 * t.length ≤ 65536 + (if t = [] then n else 0) ∧ ∀ e ∈ t, e.data.l.length ≤ 65536 ∧ e.path.length ≤ 65536 ∧ e.link.length ≤ 65536
 | [], n, _, _ => by simp; omega
 | e :: t, n, h0, h => by
  unfold largeB at h
  by_cases hc : 65536 < n + (512 + (e.data.l.length : Int) + e.path.length + e.link.length)
  ·rw [if_pos hc] at h; cases h
  rw [if_neg hc] at h
  obtain ⟨h1, h2⟩ := large_small t _ (by omega) h
  refine ⟨?_, fun x hx => ?_⟩
  ·simp only [List.length_cons, reduceCtorEq, if_false]
   split at h1
   ·rename_i ht
    subst ht
    simp
    omega
   ·omega
  ·rcases List.mem_cons.1 hx with rfl | hx
   ·omega
   ·exact h2 x hx
theorem large_len {t : List Ent} (h : largeB 0 t = false) : t.length ≤ 128 := by
 have := (large_small t 0 (by omega) h).1
 split at this <;> omega
theorem entL_of {e : Ent} (h : EntW e) : EntL e := ⟨h.path, h.link, h.data⟩
theorem entOk_of {e : Ent} (h : EntW e) (h1 : e.data.l.length ≤ 65536 ∧ e.path.length ≤ 65536 ∧ e.link.length ≤ 65536) : EntOk e := ⟨by omega, by omega, by omega, h.tmp⟩
end Go.Abs
namespace Go.Abs
open Am
set_option maxRecDepth 10000
end Go.Abs
namespace Go.Abs
open Am
set_option maxRecDepth 20000
end Go.Abs
namespace Go.Abs
open Go.Proofs Go.RowKit Am
set_option maxRecDepth 100000
@[go_sem] theorem AB_moves {g : Nat} : AB.moves g = movesT g := AA_moves
theorem ab_fn {g : Nat} {fn : AFn} (h : AA.fn g = some fn) : AB.fn g = some fn := h
theorem build_run : callF AB 60 49 [.view 8 [.agg [.str [46, 47, 97], .int .i64 2, .int .i64 0, .int .i64 0, .int .i64 0, .int .i64 0, .str [], .view 1 [.int .u8 104, .int .u8 101, .int .u8 108, .int .u8 108, .int .u8 111] false false]] false true] [] =
  some (.tuple [.own 0 8 0 1 false, .lit .nilIface], [(0, .row [.agg [.str [97], .int .i64 2, .int .i64 0, .int .i64 0, .int .i64 0, .int .i64 0, .str [], .view 1 [.int .u8 104, .int .u8 101, .int .u8 108, .int .u8 108, .int .u8 111] false false]] 8)]) := by kernel_rfl
set_option maxHeartbeats 4000000 in
theorem s39 : callT AB 39 [] [] = some (.bool true, []) := by
 have h49 := callT_iff.2 ⟨60, build_run⟩
 have h17 : ∀ c t, callT AB 17 [.view 8 [.agg [.str [97], .int .i64 2, .int .i64 0, .int .i64 0, .int .i64 0, .int .i64 0, .str [], .view 1 [.int .u8 104, .int .u8 101, .int .u8 108, .int .u8 108, .int .u8 111] false false]] c t] [] = some (.tuple [.own 0 1 0 2048 false, .lit .nilIface], [(0, .row (wA.map .byte) 1)]) := by
  intro c t
  have h := w17 c t [eA] (by simp) (by simp) (by
   intro e he
   rw [List.mem_singleton.1 he]
   exact ⟨by decide, by decide, helloL, rfl, by decide⟩) (by rw [checkT_map Ent.cp same_cp]; exact checkA)
  rw [show writeL [eA] = wA from rfl, lenA] at h
  exact callT_ext h
 have h24 : ∀ c t, callT AB 24 [.view 1 (wA.map .byte) c t] [] = some (.tuple [.own 0 8 0 1 false, .lit .nilIface], [(0, .row [.agg [.str [97], .int .i64 2, .int .i64 0, .int .i64 0, .int .i64 0, .int .i64 0, .str [], .view 1 (helloL.map .byte) false false]] 8)]) := by
  intro c t
  have h := s24 (.mk c t wA) (by simp only [BS.l]; rw [lenA]; omega)
  rw [readA] at h
  exact callT_ext h
 have et : (wA.map AVal.byte).take 2048 = wA.map .byte := List.take_of_length_le (by rw [List.length_map, lenA]; omega)
 have hh : decide (helloL = [104, 101, 108, 108, 111]) = true := rfl
 have h97 : decide (([97] : List UInt8) = [97]) = true := rfl
 have hl : (wA.map AVal.byte).length = 2048 := by rw [List.length_map, lenA]
 have hw := lenA
 generalize wA = W at *
 refine enter (ab_fn fn39) rfl rfl ?_
 have gg:=trivial;repeat' first|simp (maxSteps:=2000000) (disch:=omega) only [gg,b39,h49,h17,h24,et,hh,h97,hl,hw,sl_own_both,ldE_head,go_sem]|(refine br ?_ ?_<;>intro gg<;>try omega)|(apply And.intro;focus omega)|omega
end Go.Abs
namespace Go.Abs
open Am
set_option maxRecDepth 100000
end Go.Abs
namespace Go.Abs
open Am
set_option maxRecDepth 100000
end Go.Abs
namespace Go.Abs
end Go.Abs
namespace Go.Abs
open Am
set_option maxRecDepth 20000
end Go.Abs
namespace Go.Abs
open Go.Proofs Go.RowKit Am
set_option maxRecDepth 100000
end Go.Abs
