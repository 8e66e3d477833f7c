import Derived.Test.YtambgnjkakdoeaaGreatDoorPieces8
/- PART OF A PROOF (texts joined by a program): F10 F11 F12 F13 F14 F15. -/
set_option linter.unusedVariables false
set_option linter.unusedSimpArgs false
set_option linter.unusedSectionVars false
/- RECORDS: numbers as texts; a line's length; keywords; lines. -/
namespace Go.Abs
open Am
set_option maxRecDepth 10000
set_option linter.unusedSimpArgs false
@[go_sem high] theorem aBin_saddc {e : EqK} {c : Bool} {s t : List UInt8} (h : s.length + t.length ≤ 4611686018427387904) : aBin .add e c (.str s) (.str t) = some (.str (s ++ t)) := by
  rw [aBin_sadd]
  exact if_pos h
theorem s56 (n : Int) (h1 : -9223372036854775808 ≤ n) (h2 : n ≤ 9223372036854775807) : callT AA 56 [.int .i64 n] [] = some (.str (Lib.itoa n), []) := by
  have h := call98 h1 h2
  refine enter fn56 np56 rfl ?_
  (simp (maxSteps := 2000000) (disch := omega) only [b56, h, go_sem]) <;> repeat' (first | ((first | refine gd_dec ?_ ?_ | refine gd_ndec ?_ ?_ | refine cd_dec ?_ ?_ | refine cd_ndec ?_ ?_ | refine gdd_dec ?_ ?_ | refine gdd_ndec ?_ ?_ | refine gd_of ?_ ?_ | refine cd_of ?_ ?_ | refine gdd_of ?_ ?_) <;> intro hg <;> first | (exfalso; omega) | (simp (maxSteps := 2000000) (disch := omega) only [hg, b56, h, go_sem])) | (refine And.intro ?_ ?_; focus omega) | omega)
/-! ## how many digits -/
theorem itoa_length {n : Int} (h : 0 ≤ n) : (Lib.itoa n).length = Lib.nDigits n.toNat := by
  unfold Lib.itoa
  rw [if_neg (by omega), Lib.decDigits_length]
theorem nDigits_mono : ∀ {u v : Nat}, u ≤ v → Lib.nDigits u ≤ Lib.nDigits v := by
  intro u
  induction u using Nat.strongRecOn with
  | _ u ih =>
    intro v h
    by_cases hu : u < 10
    · rw [Lib.nDigits_small hu]
      exact Lib.nDigits_pos v
    · rw [Lib.nDigits_big hu, Lib.nDigits_big (by omega : ¬ v < 10)]
      have := ih (u / 10) (by omega) (v := v / 10) (by omega)
      omega
theorem nDigits_le7 {u : Nat} (h : u < 10000000) : Lib.nDigits u ≤ 7 := by
  have h1 := nDigits_mono (u := u) (v := 9999999) (by omega)
  have h2 : Lib.nDigits 9999999 = 7 := Lib.nDigits_unique 6 9999999 (by decide) (by decide)
  omega
def digs (n : Int) : Int := ((Lib.itoa n).length : Int)
theorem digs_pos {n : Int} (h : 0 ≤ n) : 1 ≤ digs n := by
  have := Lib.nDigits_pos n.toNat
  rw [digs, itoa_length h]
  omega
theorem digs_mono {a b : Int} (h : 0 ≤ a) (h' : a ≤ b) : digs a ≤ digs b := by
  have := nDigits_mono (u := a.toNat) (v := b.toNat) (by omega)
  rw [digs, digs, itoa_length h, itoa_length (by omega)]
  omega
theorem digs_le7 {a : Int} (h : 0 ≤ a) (h' : a < 10000000) : digs a ≤ 7 := by
  have := nDigits_le7 (u := a.toNat) (by omega)
  rw [digs, itoa_length h]
  omega
def lenF (rest : Int) : Nat → Int → Int
  | 0, n => n
  | k + 1, n => if n = rest + digs n then n else lenF rest k (rest + digs n)
def paxLen (rest : Int) : Int := lenF rest 6 (rest + 1)
theorem h158 (rest : Int) (hr : 0 ≤ rest) (hr' : rest ≤ 1000000) (r0 : Int) : ∀ (k : Nat) (n d : Int), n = rest + d → 7 ≤ d + k → 1 ≤ d → d ≤ 7 → d ≤ digs n → r0 = lenF rest k n →
    HD AA 0 [0, 2, 3] l158_0 ⟨[.int .i64 rest, .junk, .int .i64 0, .int .i64 n, .junk, .junk, .junk, .junk, .junk, .junk, .junk, .junk, .junk, .junk, .junk, .junk, .junk, .junk, .junk], [], 0⟩ [.blk 0, .code r158_0] (Fin [(2, none)] 0 (.int .i64 r0) [])
  | 0, n, d, h1, h2, h3, h3', h4, h5 => by
    have h6 := digs_le7 (a := n) (by omega) (by omega)
    have hs := s56 n (by omega) (by omega)
    have h7 : ((Lib.itoa n).length : Int) = digs n := rfl
    refine hd_of (by unfold l158_0; rfl) ?_
    (simp (maxSteps := 2000000) (disch := omega) only [hs, h7, r158_0, go_sem]) <;> repeat' (first | ((first | refine gd_dec ?_ ?_ | refine gd_ndec ?_ ?_ | refine cd_dec ?_ ?_ | refine cd_ndec ?_ ?_ | refine gdd_dec ?_ ?_ | refine gdd_ndec ?_ ?_ | refine gd_of ?_ ?_ | refine cd_of ?_ ?_ | refine gdd_of ?_ ?_) <;> intro hg <;> first | (exfalso; omega) | (simp (maxSteps := 2000000) (disch := omega) only [hg, hs, h7, r158_0, go_sem])) | (refine And.intro ?_ ?_; focus omega) | omega)
    simp [h5, lenF]
  | k + 1, n, d, h1, h2, h3, h3', h4, h5 => by
    have h6 := digs_le7 (a := n) (by omega) (by omega)
    have hs := s56 n (by omega) (by omega)
    have h7 : ((Lib.itoa n).length : Int) = digs n := rfl
    refine hd_of (by unfold l158_0; rfl) ?_
    unfold lenF at h5
    by_cases hn : n = rest + digs n
    · rw [if_pos hn] at h5
      (simp (maxSteps := 2000000) (disch := omega) only [hs, h7, r158_0, go_sem]) <;> repeat' (first | ((first | refine gd_dec ?_ ?_ | refine gd_ndec ?_ ?_ | refine cd_dec ?_ ?_ | refine cd_ndec ?_ ?_ | refine gdd_dec ?_ ?_ | refine gdd_ndec ?_ ?_ | refine gd_of ?_ ?_ | refine cd_of ?_ ?_ | refine gdd_of ?_ ?_) <;> intro hg <;> first | (exfalso; omega) | (simp (maxSteps := 2000000) (disch := omega) only [hg, hs, h7, r158_0, go_sem])) | (refine And.intro ?_ ?_; focus omega) | omega)
      simp [h5]
    · rw [if_neg hn] at h5
      have hd : d < digs n := by omega
      have hm := digs_mono (a := n) (b := rest + digs n) (by omega) (by omega)
      have ih := h158 rest hr hr' r0 k (rest + digs n) (digs n) rfl (by omega) (by omega) h6 hm h5
      (simp (maxSteps := 2000000) (disch := omega) only [hs, h7, lp_head, go_sem]) <;> repeat' (first | ((first | refine gd_dec ?_ ?_ | refine gd_ndec ?_ ?_ | refine cd_dec ?_ ?_ | refine cd_ndec ?_ ?_ | refine gdd_dec ?_ ?_ | refine gdd_ndec ?_ ?_ | refine gd_of ?_ ?_ | refine cd_of ?_ ?_ | refine gdd_of ?_ ?_) <;> intro hg <;> first | (exfalso; omega) | (simp (maxSteps := 2000000) (disch := omega) only [hg, hs, h7, lp_head, go_sem])) | (refine And.intro ?_ ?_; focus omega) | omega)
theorem s158 (rest : Int) (hr : 0 ≤ rest) (hr' : rest ≤ 1000000) : callT AA 158 [.int .i64 rest] [] = some (.int .i64 (paxLen rest), []) := by
  have h1 := digs_pos (n := rest + 1) (by omega)
  refine enter fn158 np158 rfl ?_
  (simp (maxSteps := 2000000) (disch := omega) only [b158, lp_head, go_sem]) <;> repeat' (first | ((first | refine gd_dec ?_ ?_ | refine gd_ndec ?_ ?_ | refine cd_dec ?_ ?_ | refine cd_ndec ?_ ?_ | refine gdd_dec ?_ ?_ | refine gdd_ndec ?_ ?_ | refine gd_of ?_ ?_ | refine cd_of ?_ ?_ | refine gdd_of ?_ ?_) <;> intro hg <;> first | (exfalso; omega) | (simp (maxSteps := 2000000) (disch := omega) only [hg, b158, lp_head, go_sem])) | (refine And.intro ?_ ?_; focus omega) | omega)
  exact h158 rest hr hr' _ 6 (rest + 1) 1 rfl (by omega) (by omega) (by omega) h1 rfl
theorem lenF_le (rest : Int) (hr : 0 ≤ rest) (hr' : rest ≤ 1000000) : ∀ (k : Nat) (n d : Int), n = rest + d → 1 ≤ d → d ≤ 7 → rest < lenF rest k n ∧ lenF rest k n ≤ rest + 7
  | 0, n, d, h1, h2, h3 => by
    unfold lenF
    omega
  | k + 1, n, d, h1, h2, h3 => by
    have h4 := digs_pos (n := n) (by omega)
    have h5 := digs_le7 (a := n) (by omega) (by omega)
    have ih := lenF_le rest hr hr' k (rest + digs n) (digs n) rfl h4 h5
    unfold lenF
    split
    · omega
    · exact ih
theorem paxLen_le {rest : Int} (hr : 0 ≤ rest) (hr' : rest ≤ 1000000) : rest < paxLen rest ∧ paxLen rest ≤ rest + 7 := lenF_le rest hr hr' 6 _ 1 rfl (by omega) (by omega)
/-! ## keywords -/
def kwByte (b : UInt8) : Bool := decide (33 ≤ (b.toNat : Int)) && decide ((b.toNat : Int) ≤ 126) && decide ((b.toNat : Int) ≠ 61)
def kwB (s : List UInt8) : Bool := decide (s ≠ []) && decide (s.length ≤ 100) && s.all kwByte
theorem h157 (s : List UInt8) (hs : s.length ≤ 1000000) (r0 : Bool) : ∀ (rest done : List UInt8) (n i : Int), s = done ++ rest → i = done.length → n = s.length → r0 = rest.all kwByte →
    HD AA 0 [0, 2, 12, 13] l157_0 ⟨[.str s, .junk, .bool false, .junk, .junk, .junk, .junk, .junk, .junk, .junk, .junk, .junk, .int .i64 n, .int .i64 i, .junk, .junk, .junk, .junk, .junk, .junk, .junk, .junk, .junk, .junk, .junk, .junk, .junk, .junk, .junk, .junk, .junk, .junk, .junk], [], 0⟩ [.blk 0, .code r157_0] (Fin [(2, none)] 0 (.bool r0) [])
  | [], done, n, i, h1, h2, h3, h4 => by
    subst h1
    simp at h3
    refine hd_of (by unfold l157_0; rfl) ?_
    (simp (maxSteps := 2000000) (disch := omega) only [r157_0, go_sem]) <;> repeat' (first | ((first | refine gd_dec ?_ ?_ | refine gd_ndec ?_ ?_ | refine cd_dec ?_ ?_ | refine cd_ndec ?_ ?_ | refine gdd_dec ?_ ?_ | refine gdd_ndec ?_ ?_ | refine gd_of ?_ ?_ | refine cd_of ?_ ?_ | refine gdd_of ?_ ?_) <;> intro hg <;> first | (exfalso; omega) | (simp (maxSteps := 2000000) (disch := omega) only [hg, r157_0, go_sem])) | (refine And.intro ?_ ?_; focus omega) | omega)
    simp [h4]
  | x :: r, done, n, i, h1, h2, h3, h4 => by
    have hg0 : s[i.toNat]? = some x := by
      rw [h1]
      simp [h2]
    have hl : i.toNat < s.length := by rw [h1]; simp; omega
    have hx := x.toNat_lt
    refine hd_of (by unfold l157_0; rfl) ?_
    rw [List.all_cons] at h4
    cases hk : kwByte x with
    | true =>
      rw [hk, Bool.true_and] at h4
      simp only [kwByte, Bool.and_eq_true, decide_eq_true_eq] at hk
      have ih := h157 s hs r0 r (done ++ [x]) n (i + 1) (by simp [h1]) (by first | omega | (simp; omega) | (simp; done)) h3 h4
      (simp (maxSteps := 2000000) (disch := omega) only [hg0, lp_head, go_sem]) <;> repeat' (first | ((first | refine gd_dec ?_ ?_ | refine gd_ndec ?_ ?_ | refine cd_dec ?_ ?_ | refine cd_ndec ?_ ?_ | refine gdd_dec ?_ ?_ | refine gdd_ndec ?_ ?_ | refine gd_of ?_ ?_ | refine cd_of ?_ ?_ | refine gdd_of ?_ ?_) <;> intro hg <;> first | (exfalso; omega) | (simp (maxSteps := 2000000) (disch := omega) only [hg, hg0, lp_head, go_sem])) | (refine And.intro ?_ ?_; focus omega) | omega)
    | false =>
      rw [hk, Bool.false_and] at h4
      simp only [kwByte, Bool.and_eq_false_iff, decide_eq_false_iff_not] at hk
      (simp (maxSteps := 2000000) (disch := omega) only [hg0, lp_head, go_sem]) <;> repeat' (first | ((first | refine gd_dec ?_ ?_ | refine gd_ndec ?_ ?_ | refine cd_dec ?_ ?_ | refine cd_ndec ?_ ?_ | refine gdd_dec ?_ ?_ | refine gdd_ndec ?_ ?_ | refine gd_of ?_ ?_ | refine cd_of ?_ ?_ | refine gdd_of ?_ ?_) <;> intro hg <;> first | (exfalso; omega) | (simp (maxSteps := 2000000) (disch := omega) only [hg, hg0, lp_head, go_sem])) | (refine And.intro ?_ ?_; focus omega) | omega)
      all_goals simp [h4]
theorem s157 (s : List UInt8) (hs : s.length ≤ 1000000) : callT AA 157 [.str s] [] = some (.bool (kwB s), []) := by
  refine enter fn157 np157 rfl ?_
  unfold kwB
  by_cases h0 : s = []
  · subst h0
    (simp (maxSteps := 2000000) (disch := omega) only [b157, go_sem]) <;> repeat' (first | ((first | refine gd_dec ?_ ?_ | refine gd_ndec ?_ ?_ | refine cd_dec ?_ ?_ | refine cd_ndec ?_ ?_ | refine gdd_dec ?_ ?_ | refine gdd_ndec ?_ ?_ | refine gd_of ?_ ?_ | refine cd_of ?_ ?_ | refine gdd_of ?_ ?_) <;> intro hg <;> first | (exfalso; omega) | (simp (maxSteps := 2000000) (disch := omega) only [hg, b157, go_sem])) | (refine And.intro ?_ ?_; focus omega) | omega)
    simp
  · by_cases h1 : s.length ≤ 100
    · (simp (maxSteps := 2000000) (disch := omega) only [b157, h0, lp_head, go_sem]) <;> repeat' (first | ((first | refine gd_dec ?_ ?_ | refine gd_ndec ?_ ?_ | refine cd_dec ?_ ?_ | refine cd_ndec ?_ ?_ | refine gdd_dec ?_ ?_ | refine gdd_ndec ?_ ?_ | refine gd_of ?_ ?_ | refine cd_of ?_ ?_ | refine gdd_of ?_ ?_) <;> intro hg <;> first | (exfalso; omega) | (simp (maxSteps := 2000000) (disch := omega) only [hg, b157, h0, lp_head, go_sem])) | (refine And.intro ?_ ?_; focus omega) | omega)
      refine h157 s hs _ s [] _ _ rfl rfl rfl ?_
      simp [h0, h1]
    · (simp (maxSteps := 2000000) (disch := omega) only [b157, h0, lp_head, go_sem]) <;> repeat' (first | ((first | refine gd_dec ?_ ?_ | refine gd_ndec ?_ ?_ | refine cd_dec ?_ ?_ | refine cd_ndec ?_ ?_ | refine gdd_dec ?_ ?_ | refine gdd_ndec ?_ ?_ | refine gd_of ?_ ?_ | refine cd_of ?_ ?_ | refine gdd_of ?_ ?_) <;> intro hg <;> first | (exfalso; omega) | (simp (maxSteps := 2000000) (disch := omega) only [hg, b157, h0, lp_head, go_sem])) | (refine And.intro ?_ ?_; focus omega) | omega)
/-! ## lines -/
def restP (k v : List UInt8) : List UInt8 := 32 :: (k ++ [61] ++ v ++ [10])
def lineB (k v : List UInt8) : List UInt8 := Lib.itoa (paxLen (restP k v).length) ++ restP k v
def lineOk (k v : List UInt8) : Bool := kwB k && decide (v.length ≤ 65536) && decide (paxLen (restP k v).length ≤ 65536)
theorem restP_length {k v : List UInt8} : (restP k v).length = k.length + v.length + 3 := by
  simp [restP]
  omega
theorem restP_eq {k v : List UInt8} : 32 :: (k ++ [61] ++ v ++ [10]) = restP k v := rfl
theorem s121 (k v : List UInt8) (hk : k.length ≤ 1000000) (hv : v.length ≤ 1000000) : callT AA 121 [.str k, .str v] [] = some (if lineOk k v = true then .tuple [.str (lineB k v), .lit .nilIface] else .tuple [.str [], .iface 58 (.int .i64 15)], []) := by
  have h1 := s157 k hk
  have hl := restP_length (k := k) (v := v)
  refine enter fn121 np121 rfl ?_
  unfold lineOk
  by_cases h2 : kwB k = true
  · have h3 : k.length ≤ 100 := by
      simp only [kwB, Bool.and_eq_true, decide_eq_true_eq] at h2
      exact h2.1.2
    by_cases h4 : v.length ≤ 65536
    · have h5 := s158 ((restP k v).length : Int) (by omega) (by omega)
      have h6 := paxLen_le (rest := ((restP k v).length : Int)) (by omega) (by omega)
      have h7 := s56 (paxLen (restP k v).length) (by omega) (by omega)
      have h9 : (Lib.itoa (paxLen (restP k v).length)).length ≤ 7 := by
        have := digs_le7 (a := paxLen (restP k v).length) (by omega) (by omega)
        unfold digs at this
        omega
      rw [h2]
      by_cases h8 : paxLen (restP k v).length ≤ 65536
      · have e : (if (true && decide (v.length ≤ 65536) && decide (paxLen (restP k v).length ≤ 65536)) = true then AVal.tuple [.str (lineB k v), .lit .nilIface] else .tuple [.str [], .iface 58 (.int .i64 15)]) = .tuple [.str (lineB k v), .lit .nilIface] := if_pos (by simp [h4, h8])
        rw [e]
        simp only [lineB]
        rw [h2] at h1
        generalize hq : paxLen (restP k v).length = q at *
        generalize hR : restP k v = R at *
        (simp (maxSteps := 2000000) (disch := omega) only [b121, h1, restP_eq, hR, h5, h7, go_sem]) <;> repeat' (first | ((first | refine gd_dec ?_ ?_ | refine gd_ndec ?_ ?_ | refine cd_dec ?_ ?_ | refine cd_ndec ?_ ?_ | refine gdd_dec ?_ ?_ | refine gdd_ndec ?_ ?_ | refine gd_of ?_ ?_ | refine cd_of ?_ ?_ | refine gdd_of ?_ ?_) <;> intro hg <;> first | (exfalso; omega) | (simp (maxSteps := 2000000) (disch := omega) only [hg, b121, h1, restP_eq, hR, h5, h7, go_sem])) | (refine And.intro ?_ ?_; focus omega) | omega)
      · have e : (if (true && decide (v.length ≤ 65536) && decide (paxLen (restP k v).length ≤ 65536)) = true then AVal.tuple [.str (lineB k v), .lit .nilIface] else .tuple [.str [], .iface 58 (.int .i64 15)]) = .tuple [.str [], .iface 58 (.int .i64 15)] := if_neg (by simp [h8])
        rw [e]
        rw [h2] at h1
        generalize hq : paxLen (restP k v).length = q at *
        generalize hR : restP k v = R at *
        (simp (maxSteps := 2000000) (disch := omega) only [b121, h1, restP_eq, hR, h5, h7, go_sem]) <;> repeat' (first | ((first | refine gd_dec ?_ ?_ | refine gd_ndec ?_ ?_ | refine cd_dec ?_ ?_ | refine cd_ndec ?_ ?_ | refine gdd_dec ?_ ?_ | refine gdd_ndec ?_ ?_ | refine gd_of ?_ ?_ | refine cd_of ?_ ?_ | refine gdd_of ?_ ?_) <;> intro hg <;> first | (exfalso; omega) | (simp (maxSteps := 2000000) (disch := omega) only [hg, b121, h1, restP_eq, hR, h5, h7, go_sem])) | (refine And.intro ?_ ?_; focus omega) | omega)
    · have e : (if (kwB k && decide (v.length ≤ 65536) && decide (paxLen (restP k v).length ≤ 65536)) = true then AVal.tuple [.str (lineB k v), .lit .nilIface] else .tuple [.str [], .iface 58 (.int .i64 15)]) = .tuple [.str [], .iface 58 (.int .i64 15)] := if_neg (by simp [h4])
      rw [e]
      rw [h2] at h1
      (simp (maxSteps := 2000000) (disch := omega) only [b121, h1, go_sem]) <;> repeat' (first | ((first | refine gd_dec ?_ ?_ | refine gd_ndec ?_ ?_ | refine cd_dec ?_ ?_ | refine cd_ndec ?_ ?_ | refine gdd_dec ?_ ?_ | refine gdd_ndec ?_ ?_ | refine gd_of ?_ ?_ | refine cd_of ?_ ?_ | refine gdd_of ?_ ?_) <;> intro hg <;> first | (exfalso; omega) | (simp (maxSteps := 2000000) (disch := omega) only [hg, b121, h1, go_sem])) | (refine And.intro ?_ ?_; focus omega) | omega)
  · have h2' : kwB k = false := by simpa using h2
    have e : (if (kwB k && decide (v.length ≤ 65536) && decide (paxLen (restP k v).length ≤ 65536)) = true then AVal.tuple [.str (lineB k v), .lit .nilIface] else .tuple [.str [], .iface 58 (.int .i64 15)]) = .tuple [.str [], .iface 58 (.int .i64 15)] := if_neg (by simp [h2'])
    rw [e]
    rw [h2'] at h1
    (simp (maxSteps := 2000000) (disch := omega) only [b121, h1, go_sem]) <;> repeat' (first | ((first | refine gd_dec ?_ ?_ | refine gd_ndec ?_ ?_ | refine cd_dec ?_ ?_ | refine cd_ndec ?_ ?_ | refine gdd_dec ?_ ?_ | refine gdd_ndec ?_ ?_ | refine gd_of ?_ ?_ | refine cd_of ?_ ?_ | refine gdd_of ?_ ?_) <;> intro hg <;> first | (exfalso; omega) | (simp (maxSteps := 2000000) (disch := omega) only [hg, b121, h1, go_sem])) | (refine And.intro ?_ ?_; focus omega) | omega)
theorem lineB_length {k v : List UInt8} (hk : k.length ≤ 100) (hv : v.length ≤ 65536) : (lineB k v).length ≤ k.length + v.length + 10 := by
  have hl := restP_length (k := k) (v := v)
  have h6 := paxLen_le (rest := ((restP k v).length : Int)) (by omega) (by omega)
  have := digs_le7 (a := paxLen (restP k v).length) (by omega) (by omega)
  unfold digs at this
  unfold lineB
  rw [List.length_append]
  omega
end Go.Abs
/- RECORDS of an entry. -/
namespace Go.Abs
open Am
set_option maxRecDepth 10000
set_option linter.unusedSimpArgs false
structure Rcd where
  key : List UInt8
  value : List UInt8
def Rcd.av (r : Rcd) : AVal := .agg [.str r.key, .str r.value]
attribute [go_sem] Rcd.av
theorem rowRcd {t : List Rcd} : RowOf 2 (t.map Rcd.av) := RowOf.map fun _ => rfl
theorem s55a (k v : List UInt8) : callT AA 55 [.bool true, .str k, .str v, .ptr 0 0] [(0, .var [.lit (.slice none 0 0)])] = some (.tuple [], [(0, .var [.lit (.slice none 0 0)])]) := by
  refine enter fn55 np55 rfl ?_
  (simp (maxSteps := 2000000) (disch := omega) only [b55, go_sem]) <;> repeat' (first | ((first | refine gd_dec ?_ ?_ | refine gd_ndec ?_ ?_ | refine cd_dec ?_ ?_ | refine cd_ndec ?_ ?_ | refine gdd_dec ?_ ?_ | refine gdd_ndec ?_ ?_ | refine gd_of ?_ ?_ | refine cd_of ?_ ?_ | refine gdd_of ?_ ?_) <;> intro hg <;> first | (exfalso; omega) | (simp (maxSteps := 2000000) (disch := omega) only [hg, b55, go_sem])) | (refine And.intro ?_ ?_; focus omega) | omega)
theorem s55b (k v : List UInt8) : callT AA 55 [.bool false, .str k, .str v, .ptr 0 0] [(0, .var [.lit (.slice none 0 0)])] = some (.tuple [], [(0, .var [.own 1 2 0 1 false]), (1, .row [.agg [.str k, .str v]] 2)]) := by
  refine enter fn55 np55 rfl ?_
  (simp (maxSteps := 2000000) (disch := omega) only [b55, go_sem]) <;> repeat' (first | ((first | refine gd_dec ?_ ?_ | refine gd_ndec ?_ ?_ | refine cd_dec ?_ ?_ | refine cd_ndec ?_ ?_ | refine gdd_dec ?_ ?_ | refine gdd_ndec ?_ ?_ | refine gd_of ?_ ?_ | refine cd_of ?_ ?_ | refine gdd_of ?_ ?_) <;> intro hg <;> first | (exfalso; omega) | (simp (maxSteps := 2000000) (disch := omega) only [hg, b55, go_sem])) | (refine And.intro ?_ ?_; focus omega) | omega)
theorem s55c (k v : List UInt8) (n : Nat) (rs : List AVal) : callT AA 55 [.bool true, .str k, .str v, .ptr 0 0] [(0, .var [.own 1 2 0 n false]), (1, .row rs 2)] = some (.tuple [], [(0, .var [.own 1 2 0 n false]), (1, .row rs 2)]) := by
  refine enter fn55 np55 rfl ?_
  (simp (maxSteps := 2000000) (disch := omega) only [b55, go_sem]) <;> repeat' (first | ((first | refine gd_dec ?_ ?_ | refine gd_ndec ?_ ?_ | refine cd_dec ?_ ?_ | refine cd_ndec ?_ ?_ | refine gdd_dec ?_ ?_ | refine gdd_ndec ?_ ?_ | refine gd_of ?_ ?_ | refine cd_of ?_ ?_ | refine gdd_of ?_ ?_) <;> intro hg <;> first | (exfalso; omega) | (simp (maxSteps := 2000000) (disch := omega) only [hg, b55, go_sem])) | (refine And.intro ?_ ?_; focus omega) | omega)
theorem s55d (k v : List UInt8) (n : Nat) (rs : List AVal) (hn : n = rs.length) (hl : n ≤ 10000) : callT AA 55 [.bool false, .str k, .str v, .ptr 0 0] [(0, .var [.own 1 2 0 n false]), (1, .row rs 2)] = some (.tuple [], [(0, .var [.own 2 2 0 (n + 1) false]), (2, .row (rs ++ [.agg [.str k, .str v]]) 2)]) := by
  have h : rs.take n = rs := List.take_of_length_le (by omega)
  refine enter fn55 np55 rfl ?_
  (simp (maxSteps := 2000000) (disch := omega) only [b55, h, go_sem]) <;> repeat' (first | ((first | refine gd_dec ?_ ?_ | refine gd_ndec ?_ ?_ | refine cd_dec ?_ ?_ | refine cd_ndec ?_ ?_ | refine gdd_dec ?_ ?_ | refine gdd_ndec ?_ ?_ | refine gd_of ?_ ?_ | refine cd_of ?_ ?_ | refine gdd_of ?_ ?_) <;> intro hg <;> first | (exfalso; omega) | (simp (maxSteps := 2000000) (disch := omega) only [hg, b55, h, go_sem])) | (refine And.intro ?_ ?_; focus omega) | omega)
def gidB : List UInt8 := [103, 105, 100]
def linkpathB : List UInt8 := [108, 105, 110, 107, 112, 97, 116, 104]
def mtimeB : List UInt8 := [109, 116, 105, 109, 101]
def pathB : List UInt8 := [112, 97, 116, 104]
def uidB : List UInt8 := [117, 105, 100]
theorem gidB_eq : AVal.str [103, 105, 100] = .str gidB := rfl
theorem linkpathB_eq : AVal.str [108, 105, 110, 107, 112, 97, 116, 104] = .str linkpathB := rfl
theorem mtimeB_eq : AVal.str [109, 116, 105, 109, 101] = .str mtimeB := rfl
theorem pathB_eq : AVal.str [112, 97, 116, 104] = .str pathB := rfl
theorem uidB_eq : AVal.str [117, 105, 100] = .str uidB := rfl
def recIf (f : Bool) (k v : List UInt8) : List Rcd := if f then [] else [⟨k, v⟩]
def linkE (l : List UInt8) : Bool := decide (l = []) || linkB l
/-- bounds of an entry's numbers and texts -/
def EntB (e : Ent) : Prop := -9223372036854775808 ≤ e.gid ∧ e.gid ≤ 9223372036854775807 ∧ -9223372036854775808 ≤ e.uid ∧ e.uid ≤ 9223372036854775807 ∧ -9223372036854775808 ≤ e.time ∧ e.time ≤ 9223372036854775807 ∧ e.link.length ≤ 1000000 ∧ e.path.length ≤ 1000000
def recV (l : List Rcd) : AVal := if l = [] then .lit (.slice none 0 0) else .own 0 2 0 l.length false
def recH (l : List Rcd) : Heap := if l = [] then [] else [(0, .row (l.map Rcd.av) 2)]
def FinR (l : List Rcd) : FinP := Fin [(2, none)] 0 (recV l) (recH l)
theorem FinR_ne {l : List Rcd} (h : l ≠ []) : FinR l = Fin [(2, none)] 0 (.own 0 2 0 l.length false) [(0, .row (l.map Rcd.av) 2)] := by
  simp [FinR, recV, recH, h]
def p21_9 : ACode := .ret
def p21_8 : ACode := .seq (.reg false [] [⟨(some 49), (.ld 1 false (.t 3)), none⟩, ⟨(some 2), (.mov (.t 49)), none⟩]) p21_9
def p21_7 : ACode := .seq (.reg true [(0, 2), (0, 3), (2, 4), (3, 4), (0, 5), (1, 5), (2, 5), (3, 5), (0, 6)] [⟨(some 41), (.mov (.t 4)), none⟩, ⟨(some 42), (.fa 3 (.t 1)), none⟩, ⟨(some 43), (.ld 1 false (.t 42)), none⟩, ⟨(some 44), (.call (.c (.func (.func 46) [])) [(.t 43)]), none⟩, ⟨(some 45), (.fa 3 (.t 1)), none⟩, ⟨(some 46), (.ld 1 false (.t 45)), none⟩, ⟨(some 47), (.call (.c (.func (.func 56) [])) [(.t 46)]), none⟩, ⟨(some 48), (.call (.t 41) [(.t 44), (.c (.str [117, 105, 100])), (.t 47)]), none⟩]) p21_8
def p21_6 : ACode := .seq (.reg true [(0, 2), (0, 3), (2, 4), (3, 4), (0, 5), (1, 5), (2, 5), (3, 5)] [⟨(some 34), (.mov (.t 4)), none⟩, ⟨(some 35), (.fa 0 (.t 1)), none⟩, ⟨(some 36), (.ld 1 false (.t 35)), none⟩, ⟨(some 37), (.call (.c (.func (.func 44) [])) [(.t 36)]), none⟩, ⟨(some 38), (.fa 0 (.t 1)), none⟩, ⟨(some 39), (.ld 1 false (.t 38)), none⟩, ⟨(some 40), (.call (.t 34) [(.t 37), (.c (.str [112, 97, 116, 104])), (.t 39)]), none⟩]) p21_7
def p21_5 : ACode := .seq (.reg true [(0, 2), (0, 3), (2, 4), (3, 4), (0, 5), (1, 5), (2, 5), (3, 5), (0, 6)] [⟨(some 26), (.mov (.t 4)), none⟩, ⟨(some 27), (.fa 5 (.t 1)), none⟩, ⟨(some 28), (.ld 1 false (.t 27)), none⟩, ⟨(some 29), (.call (.c (.func (.func 48) [])) [(.t 28)]), none⟩, ⟨(some 30), (.fa 5 (.t 1)), none⟩, ⟨(some 31), (.ld 1 false (.t 30)), none⟩, ⟨(some 32), (.call (.c (.func (.func 56) [])) [(.t 31)]), none⟩, ⟨(some 33), (.call (.t 26) [(.t 29), (.c (.str [109, 116, 105, 109, 101])), (.t 32)]), none⟩]) p21_6
def p21_4 : ACode := .seq (.reg true [(0, 2), (0, 6), (0, 7), (2, 9), (6, 9), (7, 9), (0, 10), (1, 10), (2, 10), (3, 10), (4, 10), (5, 10), (6, 10), (7, 10), (8, 10)] [⟨(some 14), (.mov (.t 4)), none⟩, ⟨(some 15), (.fa 6 (.t 1)), none⟩, ⟨(some 16), (.ld 1 false (.t 15)), none⟩, ⟨(some 17), (.bin .eql .other true (.t 16) (.c (.str []))), none⟩, ⟨(some 18), (.mov (.t 17)), none⟩, ⟨(some 19), (.fa 6 (.t 1)), (some (18, false))⟩, ⟨(some 20), (.ld 1 false (.t 19)), (some (18, false))⟩, ⟨(some 21), (.call (.c (.func (.func 45) [])) [(.t 20)]), (some (18, false))⟩, ⟨(some 22), (.pick (.t 18) (.c (.bool true)) (.t 21)), none⟩, ⟨(some 23), (.fa 6 (.t 1)), none⟩, ⟨(some 24), (.ld 1 false (.t 23)), none⟩, ⟨(some 25), (.call (.t 14) [(.t 22), (.c (.str [108, 105, 110, 107, 112, 97, 116, 104])), (.t 24)]), none⟩]) p21_5
def p21_3 : ACode := .seq (.reg true [(0, 2), (0, 3), (2, 4), (3, 4), (0, 5), (1, 5), (2, 5), (3, 5), (0, 6)] [⟨(some 6), (.mov (.t 4)), none⟩, ⟨(some 7), (.fa 4 (.t 1)), none⟩, ⟨(some 8), (.ld 1 false (.t 7)), none⟩, ⟨(some 9), (.call (.c (.func (.func 46) [])) [(.t 8)]), none⟩, ⟨(some 10), (.fa 4 (.t 1)), none⟩, ⟨(some 11), (.ld 1 false (.t 10)), none⟩, ⟨(some 12), (.call (.c (.func (.func 56) [])) [(.t 11)]), none⟩, ⟨(some 13), (.call (.t 6) [(.t 9), (.c (.str [103, 105, 100])), (.t 12)]), none⟩]) p21_4
def p21_2 : ACode := .seq (.reg false [] [⟨(some 5), (.mkfn (.func 55) [(.t 3)]), none⟩, ⟨(some 4), (.mov (.t 5)), none⟩]) p21_3
def p21_1 : ACode := .seq (.reg false [] [⟨(some 3), (.alloc [(.lit (.slice none 0 0))]), none⟩]) p21_2
def p21_0 : ACode := .seq (.reg false [] [⟨(some 1), (.box (.t 0)), none⟩, ⟨(some 2), (.mov (.c (.lit (.slice none 0 0)))), none⟩]) p21_1
theorem b21_p : b21 = ⟨1, 50, [(2, none)], p21_0⟩ := rfl
def rst7 (e : Ent) : List Rcd := recIf (idB e.uid) uidB (Lib.itoa e.uid)
def rst6 (e : Ent) : List Rcd := recIf (splitN e.path).2.2 pathB e.path ++ rst7 e
def rst5 (e : Ent) : List Rcd := recIf (timeB e.time) mtimeB (Lib.itoa e.time) ++ rst6 e
def rst4 (e : Ent) : List Rcd := recIf (linkE e.link) linkpathB e.link ++ rst5 e
def rst3 (e : Ent) : List Rcd := recIf (idB e.gid) gidB (Lib.itoa e.gid) ++ rst4 e
def recsE (e : Ent) : List Rcd := rst3 e
theorem q21_8_own (e : Ent) (hb : EntB e) (l0 rs : List Rcd) (es : List AVal) (n r : Nat) (hr : 64 < r) (hn : n = rs.length) (he : es = rs.map Rcd.av) (hl : rs.length ≤ 8) (hne : rs ≠ []) (h : l0 = rs ++ []) :
    ∀ x5 x6 x7 x8 x9 x10 x11 x12 x13 x14 x15 x16 x17 x18 x19 x20 x21 x22 x23 x24 x25 x26 x27 x28 x29 x30 x31 x32 x33 x34 x35 x36 x37 x38 x39 x40 x41 x42 x43 x44 x45 x46 x47 x48 : AVal, EX AA 0 p21_8 ⟨[e.av, .ptr 0 0, .lit (.slice none 0 0), .ptr 64 0, .func (.func 55) [.ptr 64 0], x5, x6, x7, x8, x9, x10, x11, x12, x13, x14, x15, x16, x17, x18, x19, x20, x21, x22, x23, x24, x25, x26, x27, x28, x29, x30, x31, x32, x33, x34, x35, x36, x37, x38, x39, x40, x41, x42, x43, x44, x45, x46, x47, x48, .lit Go.undef], [(0, .var e.av.cells), (64, .var [.own r 2 0 n false]), (r, .row es 2)], 1536⟩ [] (FinR l0) := by
  intro x5 x6 x7 x8 x9 x10 x11 x12 x13 x14 x15 x16 x17 x18 x19 x20 x21 x22 x23 x24 x25 x26 x27 x28 x29 x30 x31 x32 x33 x34 x35 x36 x37 x38 x39 x40 x41 x42 x43 x44 x45 x46 x47 x48
  have a0 : (0 = r) = False := by simp; omega
  have b0 : (0 == r) = false := by simp; omega
  have a1 : (r = 0) = False := by simp; omega
  have b1 : (r == 0) = false := by simp; omega
  have a2 : (64 = r) = False := by simp; omega
  have b2 : (64 == r) = false := by simp; omega
  have a3 : (r = 64) = False := by simp; omega
  have b3 : (r == 64) = false := by simp; omega
  have h0 : FinR l0 = Fin [(2, none)] 0 (.own 0 2 0 n false) [(0, .row es 2)] := by
    have hl0 : l0 = rs := by rw [h, List.append_nil]
    rw [FinR_ne (by rw [hl0]; exact hne), hl0, hn, he]
  have h1 : n = es.length := by rw [he, hn, List.length_map]
  rw [h0]
  (simp (maxSteps := 2000000) (disch := omega) only [p21_8, p21_9, a0, a1, a2, a3, b0, b1, b2, b3, beq_self_eq_true, go_sem]) <;> repeat' (first | ((first | refine gd_dec ?_ ?_ | refine gd_ndec ?_ ?_ | refine cd_dec ?_ ?_ | refine cd_ndec ?_ ?_ | refine gdd_dec ?_ ?_ | refine gdd_ndec ?_ ?_ | refine gd_of ?_ ?_ | refine cd_of ?_ ?_ | refine gdd_of ?_ ?_) <;> intro hg <;> first | (exfalso; omega) | (simp (maxSteps := 2000000) (disch := omega) only [hg, p21_8, p21_9, a0, a1, a2, a3, b0, b1, b2, b3, beq_self_eq_true, go_sem])) | (refine And.intro ?_ ?_; focus omega) | omega)
theorem q21_8_nil (e : Ent) (hb : EntB e) (l0 : List Rcd) (h : l0 = []) :
    ∀ x5 x6 x7 x8 x9 x10 x11 x12 x13 x14 x15 x16 x17 x18 x19 x20 x21 x22 x23 x24 x25 x26 x27 x28 x29 x30 x31 x32 x33 x34 x35 x36 x37 x38 x39 x40 x41 x42 x43 x44 x45 x46 x47 x48 : AVal, EX AA 0 p21_8 ⟨[e.av, .ptr 0 0, .lit (.slice none 0 0), .ptr 64 0, .func (.func 55) [.ptr 64 0], x5, x6, x7, x8, x9, x10, x11, x12, x13, x14, x15, x16, x17, x18, x19, x20, x21, x22, x23, x24, x25, x26, x27, x28, x29, x30, x31, x32, x33, x34, x35, x36, x37, x38, x39, x40, x41, x42, x43, x44, x45, x46, x47, x48, .lit Go.undef], [(0, .var e.av.cells), (64, .var [.lit (.slice none 0 0)])], 1536⟩ [] (FinR l0) := by
  intro x5 x6 x7 x8 x9 x10 x11 x12 x13 x14 x15 x16 x17 x18 x19 x20 x21 x22 x23 x24 x25 x26 x27 x28 x29 x30 x31 x32 x33 x34 x35 x36 x37 x38 x39 x40 x41 x42 x43 x44 x45 x46 x47 x48
  have h0 : FinR l0 = Fin [(2, none)] 0 (.lit (.slice none 0 0)) [] := by rw [h]; rfl
  rw [h0]
  (simp (maxSteps := 2000000) (disch := omega) only [p21_8, p21_9, go_sem]) <;> repeat' (first | ((first | refine gd_dec ?_ ?_ | refine gd_ndec ?_ ?_ | refine cd_dec ?_ ?_ | refine cd_ndec ?_ ?_ | refine gdd_dec ?_ ?_ | refine gdd_ndec ?_ ?_ | refine gd_of ?_ ?_ | refine cd_of ?_ ?_ | refine gdd_of ?_ ?_) <;> intro hg <;> first | (exfalso; omega) | (simp (maxSteps := 2000000) (disch := omega) only [hg, p21_8, p21_9, go_sem])) | (refine And.intro ?_ ?_; focus omega) | omega)
theorem q21_7_own (e : Ent) (hb : EntB e) (l0 rs : List Rcd) (es : List AVal) (n r : Nat) (hr : 64 < r) (hn : n = rs.length) (he : es = rs.map Rcd.av) (hl : rs.length ≤ 7) (hne : rs ≠ []) (h : l0 = rs ++ rst7 e) :
    ∀ x5 x6 x7 x8 x9 x10 x11 x12 x13 x14 x15 x16 x17 x18 x19 x20 x21 x22 x23 x24 x25 x26 x27 x28 x29 x30 x31 x32 x33 x34 x35 x36 x37 x38 x39 x40 : AVal, EX AA 0 p21_7 ⟨[e.av, .ptr 0 0, .lit (.slice none 0 0), .ptr 64 0, .func (.func 55) [.ptr 64 0], x5, x6, x7, x8, x9, x10, x11, x12, x13, x14, x15, x16, x17, x18, x19, x20, x21, x22, x23, x24, x25, x26, x27, x28, x29, x30, x31, x32, x33, x34, x35, x36, x37, x38, x39, x40, .lit Go.undef, .lit Go.undef, .lit Go.undef, .lit Go.undef, .lit Go.undef, .lit Go.undef, .lit Go.undef, .lit Go.undef, .lit Go.undef], [(0, .var e.av.cells), (64, .var [.own r 2 0 n false]), (r, .row es 2)], 1280⟩ [] (FinR l0) := by
  intro x5 x6 x7 x8 x9 x10 x11 x12 x13 x14 x15 x16 x17 x18 x19 x20 x21 x22 x23 x24 x25 x26 x27 x28 x29 x30 x31 x32 x33 x34 x35 x36 x37 x38 x39 x40
  have a0 : (0 = r) = False := by simp; omega
  have b0 : (0 == r) = false := by simp; omega
  have a1 : (r = 0) = False := by simp; omega
  have b1 : (r == 0) = false := by simp; omega
  have a2 : (64 = r) = False := by simp; omega
  have b2 : (64 == r) = false := by simp; omega
  have a3 : (r = 64) = False := by simp; omega
  have b3 : (r == 64) = false := by simp; omega
  have c := i46 e.uid
  have d := s56 e.uid hb.2.2.1 hb.2.2.2.1
  have w := s55d uidB (Lib.itoa e.uid) n es (by rw [he, hn, List.length_map]) (by omega)
  unfold rst7 at h
  cases hf : (idB e.uid) with
  | true =>
    rw [hf] at c h
    have ih := q21_8_own e hb l0 rs es n r hr hn he (by omega) hne (by rw [h]; simp [recIf])
    (simp (maxSteps := 2000000) (disch := omega) only [p21_7, c, d, a0, a1, a2, a3, b0, b1, b2, b3, beq_self_eq_true, s55c, uidB_eq, go_sem]) <;> repeat' (first | ((first | refine gd_dec ?_ ?_ | refine gd_ndec ?_ ?_ | refine cd_dec ?_ ?_ | refine cd_ndec ?_ ?_ | refine gdd_dec ?_ ?_ | refine gdd_ndec ?_ ?_ | refine gd_of ?_ ?_ | refine cd_of ?_ ?_ | refine gdd_of ?_ ?_) <;> intro hg <;> first | (exfalso; omega) | (simp (maxSteps := 2000000) (disch := omega) only [hg, p21_7, c, d, a0, a1, a2, a3, b0, b1, b2, b3, beq_self_eq_true, s55c, uidB_eq, go_sem])) | (refine And.intro ?_ ?_; focus omega) | omega)
    apply ih
  | false =>
    rw [hf] at c h
    have ih := fun r hr => q21_8_own e hb l0 (rs ++ [⟨uidB, (Lib.itoa e.uid)⟩]) (es ++ [.agg [.str uidB, .str (Lib.itoa e.uid)]]) (n + 1) r hr (by simp [hn]) (by simp [he, Rcd.av]) (by simp; omega) (by simp) (by rw [h]; simp [recIf])
    (simp (maxSteps := 2000000) (disch := omega) only [p21_7, c, d, a0, a1, a2, a3, b0, b1, b2, b3, beq_self_eq_true, w, uidB_eq, go_sem]) <;> repeat' (first | ((first | refine gd_dec ?_ ?_ | refine gd_ndec ?_ ?_ | refine cd_dec ?_ ?_ | refine cd_ndec ?_ ?_ | refine gdd_dec ?_ ?_ | refine gdd_ndec ?_ ?_ | refine gd_of ?_ ?_ | refine cd_of ?_ ?_ | refine gdd_of ?_ ?_) <;> intro hg <;> first | (exfalso; omega) | (simp (maxSteps := 2000000) (disch := omega) only [hg, p21_7, c, d, a0, a1, a2, a3, b0, b1, b2, b3, beq_self_eq_true, w, uidB_eq, go_sem])) | (refine And.intro ?_ ?_; focus omega) | omega)
    apply ih
    omega
theorem q21_7_nil (e : Ent) (hb : EntB e) (l0 : List Rcd) (h : l0 = rst7 e) :
    ∀ x5 x6 x7 x8 x9 x10 x11 x12 x13 x14 x15 x16 x17 x18 x19 x20 x21 x22 x23 x24 x25 x26 x27 x28 x29 x30 x31 x32 x33 x34 x35 x36 x37 x38 x39 x40 : AVal, EX AA 0 p21_7 ⟨[e.av, .ptr 0 0, .lit (.slice none 0 0), .ptr 64 0, .func (.func 55) [.ptr 64 0], x5, x6, x7, x8, x9, x10, x11, x12, x13, x14, x15, x16, x17, x18, x19, x20, x21, x22, x23, x24, x25, x26, x27, x28, x29, x30, x31, x32, x33, x34, x35, x36, x37, x38, x39, x40, .lit Go.undef, .lit Go.undef, .lit Go.undef, .lit Go.undef, .lit Go.undef, .lit Go.undef, .lit Go.undef, .lit Go.undef, .lit Go.undef], [(0, .var e.av.cells), (64, .var [.lit (.slice none 0 0)])], 1280⟩ [] (FinR l0) := by
  intro x5 x6 x7 x8 x9 x10 x11 x12 x13 x14 x15 x16 x17 x18 x19 x20 x21 x22 x23 x24 x25 x26 x27 x28 x29 x30 x31 x32 x33 x34 x35 x36 x37 x38 x39 x40
  have c := i46 e.uid
  have d := s56 e.uid hb.2.2.1 hb.2.2.2.1
  have w := s55b uidB (Lib.itoa e.uid)
  unfold rst7 at h
  cases hf : (idB e.uid) with
  | true =>
    rw [hf] at c h
    have ih := q21_8_nil e hb l0 (by rw [h]; simp [recIf])
    (simp (maxSteps := 2000000) (disch := omega) only [p21_7, c, d, s55a, go_sem]) <;> repeat' (first | ((first | refine gd_dec ?_ ?_ | refine gd_ndec ?_ ?_ | refine cd_dec ?_ ?_ | refine cd_ndec ?_ ?_ | refine gdd_dec ?_ ?_ | refine gdd_ndec ?_ ?_ | refine gd_of ?_ ?_ | refine cd_of ?_ ?_ | refine gdd_of ?_ ?_) <;> intro hg <;> first | (exfalso; omega) | (simp (maxSteps := 2000000) (disch := omega) only [hg, p21_7, c, d, s55a, go_sem])) | (refine And.intro ?_ ?_; focus omega) | omega)
    apply ih
  | false =>
    rw [hf] at c h
    have ih := fun r hr => q21_8_own e hb l0 [⟨uidB, (Lib.itoa e.uid)⟩] [.agg [.str uidB, .str (Lib.itoa e.uid)]] 1 r hr rfl rfl (by simp) (by simp) (by rw [h]; simp [recIf])
    (simp (maxSteps := 2000000) (disch := omega) only [p21_7, c, d, w, uidB_eq, go_sem]) <;> repeat' (first | ((first | refine gd_dec ?_ ?_ | refine gd_ndec ?_ ?_ | refine cd_dec ?_ ?_ | refine cd_ndec ?_ ?_ | refine gdd_dec ?_ ?_ | refine gdd_ndec ?_ ?_ | refine gd_of ?_ ?_ | refine cd_of ?_ ?_ | refine gdd_of ?_ ?_) <;> intro hg <;> first | (exfalso; omega) | (simp (maxSteps := 2000000) (disch := omega) only [hg, p21_7, c, d, w, uidB_eq, go_sem])) | (refine And.intro ?_ ?_; focus omega) | omega)
    apply ih
    omega
theorem q21_6_own (e : Ent) (hb : EntB e) (l0 rs : List Rcd) (es : List AVal) (n r : Nat) (hr : 64 < r) (hn : n = rs.length) (he : es = rs.map Rcd.av) (hl : rs.length ≤ 6) (hne : rs ≠ []) (h : l0 = rs ++ rst6 e) :
    ∀ x5 x6 x7 x8 x9 x10 x11 x12 x13 x14 x15 x16 x17 x18 x19 x20 x21 x22 x23 x24 x25 x26 x27 x28 x29 x30 x31 x32 x33 : AVal, EX AA 0 p21_6 ⟨[e.av, .ptr 0 0, .lit (.slice none 0 0), .ptr 64 0, .func (.func 55) [.ptr 64 0], x5, x6, x7, x8, x9, x10, x11, x12, x13, x14, x15, x16, x17, x18, x19, x20, x21, x22, x23, x24, x25, x26, x27, x28, x29, x30, x31, x32, x33, .lit Go.undef, .lit Go.undef, .lit Go.undef, .lit Go.undef, .lit Go.undef, .lit Go.undef, .lit Go.undef, .lit Go.undef, .lit Go.undef, .lit Go.undef, .lit Go.undef, .lit Go.undef, .lit Go.undef, .lit Go.undef, .lit Go.undef, .lit Go.undef], [(0, .var e.av.cells), (64, .var [.own r 2 0 n false]), (r, .row es 2)], 1056⟩ [] (FinR l0) := by
  intro x5 x6 x7 x8 x9 x10 x11 x12 x13 x14 x15 x16 x17 x18 x19 x20 x21 x22 x23 x24 x25 x26 x27 x28 x29 x30 x31 x32 x33
  have a0 : (0 = r) = False := by simp; omega
  have b0 : (0 == r) = false := by simp; omega
  have a1 : (r = 0) = False := by simp; omega
  have b1 : (r == 0) = false := by simp; omega
  have a2 : (64 = r) = False := by simp; omega
  have b2 : (64 == r) = false := by simp; omega
  have a3 : (r = 64) = False := by simp; omega
  have b3 : (r == 64) = false := by simp; omega
  have c := s44 e.path hb.2.2.2.2.2.2.2
  have w := s55d pathB e.path n es (by rw [he, hn, List.length_map]) (by omega)
  unfold rst6 at h
  cases hf : (splitN e.path).2.2 with
  | true =>
    rw [hf] at c h
    have ih := q21_7_own e hb l0 rs es n r hr hn he (by omega) hne (by rw [h]; simp [recIf])
    (simp (maxSteps := 2000000) (disch := omega) only [p21_6, c, a0, a1, a2, a3, b0, b1, b2, b3, beq_self_eq_true, s55c, pathB_eq, go_sem]) <;> repeat' (first | ((first | refine gd_dec ?_ ?_ | refine gd_ndec ?_ ?_ | refine cd_dec ?_ ?_ | refine cd_ndec ?_ ?_ | refine gdd_dec ?_ ?_ | refine gdd_ndec ?_ ?_ | refine gd_of ?_ ?_ | refine cd_of ?_ ?_ | refine gdd_of ?_ ?_) <;> intro hg <;> first | (exfalso; omega) | (simp (maxSteps := 2000000) (disch := omega) only [hg, p21_6, c, a0, a1, a2, a3, b0, b1, b2, b3, beq_self_eq_true, s55c, pathB_eq, go_sem])) | (refine And.intro ?_ ?_; focus omega) | omega)
    apply ih
  | false =>
    rw [hf] at c h
    have ih := fun r hr => q21_7_own e hb l0 (rs ++ [⟨pathB, e.path⟩]) (es ++ [.agg [.str pathB, .str e.path]]) (n + 1) r hr (by simp [hn]) (by simp [he, Rcd.av]) (by simp; omega) (by simp) (by rw [h]; simp [recIf])
    (simp (maxSteps := 2000000) (disch := omega) only [p21_6, c, a0, a1, a2, a3, b0, b1, b2, b3, beq_self_eq_true, w, pathB_eq, go_sem]) <;> repeat' (first | ((first | refine gd_dec ?_ ?_ | refine gd_ndec ?_ ?_ | refine cd_dec ?_ ?_ | refine cd_ndec ?_ ?_ | refine gdd_dec ?_ ?_ | refine gdd_ndec ?_ ?_ | refine gd_of ?_ ?_ | refine cd_of ?_ ?_ | refine gdd_of ?_ ?_) <;> intro hg <;> first | (exfalso; omega) | (simp (maxSteps := 2000000) (disch := omega) only [hg, p21_6, c, a0, a1, a2, a3, b0, b1, b2, b3, beq_self_eq_true, w, pathB_eq, go_sem])) | (refine And.intro ?_ ?_; focus omega) | omega)
    apply ih
    omega
theorem q21_6_nil (e : Ent) (hb : EntB e) (l0 : List Rcd) (h : l0 = rst6 e) :
    ∀ x5 x6 x7 x8 x9 x10 x11 x12 x13 x14 x15 x16 x17 x18 x19 x20 x21 x22 x23 x24 x25 x26 x27 x28 x29 x30 x31 x32 x33 : AVal, EX AA 0 p21_6 ⟨[e.av, .ptr 0 0, .lit (.slice none 0 0), .ptr 64 0, .func (.func 55) [.ptr 64 0], x5, x6, x7, x8, x9, x10, x11, x12, x13, x14, x15, x16, x17, x18, x19, x20, x21, x22, x23, x24, x25, x26, x27, x28, x29, x30, x31, x32, x33, .lit Go.undef, .lit Go.undef, .lit Go.undef, .lit Go.undef, .lit Go.undef, .lit Go.undef, .lit Go.undef, .lit Go.undef, .lit Go.undef, .lit Go.undef, .lit Go.undef, .lit Go.undef, .lit Go.undef, .lit Go.undef, .lit Go.undef, .lit Go.undef], [(0, .var e.av.cells), (64, .var [.lit (.slice none 0 0)])], 1056⟩ [] (FinR l0) := by
  intro x5 x6 x7 x8 x9 x10 x11 x12 x13 x14 x15 x16 x17 x18 x19 x20 x21 x22 x23 x24 x25 x26 x27 x28 x29 x30 x31 x32 x33
  have c := s44 e.path hb.2.2.2.2.2.2.2
  have w := s55b pathB e.path
  unfold rst6 at h
  cases hf : (splitN e.path).2.2 with
  | true =>
    rw [hf] at c h
    have ih := q21_7_nil e hb l0 (by rw [h]; simp [recIf])
    (simp (maxSteps := 2000000) (disch := omega) only [p21_6, c, s55a, go_sem]) <;> repeat' (first | ((first | refine gd_dec ?_ ?_ | refine gd_ndec ?_ ?_ | refine cd_dec ?_ ?_ | refine cd_ndec ?_ ?_ | refine gdd_dec ?_ ?_ | refine gdd_ndec ?_ ?_ | refine gd_of ?_ ?_ | refine cd_of ?_ ?_ | refine gdd_of ?_ ?_) <;> intro hg <;> first | (exfalso; omega) | (simp (maxSteps := 2000000) (disch := omega) only [hg, p21_6, c, s55a, go_sem])) | (refine And.intro ?_ ?_; focus omega) | omega)
    apply ih
  | false =>
    rw [hf] at c h
    have ih := fun r hr => q21_7_own e hb l0 [⟨pathB, e.path⟩] [.agg [.str pathB, .str e.path]] 1 r hr rfl rfl (by simp) (by simp) (by rw [h]; simp [recIf])
    (simp (maxSteps := 2000000) (disch := omega) only [p21_6, c, w, pathB_eq, go_sem]) <;> repeat' (first | ((first | refine gd_dec ?_ ?_ | refine gd_ndec ?_ ?_ | refine cd_dec ?_ ?_ | refine cd_ndec ?_ ?_ | refine gdd_dec ?_ ?_ | refine gdd_ndec ?_ ?_ | refine gd_of ?_ ?_ | refine cd_of ?_ ?_ | refine gdd_of ?_ ?_) <;> intro hg <;> first | (exfalso; omega) | (simp (maxSteps := 2000000) (disch := omega) only [hg, p21_6, c, w, pathB_eq, go_sem])) | (refine And.intro ?_ ?_; focus omega) | omega)
    apply ih
    omega
theorem q21_5_own (e : Ent) (hb : EntB e) (l0 rs : List Rcd) (es : List AVal) (n r : Nat) (hr : 64 < r) (hn : n = rs.length) (he : es = rs.map Rcd.av) (hl : rs.length ≤ 5) (hne : rs ≠ []) (h : l0 = rs ++ rst5 e) :
    ∀ x5 x6 x7 x8 x9 x10 x11 x12 x13 x14 x15 x16 x17 x18 x19 x20 x21 x22 x23 x24 x25 : AVal, EX AA 0 p21_5 ⟨[e.av, .ptr 0 0, .lit (.slice none 0 0), .ptr 64 0, .func (.func 55) [.ptr 64 0], x5, x6, x7, x8, x9, x10, x11, x12, x13, x14, x15, x16, x17, x18, x19, x20, x21, x22, x23, x24, x25, .lit Go.undef, .lit Go.undef, .lit Go.undef, .lit Go.undef, .lit Go.undef, .lit Go.undef, .lit Go.undef, .lit Go.undef, .lit Go.undef, .lit Go.undef, .lit Go.undef, .lit Go.undef, .lit Go.undef, .lit Go.undef, .lit Go.undef, .lit Go.undef, .lit Go.undef, .lit Go.undef, .lit Go.undef, .lit Go.undef, .lit Go.undef, .lit Go.undef, .lit Go.undef, .lit Go.undef], [(0, .var e.av.cells), (64, .var [.own r 2 0 n false]), (r, .row es 2)], 800⟩ [] (FinR l0) := by
  intro x5 x6 x7 x8 x9 x10 x11 x12 x13 x14 x15 x16 x17 x18 x19 x20 x21 x22 x23 x24 x25
  have a0 : (0 = r) = False := by simp; omega
  have b0 : (0 == r) = false := by simp; omega
  have a1 : (r = 0) = False := by simp; omega
  have b1 : (r == 0) = false := by simp; omega
  have a2 : (64 = r) = False := by simp; omega
  have b2 : (64 == r) = false := by simp; omega
  have a3 : (r = 64) = False := by simp; omega
  have b3 : (r == 64) = false := by simp; omega
  have c := i48 e.time
  have d := s56 e.time hb.2.2.2.2.1 hb.2.2.2.2.2.1
  have w := s55d mtimeB (Lib.itoa e.time) n es (by rw [he, hn, List.length_map]) (by omega)
  unfold rst5 at h
  cases hf : (timeB e.time) with
  | true =>
    rw [hf] at c h
    have ih := q21_6_own e hb l0 rs es n r hr hn he (by omega) hne (by rw [h]; simp [recIf])
    (simp (maxSteps := 2000000) (disch := omega) only [p21_5, c, d, a0, a1, a2, a3, b0, b1, b2, b3, beq_self_eq_true, s55c, mtimeB_eq, go_sem]) <;> repeat' (first | ((first | refine gd_dec ?_ ?_ | refine gd_ndec ?_ ?_ | refine cd_dec ?_ ?_ | refine cd_ndec ?_ ?_ | refine gdd_dec ?_ ?_ | refine gdd_ndec ?_ ?_ | refine gd_of ?_ ?_ | refine cd_of ?_ ?_ | refine gdd_of ?_ ?_) <;> intro hg <;> first | (exfalso; omega) | (simp (maxSteps := 2000000) (disch := omega) only [hg, p21_5, c, d, a0, a1, a2, a3, b0, b1, b2, b3, beq_self_eq_true, s55c, mtimeB_eq, go_sem])) | (refine And.intro ?_ ?_; focus omega) | omega)
    apply ih
  | false =>
    rw [hf] at c h
    have ih := fun r hr => q21_6_own e hb l0 (rs ++ [⟨mtimeB, (Lib.itoa e.time)⟩]) (es ++ [.agg [.str mtimeB, .str (Lib.itoa e.time)]]) (n + 1) r hr (by simp [hn]) (by simp [he, Rcd.av]) (by simp; omega) (by simp) (by rw [h]; simp [recIf])
    (simp (maxSteps := 2000000) (disch := omega) only [p21_5, c, d, a0, a1, a2, a3, b0, b1, b2, b3, beq_self_eq_true, w, mtimeB_eq, go_sem]) <;> repeat' (first | ((first | refine gd_dec ?_ ?_ | refine gd_ndec ?_ ?_ | refine cd_dec ?_ ?_ | refine cd_ndec ?_ ?_ | refine gdd_dec ?_ ?_ | refine gdd_ndec ?_ ?_ | refine gd_of ?_ ?_ | refine cd_of ?_ ?_ | refine gdd_of ?_ ?_) <;> intro hg <;> first | (exfalso; omega) | (simp (maxSteps := 2000000) (disch := omega) only [hg, p21_5, c, d, a0, a1, a2, a3, b0, b1, b2, b3, beq_self_eq_true, w, mtimeB_eq, go_sem])) | (refine And.intro ?_ ?_; focus omega) | omega)
    apply ih
    omega
theorem q21_5_nil (e : Ent) (hb : EntB e) (l0 : List Rcd) (h : l0 = rst5 e) :
    ∀ x5 x6 x7 x8 x9 x10 x11 x12 x13 x14 x15 x16 x17 x18 x19 x20 x21 x22 x23 x24 x25 : AVal, EX AA 0 p21_5 ⟨[e.av, .ptr 0 0, .lit (.slice none 0 0), .ptr 64 0, .func (.func 55) [.ptr 64 0], x5, x6, x7, x8, x9, x10, x11, x12, x13, x14, x15, x16, x17, x18, x19, x20, x21, x22, x23, x24, x25, .lit Go.undef, .lit Go.undef, .lit Go.undef, .lit Go.undef, .lit Go.undef, .lit Go.undef, .lit Go.undef, .lit Go.undef, .lit Go.undef, .lit Go.undef, .lit Go.undef, .lit Go.undef, .lit Go.undef, .lit Go.undef, .lit Go.undef, .lit Go.undef, .lit Go.undef, .lit Go.undef, .lit Go.undef, .lit Go.undef, .lit Go.undef, .lit Go.undef, .lit Go.undef, .lit Go.undef], [(0, .var e.av.cells), (64, .var [.lit (.slice none 0 0)])], 800⟩ [] (FinR l0) := by
  intro x5 x6 x7 x8 x9 x10 x11 x12 x13 x14 x15 x16 x17 x18 x19 x20 x21 x22 x23 x24 x25
  have c := i48 e.time
  have d := s56 e.time hb.2.2.2.2.1 hb.2.2.2.2.2.1
  have w := s55b mtimeB (Lib.itoa e.time)
  unfold rst5 at h
  cases hf : (timeB e.time) with
  | true =>
    rw [hf] at c h
    have ih := q21_6_nil e hb l0 (by rw [h]; simp [recIf])
    (simp (maxSteps := 2000000) (disch := omega) only [p21_5, c, d, s55a, go_sem]) <;> repeat' (first | ((first | refine gd_dec ?_ ?_ | refine gd_ndec ?_ ?_ | refine cd_dec ?_ ?_ | refine cd_ndec ?_ ?_ | refine gdd_dec ?_ ?_ | refine gdd_ndec ?_ ?_ | refine gd_of ?_ ?_ | refine cd_of ?_ ?_ | refine gdd_of ?_ ?_) <;> intro hg <;> first | (exfalso; omega) | (simp (maxSteps := 2000000) (disch := omega) only [hg, p21_5, c, d, s55a, go_sem])) | (refine And.intro ?_ ?_; focus omega) | omega)
    apply ih
  | false =>
    rw [hf] at c h
    have ih := fun r hr => q21_6_own e hb l0 [⟨mtimeB, (Lib.itoa e.time)⟩] [.agg [.str mtimeB, .str (Lib.itoa e.time)]] 1 r hr rfl rfl (by simp) (by simp) (by rw [h]; simp [recIf])
    (simp (maxSteps := 2000000) (disch := omega) only [p21_5, c, d, w, mtimeB_eq, go_sem]) <;> repeat' (first | ((first | refine gd_dec ?_ ?_ | refine gd_ndec ?_ ?_ | refine cd_dec ?_ ?_ | refine cd_ndec ?_ ?_ | refine gdd_dec ?_ ?_ | refine gdd_ndec ?_ ?_ | refine gd_of ?_ ?_ | refine cd_of ?_ ?_ | refine gdd_of ?_ ?_) <;> intro hg <;> first | (exfalso; omega) | (simp (maxSteps := 2000000) (disch := omega) only [hg, p21_5, c, d, w, mtimeB_eq, go_sem])) | (refine And.intro ?_ ?_; focus omega) | omega)
    apply ih
    omega
theorem q21_4_own (e : Ent) (hb : EntB e) (l0 rs : List Rcd) (es : List AVal) (n r : Nat) (hr : 64 < r) (hn : n = rs.length) (he : es = rs.map Rcd.av) (hl : rs.length ≤ 4) (hne : rs ≠ []) (h : l0 = rs ++ rst4 e) :
    ∀ x5 x6 x7 x8 x9 x10 x11 x12 x13 : AVal, EX AA 0 p21_4 ⟨[e.av, .ptr 0 0, .lit (.slice none 0 0), .ptr 64 0, .func (.func 55) [.ptr 64 0], x5, x6, x7, x8, x9, x10, x11, x12, x13, .lit Go.undef, .lit Go.undef, .lit Go.undef, .lit Go.undef, .lit Go.undef, .lit Go.undef, .lit Go.undef, .lit Go.undef, .lit Go.undef, .lit Go.undef, .lit Go.undef, .lit Go.undef, .lit Go.undef, .lit Go.undef, .lit Go.undef, .lit Go.undef, .lit Go.undef, .lit Go.undef, .lit Go.undef, .lit Go.undef, .lit Go.undef, .lit Go.undef, .lit Go.undef, .lit Go.undef, .lit Go.undef, .lit Go.undef, .lit Go.undef, .lit Go.undef, .lit Go.undef, .lit Go.undef, .lit Go.undef, .lit Go.undef, .lit Go.undef, .lit Go.undef, .lit Go.undef, .lit Go.undef], [(0, .var e.av.cells), (64, .var [.own r 2 0 n false]), (r, .row es 2)], 416⟩ [] (FinR l0) := by
  intro x5 x6 x7 x8 x9 x10 x11 x12 x13
  have a0 : (0 = r) = False := by simp; omega
  have b0 : (0 == r) = false := by simp; omega
  have a1 : (r = 0) = False := by simp; omega
  have b1 : (r == 0) = false := by simp; omega
  have a2 : (64 = r) = False := by simp; omega
  have b2 : (64 == r) = false := by simp; omega
  have a3 : (r = 64) = False := by simp; omega
  have b3 : (r == 64) = false := by simp; omega
  have c := i45 e.link hb.2.2.2.2.2.2.1
  have w := s55d linkpathB e.link n es (by rw [he, hn, List.length_map]) (by omega)
  unfold rst4 at h
  unfold linkE at h
  by_cases hz : e.link = []
  · have ih := q21_5_own e hb l0 rs es n r hr hn he (by omega) hne (by rw [h]; simp [recIf, hz])
    (simp (maxSteps := 2000000) (disch := omega) only [p21_4, c, a0, a1, a2, a3, b0, b1, b2, b3, beq_self_eq_true, s55c, w, decide_eq_true hz, linkpathB_eq, go_sem]) <;> repeat' (first | ((first | refine gd_dec ?_ ?_ | refine gd_ndec ?_ ?_ | refine cd_dec ?_ ?_ | refine cd_ndec ?_ ?_ | refine gdd_dec ?_ ?_ | refine gdd_ndec ?_ ?_ | refine gd_of ?_ ?_ | refine cd_of ?_ ?_ | refine gdd_of ?_ ?_) <;> intro hg <;> first | (exfalso; omega) | (simp (maxSteps := 2000000) (disch := omega) only [hg, p21_4, c, a0, a1, a2, a3, b0, b1, b2, b3, beq_self_eq_true, s55c, w, decide_eq_true hz, linkpathB_eq, go_sem])) | (refine And.intro ?_ ?_; focus omega) | omega)
    apply ih
  have hz2 : decide (e.link = []) = false := decide_eq_false hz
  rw [hz2, Bool.false_or] at h
  cases hf : linkB e.link with
  | true =>
    rw [hf] at c h
    have ih := q21_5_own e hb l0 rs es n r hr hn he (by omega) hne (by rw [h]; simp [recIf])
    (simp (maxSteps := 2000000) (disch := omega) only [p21_4, c, a0, a1, a2, a3, b0, b1, b2, b3, beq_self_eq_true, s55c, hz, linkpathB_eq, go_sem]) <;> repeat' (first | ((first | refine gd_dec ?_ ?_ | refine gd_ndec ?_ ?_ | refine cd_dec ?_ ?_ | refine cd_ndec ?_ ?_ | refine gdd_dec ?_ ?_ | refine gdd_ndec ?_ ?_ | refine gd_of ?_ ?_ | refine cd_of ?_ ?_ | refine gdd_of ?_ ?_) <;> intro hg <;> first | (exfalso; omega) | (simp (maxSteps := 2000000) (disch := omega) only [hg, p21_4, c, a0, a1, a2, a3, b0, b1, b2, b3, beq_self_eq_true, s55c, hz, linkpathB_eq, go_sem])) | (refine And.intro ?_ ?_; focus omega) | omega)
    apply ih
  | false =>
    rw [hf] at c h
    have ih := fun r hr => q21_5_own e hb l0 (rs ++ [⟨linkpathB, e.link⟩]) (es ++ [.agg [.str linkpathB, .str e.link]]) (n + 1) r hr (by simp [hn]) (by simp [he, Rcd.av]) (by simp; omega) (by simp) (by rw [h]; simp [recIf])
    (simp (maxSteps := 2000000) (disch := omega) only [p21_4, c, a0, a1, a2, a3, b0, b1, b2, b3, beq_self_eq_true, w, hz, linkpathB_eq, go_sem]) <;> repeat' (first | ((first | refine gd_dec ?_ ?_ | refine gd_ndec ?_ ?_ | refine cd_dec ?_ ?_ | refine cd_ndec ?_ ?_ | refine gdd_dec ?_ ?_ | refine gdd_ndec ?_ ?_ | refine gd_of ?_ ?_ | refine cd_of ?_ ?_ | refine gdd_of ?_ ?_) <;> intro hg <;> first | (exfalso; omega) | (simp (maxSteps := 2000000) (disch := omega) only [hg, p21_4, c, a0, a1, a2, a3, b0, b1, b2, b3, beq_self_eq_true, w, hz, linkpathB_eq, go_sem])) | (refine And.intro ?_ ?_; focus omega) | omega)
    apply ih
    omega
theorem q21_4_nil (e : Ent) (hb : EntB e) (l0 : List Rcd) (h : l0 = rst4 e) :
    ∀ x5 x6 x7 x8 x9 x10 x11 x12 x13 : AVal, EX AA 0 p21_4 ⟨[e.av, .ptr 0 0, .lit (.slice none 0 0), .ptr 64 0, .func (.func 55) [.ptr 64 0], x5, x6, x7, x8, x9, x10, x11, x12, x13, .lit Go.undef, .lit Go.undef, .lit Go.undef, .lit Go.undef, .lit Go.undef, .lit Go.undef, .lit Go.undef, .lit Go.undef, .lit Go.undef, .lit Go.undef, .lit Go.undef, .lit Go.undef, .lit Go.undef, .lit Go.undef, .lit Go.undef, .lit Go.undef, .lit Go.undef, .lit Go.undef, .lit Go.undef, .lit Go.undef, .lit Go.undef, .lit Go.undef, .lit Go.undef, .lit Go.undef, .lit Go.undef, .lit Go.undef, .lit Go.undef, .lit Go.undef, .lit Go.undef, .lit Go.undef, .lit Go.undef, .lit Go.undef, .lit Go.undef, .lit Go.undef, .lit Go.undef, .lit Go.undef], [(0, .var e.av.cells), (64, .var [.lit (.slice none 0 0)])], 416⟩ [] (FinR l0) := by
  intro x5 x6 x7 x8 x9 x10 x11 x12 x13
  have c := i45 e.link hb.2.2.2.2.2.2.1
  have w := s55b linkpathB e.link
  unfold rst4 at h
  unfold linkE at h
  by_cases hz : e.link = []
  · have ih := q21_5_nil e hb l0 (by rw [h]; simp [recIf, hz])
    (simp (maxSteps := 2000000) (disch := omega) only [p21_4, c, s55a, decide_eq_true hz, go_sem]) <;> repeat' (first | ((first | refine gd_dec ?_ ?_ | refine gd_ndec ?_ ?_ | refine cd_dec ?_ ?_ | refine cd_ndec ?_ ?_ | refine gdd_dec ?_ ?_ | refine gdd_ndec ?_ ?_ | refine gd_of ?_ ?_ | refine cd_of ?_ ?_ | refine gdd_of ?_ ?_) <;> intro hg <;> first | (exfalso; omega) | (simp (maxSteps := 2000000) (disch := omega) only [hg, p21_4, c, s55a, decide_eq_true hz, go_sem])) | (refine And.intro ?_ ?_; focus omega) | omega)
    apply ih
  have hz2 : decide (e.link = []) = false := decide_eq_false hz
  rw [hz2, Bool.false_or] at h
  cases hf : linkB e.link with
  | true =>
    rw [hf] at c h
    have ih := q21_5_nil e hb l0 (by rw [h]; simp [recIf])
    (simp (maxSteps := 2000000) (disch := omega) only [p21_4, c, s55a, hz, go_sem]) <;> repeat' (first | ((first | refine gd_dec ?_ ?_ | refine gd_ndec ?_ ?_ | refine cd_dec ?_ ?_ | refine cd_ndec ?_ ?_ | refine gdd_dec ?_ ?_ | refine gdd_ndec ?_ ?_ | refine gd_of ?_ ?_ | refine cd_of ?_ ?_ | refine gdd_of ?_ ?_) <;> intro hg <;> first | (exfalso; omega) | (simp (maxSteps := 2000000) (disch := omega) only [hg, p21_4, c, s55a, hz, go_sem])) | (refine And.intro ?_ ?_; focus omega) | omega)
    apply ih
  | false =>
    rw [hf] at c h
    have ih := fun r hr => q21_5_own e hb l0 [⟨linkpathB, e.link⟩] [.agg [.str linkpathB, .str e.link]] 1 r hr rfl rfl (by simp) (by simp) (by rw [h]; simp [recIf])
    (simp (maxSteps := 2000000) (disch := omega) only [p21_4, c, w, hz, linkpathB_eq, go_sem]) <;> repeat' (first | ((first | refine gd_dec ?_ ?_ | refine gd_ndec ?_ ?_ | refine cd_dec ?_ ?_ | refine cd_ndec ?_ ?_ | refine gdd_dec ?_ ?_ | refine gdd_ndec ?_ ?_ | refine gd_of ?_ ?_ | refine cd_of ?_ ?_ | refine gdd_of ?_ ?_) <;> intro hg <;> first | (exfalso; omega) | (simp (maxSteps := 2000000) (disch := omega) only [hg, p21_4, c, w, hz, linkpathB_eq, go_sem])) | (refine And.intro ?_ ?_; focus omega) | omega)
    apply ih
    omega
theorem q21_3_nil (e : Ent) (hb : EntB e) (l0 : List Rcd) (h : l0 = rst3 e) :
    ∀ x5 : AVal, EX AA 0 p21_3 ⟨[e.av, .ptr 0 0, .lit (.slice none 0 0), .ptr 64 0, .func (.func 55) [.ptr 64 0], x5, .lit Go.undef, .lit Go.undef, .lit Go.undef, .lit Go.undef, .lit Go.undef, .lit Go.undef, .lit Go.undef, .lit Go.undef, .lit Go.undef, .lit Go.undef, .lit Go.undef, .lit Go.undef, .lit Go.undef, .lit Go.undef, .lit Go.undef, .lit Go.undef, .lit Go.undef, .lit Go.undef, .lit Go.undef, .lit Go.undef, .lit Go.undef, .lit Go.undef, .lit Go.undef, .lit Go.undef, .lit Go.undef, .lit Go.undef, .lit Go.undef, .lit Go.undef, .lit Go.undef, .lit Go.undef, .lit Go.undef, .lit Go.undef, .lit Go.undef, .lit Go.undef, .lit Go.undef, .lit Go.undef, .lit Go.undef, .lit Go.undef, .lit Go.undef, .lit Go.undef, .lit Go.undef, .lit Go.undef, .lit Go.undef, .lit Go.undef], [(0, .var e.av.cells), (64, .var [.lit (.slice none 0 0)])], 160⟩ [] (FinR l0) := by
  intro x5
  have c := i46 e.gid
  have d := s56 e.gid hb.1 hb.2.1
  have w := s55b gidB (Lib.itoa e.gid)
  unfold rst3 at h
  cases hf : (idB e.gid) with
  | true =>
    rw [hf] at c h
    have ih := q21_4_nil e hb l0 (by rw [h]; simp [recIf])
    (simp (maxSteps := 2000000) (disch := omega) only [p21_3, c, d, s55a, go_sem]) <;> repeat' (first | ((first | refine gd_dec ?_ ?_ | refine gd_ndec ?_ ?_ | refine cd_dec ?_ ?_ | refine cd_ndec ?_ ?_ | refine gdd_dec ?_ ?_ | refine gdd_ndec ?_ ?_ | refine gd_of ?_ ?_ | refine cd_of ?_ ?_ | refine gdd_of ?_ ?_) <;> intro hg <;> first | (exfalso; omega) | (simp (maxSteps := 2000000) (disch := omega) only [hg, p21_3, c, d, s55a, go_sem])) | (refine And.intro ?_ ?_; focus omega) | omega)
    apply ih
  | false =>
    rw [hf] at c h
    have ih := fun r hr => q21_4_own e hb l0 [⟨gidB, (Lib.itoa e.gid)⟩] [.agg [.str gidB, .str (Lib.itoa e.gid)]] 1 r hr rfl rfl (by simp) (by simp) (by rw [h]; simp [recIf])
    (simp (maxSteps := 2000000) (disch := omega) only [p21_3, c, d, w, gidB_eq, go_sem]) <;> repeat' (first | ((first | refine gd_dec ?_ ?_ | refine gd_ndec ?_ ?_ | refine cd_dec ?_ ?_ | refine cd_ndec ?_ ?_ | refine gdd_dec ?_ ?_ | refine gdd_ndec ?_ ?_ | refine gd_of ?_ ?_ | refine cd_of ?_ ?_ | refine gdd_of ?_ ?_) <;> intro hg <;> first | (exfalso; omega) | (simp (maxSteps := 2000000) (disch := omega) only [hg, p21_3, c, d, w, gidB_eq, go_sem])) | (refine And.intro ?_ ?_; focus omega) | omega)
    apply ih
    omega
theorem s21 (e : Ent) (hb : EntB e) : callT AA 21 [e.av] [] = some (recV (recsE e), recH (recsE e)) := by
  have ih := q21_3_nil e hb _ rfl
  refine enter fn21 np21 rfl ?_
  rw [b21_p]
  show EX AA 0 p21_0 _ [] (FinR (recsE e))
  (simp (maxSteps := 2000000) (disch := omega) only [p21_0, p21_1, p21_2, go_sem]) <;> repeat' (first | ((first | refine gd_dec ?_ ?_ | refine gd_ndec ?_ ?_ | refine cd_dec ?_ ?_ | refine cd_ndec ?_ ?_ | refine gdd_dec ?_ ?_ | refine gdd_ndec ?_ ?_ | refine gd_of ?_ ?_ | refine cd_of ?_ ?_ | refine gdd_of ?_ ?_) <;> intro hg <;> first | (exfalso; omega) | (simp (maxSteps := 2000000) (disch := omega) only [hg, p21_0, p21_1, p21_2, go_sem])) | (refine And.intro ?_ ?_; focus omega) | omega)
  exact ih _
end Go.Abs
/- RECORDS, WRITTEN: pax.Encode. -/
namespace Go.Abs
open Am
set_option maxRecDepth 10000
set_option linter.unusedSimpArgs false
def paxStep (prev : Option Rcd) (out : List UInt8) (r : Rcd) : Bool :=
  lineOk r.key r.value && (match prev with | none => true | some p => Op.bytesLess p.key r.key) && decide (out.length + (lineB r.key r.value).length ≤ 65536)
def paxE (prev : Option Rcd) (out : List UInt8) : List Rcd → Option (List UInt8)
  | [] => some out
  | r :: rs => if paxStep prev out r = true then paxE (some r) (out ++ lineB r.key r.value) rs else none
def paxV (x : Option (List UInt8)) : AVal := match x with
  | none => .tuple [.lit (.slice none 0 0), .iface 58 (.int .i64 15)]
  | some o => .tuple [.own 0 1 0 o.length false, .lit .nilIface]
def paxH (x : Option (List UInt8)) : Heap := match x with
  | none => []
  | some o => [(0, .row (o.map .byte) 1)]
def RcdOk (r : Rcd) : Prop := r.key.length ≤ 1000000 ∧ r.value.length ≤ 1000000
theorem h109 (c t : Bool) (rs : List Rcd) (hs : rs.length ≤ 1000000) (hb : ∀ r ∈ rs, RcdOk r) (r0 : Option (List UInt8)) : ∀ (rest done : List Rcd) (p : Rcd) (out : List UInt8) (n i : Int) (q : Nat), rs = done ++ p :: rest → i = done.length + 1 → n = rs.length → q = out.length → out.length ≤ 65536 → r0 = paxE (some p) out rest →
    HD AA 0 [0, 2, 3, 4, 9, 10, 11] l109_0 ⟨[.view 2 (rs.map Rcd.av) c t, .junk, .lit (.slice none 0 0), .lit .nilIface, .own 0 1 0 q false, .junk, .junk, .junk, .junk, .view 2 (rs.map Rcd.av) c t, .int .i64 n, .int .i64 i, .junk, .junk, .junk, .junk, .junk, .junk, .junk, .junk, .junk, .junk, .junk, .junk, .junk, .junk, .junk, .junk, .junk, .junk, .junk, .junk, .junk, .junk, .junk, .junk, .junk, .junk, .junk, .junk, .junk, .junk, .junk, .junk, .junk, .junk, .junk, .junk, .junk, .junk, .junk, .junk, .junk, .junk, .junk], [(0, .row (out.map .byte) 1)], 1⟩ [.blk 0, .code r109_0] (Fin [(2, none), (3, none)] 0 (paxV r0) (paxH r0))
  | [], done, p, out, n, i, q, h1, h2, h3, h4, h5, h6 => by
    subst h1
    simp at h3
    have e : (out.map AVal.byte).take q = out.map .byte := List.take_of_length_le (by simp; omega)
    refine hd_of (by unfold l109_0; rfl) ?_
    simp only [paxE] at h6
    rw [h6]
    unfold paxV paxH
    (simp (maxSteps := 2000000) (disch := omega) only [r109_0, go_sem]) <;> repeat' (first | ((first | refine gd_dec ?_ ?_ | refine gd_ndec ?_ ?_ | refine cd_dec ?_ ?_ | refine cd_ndec ?_ ?_ | refine gdd_dec ?_ ?_ | refine gdd_ndec ?_ ?_ | refine gd_of ?_ ?_ | refine cd_of ?_ ?_ | refine gdd_of ?_ ?_) <;> intro hg <;> first | (exfalso; omega) | (simp (maxSteps := 2000000) (disch := omega) only [hg, r109_0, go_sem])) | (refine And.intro ?_ ?_; focus omega) | omega)
    simp [h4]
  | r :: rest, done, p, out, n, i, q, h1, h2, h3, h4, h5, h6 => by
    have hg0 : rs[i.toNat]? = some r := by
      rw [h1, show i.toNat = done.length + 1 by omega]
      simp
    have hp0 : rs[(i - 1).toNat]? = some p := by
      rw [h1, show (i - 1).toNat = done.length by omega]
      simp
    have hl : i.toNat < rs.length := by rw [h1]; simp; omega
    have hl' : (i - 1).toNat < rs.length := by omega
    obtain ⟨hk, hv⟩ := hb r (by simp [h1])
    have hc := s121 r.key r.value hk hv
    have e : (out.map AVal.byte).take q = out.map .byte := List.take_of_length_le (by simp; omega)
    refine hd_of (by unfold l109_0; rfl) ?_
    unfold paxE at h6
    cases f1 : lineOk r.key r.value with
    | false =>
      rw [if_neg (by simp [paxStep, f1])] at h6
      rw [f1] at hc
      rw [h6]
      unfold paxV paxH
      (simp (maxSteps := 2000000) (disch := omega) only [hc, hg0, hp0, lp_head, go_sem]) <;> repeat' (first | ((first | refine gd_dec ?_ ?_ | refine gd_ndec ?_ ?_ | refine cd_dec ?_ ?_ | refine cd_ndec ?_ ?_ | refine gdd_dec ?_ ?_ | refine gdd_ndec ?_ ?_ | refine gd_of ?_ ?_ | refine cd_of ?_ ?_ | refine gdd_of ?_ ?_) <;> intro hg <;> first | (exfalso; omega) | (simp (maxSteps := 2000000) (disch := omega) only [hg, hc, hg0, hp0, lp_head, go_sem])) | (refine And.intro ?_ ?_; focus omega) | omega)
    | true =>
      have hll := lineB_length (k := r.key) (v := r.value) (by simp [lineOk, kwB] at f1; omega) (by simp [lineOk] at f1; omega)
      rw [f1] at hc
      generalize hL : lineB r.key r.value = L at *
      by_cases f2 : Op.bytesLess p.key r.key = true
      · by_cases f3 : out.length + L.length ≤ 65536
        · rw [if_pos (by simp [paxStep, f1, f2, hL, f3])] at h6
          have ih := h109 c t rs hs hb r0 rest (done ++ [p]) r (out ++ L) n (i + 1) (q + L.length) (by simp [h1]) (by simp; omega) h3 (by simp; omega) (by simp; omega) h6
          (simp (maxSteps := 2000000) (disch := omega) only [hc, hg0, hp0, f2, e, lp_head, ← List.map_append, go_sem]) <;> repeat' (first | ((first | refine gd_dec ?_ ?_ | refine gd_ndec ?_ ?_ | refine cd_dec ?_ ?_ | refine cd_ndec ?_ ?_ | refine gdd_dec ?_ ?_ | refine gdd_ndec ?_ ?_ | refine gd_of ?_ ?_ | refine cd_of ?_ ?_ | refine gdd_of ?_ ?_) <;> intro hg <;> first | (exfalso; omega) | (simp (maxSteps := 2000000) (disch := omega) only [hg, hc, hg0, hp0, f2, e, lp_head, ← List.map_append, go_sem])) | (refine And.intro ?_ ?_; focus omega) | omega)
        · rw [if_neg (by simp [paxStep, f1, f2, hL]; omega)] at h6
          rw [h6]
          unfold paxV paxH
          (simp (maxSteps := 2000000) (disch := omega) only [hc, hg0, hp0, f2, lp_head, go_sem]) <;> repeat' (first | ((first | refine gd_dec ?_ ?_ | refine gd_ndec ?_ ?_ | refine cd_dec ?_ ?_ | refine cd_ndec ?_ ?_ | refine gdd_dec ?_ ?_ | refine gdd_ndec ?_ ?_ | refine gd_of ?_ ?_ | refine cd_of ?_ ?_ | refine gdd_of ?_ ?_) <;> intro hg <;> first | (exfalso; omega) | (simp (maxSteps := 2000000) (disch := omega) only [hg, hc, hg0, hp0, f2, lp_head, go_sem])) | (refine And.intro ?_ ?_; focus omega) | omega)
      · have f2' : Op.bytesLess p.key r.key = false := by simpa using f2
        rw [if_neg (by simp [paxStep, f2'])] at h6
        rw [h6]
        unfold paxV paxH
        (simp (maxSteps := 2000000) (disch := omega) only [hc, hg0, hp0, f2', lp_head, go_sem]) <;> repeat' (first | ((first | refine gd_dec ?_ ?_ | refine gd_ndec ?_ ?_ | refine cd_dec ?_ ?_ | refine cd_ndec ?_ ?_ | refine gdd_dec ?_ ?_ | refine gdd_ndec ?_ ?_ | refine gd_of ?_ ?_ | refine cd_of ?_ ?_ | refine gdd_of ?_ ?_) <;> intro hg <;> first | (exfalso; omega) | (simp (maxSteps := 2000000) (disch := omega) only [hg, hc, hg0, hp0, f2', lp_head, go_sem])) | (refine And.intro ?_ ?_; focus omega) | omega)
theorem s109n : callT AA 109 [.lit (.slice none 0 0)] [] = some (.tuple [.lit (.slice none 0 0), .lit .nilIface], []) := by
  refine enter fn109 np109 rfl ?_
  (simp (maxSteps := 2000000) (disch := omega) only [b109, lp_head, go_sem]) <;> repeat' (first | ((first | refine gd_dec ?_ ?_ | refine gd_ndec ?_ ?_ | refine cd_dec ?_ ?_ | refine cd_ndec ?_ ?_ | refine gdd_dec ?_ ?_ | refine gdd_ndec ?_ ?_ | refine gd_of ?_ ?_ | refine cd_of ?_ ?_ | refine gdd_of ?_ ?_) <;> intro hg <;> first | (exfalso; omega) | (simp (maxSteps := 2000000) (disch := omega) only [hg, b109, lp_head, go_sem])) | (refine And.intro ?_ ?_; focus omega) | omega)
  refine hd_of (by unfold l109_0; rfl) ?_
  (simp (maxSteps := 2000000) (disch := omega) only [r109_0, go_sem]) <;> repeat' (first | ((first | refine gd_dec ?_ ?_ | refine gd_ndec ?_ ?_ | refine cd_dec ?_ ?_ | refine cd_ndec ?_ ?_ | refine gdd_dec ?_ ?_ | refine gdd_ndec ?_ ?_ | refine gd_of ?_ ?_ | refine cd_of ?_ ?_ | refine gdd_of ?_ ?_) <;> intro hg <;> first | (exfalso; omega) | (simp (maxSteps := 2000000) (disch := omega) only [hg, r109_0, go_sem])) | (refine And.intro ?_ ?_; focus omega) | omega)
theorem lineB_pos {k v : List UInt8} : 0 < (lineB k v).length := by
  simp [lineB, restP]
  omega
theorem s109 (c t : Bool) (r : Rcd) (rs : List Rcd) (hs : (r :: rs).length ≤ 1000000) (hb : ∀ x ∈ r :: rs, RcdOk x) : callT AA 109 [.view 2 ((r :: rs).map Rcd.av) c t] [] = some (paxV (paxE none [] (r :: rs)), paxH (paxE none [] (r :: rs))) := by
  obtain ⟨hk, hv⟩ := hb r (by simp)
  have hc := s121 r.key r.value hk hv
  have hh := h109 c t (r :: rs) hs hb (paxE none [] (r :: rs)) rs [] r
  refine enter fn109 np109 rfl ?_
  generalize hR : paxE none [] (r :: rs) = R at *
  unfold paxE at hR
  generalize hrs : r :: rs = l at *
  have hg0 : l[0]? = some r := by rw [← hrs]; rfl
  have hl : 0 < l.length := by rw [← hrs]; simp
  (simp (maxSteps := 2000000) (disch := omega) only [b109, lp_head, go_sem]) <;> repeat' (first | ((first | refine gd_dec ?_ ?_ | refine gd_ndec ?_ ?_ | refine cd_dec ?_ ?_ | refine cd_ndec ?_ ?_ | refine gdd_dec ?_ ?_ | refine gdd_ndec ?_ ?_ | refine gd_of ?_ ?_ | refine cd_of ?_ ?_ | refine gdd_of ?_ ?_) <;> intro hg <;> first | (exfalso; omega) | (simp (maxSteps := 2000000) (disch := omega) only [hg, b109, lp_head, go_sem])) | (refine And.intro ?_ ?_; focus omega) | omega)
  refine hd_of (by unfold l109_0; rfl) ?_
  cases f1 : lineOk r.key r.value with
  | false =>
    rw [if_neg (by simp [paxStep, f1])] at hR
    rw [f1] at hc
    rw [← hR]
    unfold paxV paxH
    (simp (maxSteps := 2000000) (disch := omega) only [hc, hg0, lp_head, go_sem]) <;> repeat' (first | ((first | refine gd_dec ?_ ?_ | refine gd_ndec ?_ ?_ | refine cd_dec ?_ ?_ | refine cd_ndec ?_ ?_ | refine gdd_dec ?_ ?_ | refine gdd_ndec ?_ ?_ | refine gd_of ?_ ?_ | refine cd_of ?_ ?_ | refine gdd_of ?_ ?_) <;> intro hg <;> first | (exfalso; omega) | (simp (maxSteps := 2000000) (disch := omega) only [hg, hc, hg0, lp_head, go_sem])) | (refine And.intro ?_ ?_; focus omega) | omega)
  | true =>
    have hll := lineB_length (k := r.key) (v := r.value) (by simp [lineOk, kwB] at f1; omega) (by simp [lineOk] at f1; omega)
    rw [f1] at hc
    generalize hL : lineB r.key r.value = L at *
    by_cases f3 : L.length ≤ 65536
    · rw [if_pos (by simp [paxStep, f1, hL, f3])] at hR
      have hne : (L.map AVal.byte).isEmpty = false := by
        have := lineB_pos (k := r.key) (v := r.value)
        rw [hL] at this
        cases L with
        | nil => simp at this
        | cons x y => rfl
      have ih := hh L l.length 1 L.length (by simp [hrs]) rfl rfl rfl f3 (by rw [← hR]; simp)
      (simp (maxSteps := 2000000) (disch := omega) only [hc, hg0, hne, lp_head, go_sem]) <;> repeat' (first | ((first | refine gd_dec ?_ ?_ | refine gd_ndec ?_ ?_ | refine cd_dec ?_ ?_ | refine cd_ndec ?_ ?_ | refine gdd_dec ?_ ?_ | refine gdd_ndec ?_ ?_ | refine gd_of ?_ ?_ | refine cd_of ?_ ?_ | refine gdd_of ?_ ?_) <;> intro hg <;> first | (exfalso; omega) | (simp (maxSteps := 2000000) (disch := omega) only [hg, hc, hg0, hne, lp_head, go_sem])) | (refine And.intro ?_ ?_; focus omega) | omega)
    · rw [if_neg (by simp [paxStep, f1, hL]; omega)] at hR
      rw [← hR]
      unfold paxV paxH
      (simp (maxSteps := 2000000) (disch := omega) only [hc, hg0, lp_head, go_sem]) <;> repeat' (first | ((first | refine gd_dec ?_ ?_ | refine gd_ndec ?_ ?_ | refine cd_dec ?_ ?_ | refine cd_ndec ?_ ?_ | refine gdd_dec ?_ ?_ | refine gdd_ndec ?_ ?_ | refine gd_of ?_ ?_ | refine cd_of ?_ ?_ | refine gdd_of ?_ ?_) <;> intro hg <;> first | (exfalso; omega) | (simp (maxSteps := 2000000) (disch := omega) only [hg, hc, hg0, lp_head, go_sem])) | (refine And.intro ?_ ?_; focus omega) | omega)
end Go.Abs
/- ARCHIVES: filled up; types; headers of entries. -/
namespace Go.Abs
open Am
set_option maxRecDepth 10000
set_option linter.unusedSimpArgs false
theorem s148 (b : BS) : callT AA 148 [b.av] [] = some (b.clipped.av, []) := by
  refine enter fn148 np148 rfl ?_
  (simp (maxSteps := 2000000) (disch := omega) only [b148, go_sem]) <;> repeat' (first | ((first | refine gd_dec ?_ ?_ | refine gd_ndec ?_ ?_ | refine cd_dec ?_ ?_ | refine cd_ndec ?_ ?_ | refine gdd_dec ?_ ?_ | refine gdd_ndec ?_ ?_ | refine gd_of ?_ ?_ | refine cd_of ?_ ?_ | refine gdd_of ?_ ?_) <;> intro hg <;> first | (exfalso; omega) | (simp (maxSteps := 2000000) (disch := omega) only [hg, b148, go_sem])) | (refine And.intro ?_ ?_; focus omega) | omega)
def padN (n : Nat) : Nat := (512 - n % 512) % 512
/-- bytes, filled up -/
def padL (l : List UInt8) : List UInt8 := l ++ List.replicate (padN l.length) 0
/-- what is given where nothing is lacking -/
def padV (b : BS) : AVal := if padN b.l.length = 0 then b.clipped.av else .own 0 1 0 (padL b.l).length false
def padH (b : BS) : Heap := if padN b.l.length = 0 then [] else [(0, .row ((padL b.l).map .byte) 1)]
theorem s110 (b : BS) (hb : b.l.length ≤ 1000000000) : callT AA 110 [b.av] [] = some (padV b, padH b) := by
  have h1 := s148 b
  refine enter fn110 np110 rfl ?_
  cases b with
  | nil =>
    have e0 : padN 0 = 0 := rfl
    have e1 : (0 : Int).tmod 512 = 0 := rfl
    have e2 : (512 : Int).tmod 512 = 0 := rfl
    simp only [padV, padH, BS.l, List.length_nil, e0, if_true]
    simp only [BS.clipped, av_nil] at h1 ⊢
    (simp (maxSteps := 2000000) (disch := omega) only [b110, h1, e1, e2, Int.sub_zero, List.replicate_zero, go_sem]) <;> repeat' (first | ((first | refine gd_dec ?_ ?_ | refine gd_ndec ?_ ?_ | refine cd_dec ?_ ?_ | refine cd_ndec ?_ ?_ | refine gdd_dec ?_ ?_ | refine gdd_ndec ?_ ?_ | refine gd_of ?_ ?_ | refine cd_of ?_ ?_ | refine gdd_of ?_ ?_) <;> intro hg <;> first | (exfalso; omega) | (simp (maxSteps := 2000000) (disch := omega) only [hg, b110, h1, e1, e2, Int.sub_zero, List.replicate_zero, go_sem])) | (refine And.intro ?_ ?_; focus omega) | omega)
  | mk c t l =>
    simp only [BS.l] at hb
    have e1 : ((l.length : Int)).tmod 512 = ((l.length % 512 : Nat) : Int) := by
      rw [Int.tmod_eq_emod_of_nonneg (by omega)]
      omega
    have e2 : ((512 : Int) - ((l.length % 512 : Nat) : Int)).tmod 512 = ((padN l.length : Nat) : Int) := by
      rw [Int.tmod_eq_emod_of_nonneg (by omega)]
      unfold padN
      omega
    have e3 : padN l.length < 512 := by
      unfold padN
      omega
    simp only [padV, padH, BS.l, padL]
    simp only [BS.clipped, mk_av] at h1 ⊢
    by_cases h0 : padN l.length = 0
    · (simp (maxSteps := 2000000) (disch := omega) only [b110, h1, e1, e2, h0, List.replicate_zero, go_sem]) <;> repeat' (first | ((first | refine gd_dec ?_ ?_ | refine gd_ndec ?_ ?_ | refine cd_dec ?_ ?_ | refine cd_ndec ?_ ?_ | refine gdd_dec ?_ ?_ | refine gdd_ndec ?_ ?_ | refine gd_of ?_ ?_ | refine cd_of ?_ ?_ | refine gdd_of ?_ ?_) <;> intro hg <;> first | (exfalso; omega) | (simp (maxSteps := 2000000) (disch := omega) only [hg, b110, h1, e1, e2, h0, List.replicate_zero, go_sem])) | (refine And.intro ?_ ?_; focus omega) | omega)
    · have e4 : ((List.replicate (padN l.length) (0 : UInt8)).map AVal.byte).isEmpty = false := by
        cases hp : padN l.length with
        | zero => exact (h0 hp).elim
        | succ n => rfl
      (simp (maxSteps := 2000000) (disch := omega) only [b110, h1, e1, e2, h0, e4, List.map_append, go_sem]) <;> repeat' (first | ((first | refine gd_dec ?_ ?_ | refine gd_ndec ?_ ?_ | refine cd_dec ?_ ?_ | refine cd_ndec ?_ ?_ | refine gdd_dec ?_ ?_ | refine gdd_ndec ?_ ?_ | refine gd_of ?_ ?_ | refine cd_of ?_ ?_ | refine gdd_of ?_ ?_) <;> intro hg <;> first | (exfalso; omega) | (simp (maxSteps := 2000000) (disch := omega) only [hg, b110, h1, e1, e2, h0, e4, List.map_append, go_sem])) | (refine And.intro ?_ ?_; focus omega) | omega)
/-- .. of bytes of one's own -/
def padOV (l : List UInt8) : AVal := if padN l.length = 0 then .own 0 1 0 l.length true else .own 1 1 0 (padL l).length false
def padOH (l : List UInt8) : Heap := if padN l.length = 0 then [(0, .row (l.map .byte) 1)] else [(0, .row (l.map .byte) 1), (1, .row ((padL l).map .byte) 1)]
theorem s148o (l : List AVal) (n : Nat) : callT AA 148 [.own 0 1 0 n false] [(0, .row l 1)] = some (.own 0 1 0 n true, [(0, .row l 1)]) := by
  refine enter fn148 np148 rfl ?_
  (simp (maxSteps := 2000000) (disch := omega) only [b148, go_sem]) <;> repeat' (first | ((first | refine gd_dec ?_ ?_ | refine gd_ndec ?_ ?_ | refine cd_dec ?_ ?_ | refine cd_ndec ?_ ?_ | refine gdd_dec ?_ ?_ | refine gdd_ndec ?_ ?_ | refine gd_of ?_ ?_ | refine cd_of ?_ ?_ | refine gdd_of ?_ ?_) <;> intro hg <;> first | (exfalso; omega) | (simp (maxSteps := 2000000) (disch := omega) only [hg, b148, go_sem])) | (refine And.intro ?_ ?_; focus omega) | omega)
theorem s110o (l : List UInt8) (n : Nat) (hn : n = l.length) (hb : l.length ≤ 1000000000) : callT AA 110 [.own 0 1 0 n false] [(0, .row (l.map .byte) 1)] = some (padOV l, padOH l) := by
  subst hn
  have h1 := s148o (l.map .byte) l.length
  have e0 : (l.map AVal.byte).take l.length = l.map AVal.byte := List.take_of_length_le (by simp)
  refine enter fn110 np110 rfl ?_
  have e1 : ((l.length : Int)).tmod 512 = ((l.length % 512 : Nat) : Int) := by
    rw [Int.tmod_eq_emod_of_nonneg (by omega)]
    omega
  have e2 : ((512 : Int) - ((l.length % 512 : Nat) : Int)).tmod 512 = ((padN l.length : Nat) : Int) := by
    rw [Int.tmod_eq_emod_of_nonneg (by omega)]
    unfold padN
    omega
  have e3 : padN l.length < 512 := by
    unfold padN
    omega
  simp only [padOV, padOH, padL]
  by_cases h0 : padN l.length = 0
  · (simp (maxSteps := 2000000) (disch := omega) only [b110, h1, e1, e2, e0, h0, List.replicate_zero, go_sem]) <;> repeat' (first | ((first | refine gd_dec ?_ ?_ | refine gd_ndec ?_ ?_ | refine cd_dec ?_ ?_ | refine cd_ndec ?_ ?_ | refine gdd_dec ?_ ?_ | refine gdd_ndec ?_ ?_ | refine gd_of ?_ ?_ | refine cd_of ?_ ?_ | refine gdd_of ?_ ?_) <;> intro hg <;> first | (exfalso; omega) | (simp (maxSteps := 2000000) (disch := omega) only [hg, b110, h1, e1, e2, e0, h0, List.replicate_zero, go_sem])) | (refine And.intro ?_ ?_; focus omega) | omega)
  · have e4 : ((List.replicate (padN l.length) (0 : UInt8)).map AVal.byte).isEmpty = false := by
      cases hp : padN l.length with
      | zero => exact (h0 hp).elim
      | succ n => rfl
    (simp (maxSteps := 2000000) (disch := omega) only [b110, h1, e1, e2, e0, h0, e4, List.map_append, go_sem]) <;> repeat' (first | ((first | refine gd_dec ?_ ?_ | refine gd_ndec ?_ ?_ | refine cd_dec ?_ ?_ | refine cd_ndec ?_ ?_ | refine gdd_dec ?_ ?_ | refine gdd_ndec ?_ ?_ | refine gd_of ?_ ?_ | refine cd_of ?_ ?_ | refine gdd_of ?_ ?_) <;> intro hg <;> first | (exfalso; omega) | (simp (maxSteps := 2000000) (disch := omega) only [hg, b110, h1, e1, e2, e0, h0, e4, List.map_append, go_sem])) | (refine And.intro ?_ ?_; focus omega) | omega)
end Go.Abs
/- ARCHIVES: types; headers of entries. -/
namespace Go.Abs
open Am
set_option maxRecDepth 10000
set_option linter.unusedSimpArgs false
def typeB (k : Int) : UInt8 := if k = 1 then 53 else if k = 3 then 50 else if k = 4 then 49 else 48
theorem s102 (k : Int) : callT AA 102 [.int .i64 k] [] = some (.int .u8 (typeB k).toNat, []) := by
  refine enter fn102 np102 rfl ?_
  unfold typeB
  by_cases h1 : k = 1
  · (simp (maxSteps := 2000000) (disch := omega) only [b102, h1, go_sem]) <;> repeat' (first | ((first | refine gd_dec ?_ ?_ | refine gd_ndec ?_ ?_ | refine cd_dec ?_ ?_ | refine cd_ndec ?_ ?_ | refine gdd_dec ?_ ?_ | refine gdd_ndec ?_ ?_ | refine gd_of ?_ ?_ | refine cd_of ?_ ?_ | refine gdd_of ?_ ?_) <;> intro hg <;> first | (exfalso; omega) | (simp (maxSteps := 2000000) (disch := omega) only [hg, b102, h1, go_sem])) | (refine And.intro ?_ ?_; focus omega) | omega)
    rfl
  by_cases h3 : k = 3
  · (simp (maxSteps := 2000000) (disch := omega) only [b102, h3, go_sem]) <;> repeat' (first | ((first | refine gd_dec ?_ ?_ | refine gd_ndec ?_ ?_ | refine cd_dec ?_ ?_ | refine cd_ndec ?_ ?_ | refine gdd_dec ?_ ?_ | refine gdd_ndec ?_ ?_ | refine gd_of ?_ ?_ | refine cd_of ?_ ?_ | refine gdd_of ?_ ?_) <;> intro hg <;> first | (exfalso; omega) | (simp (maxSteps := 2000000) (disch := omega) only [hg, b102, h3, go_sem])) | (refine And.intro ?_ ?_; focus omega) | omega)
    rfl
  by_cases h4 : k = 4
  · (simp (maxSteps := 2000000) (disch := omega) only [b102, h4, go_sem]) <;> repeat' (first | ((first | refine gd_dec ?_ ?_ | refine gd_ndec ?_ ?_ | refine cd_dec ?_ ?_ | refine cd_ndec ?_ ?_ | refine gdd_dec ?_ ?_ | refine gdd_ndec ?_ ?_ | refine gd_of ?_ ?_ | refine cd_of ?_ ?_ | refine gdd_of ?_ ?_) <;> intro hg <;> first | (exfalso; omega) | (simp (maxSteps := 2000000) (disch := omega) only [hg, b102, h4, go_sem])) | (refine And.intro ?_ ?_; focus omega) | omega)
    rfl
  (simp (maxSteps := 2000000) (disch := omega) only [b102, h1, h3, h4, go_sem]) <;> repeat' (first | ((first | refine gd_dec ?_ ?_ | refine gd_ndec ?_ ?_ | refine cd_dec ?_ ?_ | refine cd_ndec ?_ ?_ | refine gdd_dec ?_ ?_ | refine gdd_ndec ?_ ?_ | refine gd_of ?_ ?_ | refine cd_of ?_ ?_ | refine gdd_of ?_ ?_) <;> intro hg <;> first | (exfalso; omega) | (simp (maxSteps := 2000000) (disch := omega) only [hg, b102, h1, h3, h4, go_sem])) | (refine And.intro ?_ ?_; focus omega) | omega)
  rfl
def paxB : List UInt8 := [112, 97, 120]
theorem paxB_eq : AVal.str [112, 97, 120] = .str paxB := rfl
def setR (h : Hd) (r : Rcd) : Hd :=
  if r.key = gidB then { h with gid := 0 } else if r.key = linkpathB then { h with link := paxB } else if r.key = mtimeB then { h with time := 0 } else if r.key = pathB then { h with path := paxB } else if r.key = uidB then { h with uid := 0 } else h
def hdE (e : Ent) : Hd := ⟨e.path, e.mode, e.uid, e.gid, e.data.l.length, e.time, typeB e.kind, e.link⟩
def hdrE (e : Ent) (rs : List Rcd) : Hd := rs.foldl setR (hdE e)
theorem h111 (c t : Bool) (rs : List Rcd) (hs : rs.length ≤ 1000000) (r0 : Hd) : ∀ (rest done : List Rcd) (h : Hd) (n i : Int), rs = done ++ rest → i = done.length → n = rs.length → r0 = rest.foldl setR h →
    HD AA 0 [4, 5, 27, 28, 29] l111_0 ⟨[.junk, .junk, .junk, .junk, .ptr 0 0, .ptr 1 0, .junk, .junk, .junk, .junk, .junk, .junk, .junk, .junk, .junk, .junk, .junk, .junk, .junk, .junk, .junk, .junk, .junk, .junk, .junk, .junk, .junk, .view 2 (rs.map Rcd.av) c t, .int .i64 n, .int .i64 i, .junk, .junk, .junk, .junk, .junk, .junk, .junk, .junk, .junk, .junk, .junk, .junk, .junk, .junk, .junk, .junk, .junk, .junk, .junk, .junk, .junk, .junk], [(0, .var [.str [], .int .i64 0, .int .i64 0, .int .i64 0, .int .i64 0, .int .i64 0, .int .u8 0, .str []]), (1, .var h.av.cells)], 2⟩ [.blk 0, .code r111_0] (Fin [(4, some (8, true))] 0 r0.av [])
  | [], done, h, n, i, h1, h2, h3, h4 => by
    subst h1
    simp at h3
    refine hd_of (by unfold l111_0; rfl) ?_
    simp only [List.foldl] at h4
    rw [h4]
    (simp (maxSteps := 2000000) (disch := omega) only [r111_0, go_sem]) <;> repeat' (first | ((first | refine gd_dec ?_ ?_ | refine gd_ndec ?_ ?_ | refine cd_dec ?_ ?_ | refine cd_ndec ?_ ?_ | refine gdd_dec ?_ ?_ | refine gdd_ndec ?_ ?_ | refine gd_of ?_ ?_ | refine cd_of ?_ ?_ | refine gdd_of ?_ ?_) <;> intro hg <;> first | (exfalso; omega) | (simp (maxSteps := 2000000) (disch := omega) only [hg, r111_0, go_sem])) | (refine And.intro ?_ ?_; focus omega) | omega)
  | r :: rest, done, h, n, i, h1, h2, h3, h4 => by
    have hg0 : rs[i.toNat]? = some r := by
      rw [h1]
      simp [h2]
    have hl : i.toNat < rs.length := by rw [h1]; simp; omega
    rw [List.foldl_cons] at h4
    have ih := h111 c t rs hs r0 rest (done ++ [r]) (setR h r) n (i + 1) (by simp [h1]) (by first | omega | (simp; omega) | (simp; done)) h3 h4
    refine hd_of (by unfold l111_0; rfl) ?_
    by_cases k0 : r.key = [103, 105, 100]
    · have e : setR h r = { h with gid := 0 } := by
        unfold setR gidB linkpathB mtimeB pathB uidB
        rw [if_pos k0]
      rw [e] at ih
      (simp (maxSteps := 2000000) (disch := omega) only [hg0, decide_eq_true k0, lp_head, paxB_eq, go_sem]) <;> repeat' (first | ((first | refine gd_dec ?_ ?_ | refine gd_ndec ?_ ?_ | refine cd_dec ?_ ?_ | refine cd_ndec ?_ ?_ | refine gdd_dec ?_ ?_ | refine gdd_ndec ?_ ?_ | refine gd_of ?_ ?_ | refine cd_of ?_ ?_ | refine gdd_of ?_ ?_) <;> intro hg <;> first | (exfalso; omega) | (simp (maxSteps := 2000000) (disch := omega) only [hg, hg0, decide_eq_true k0, lp_head, paxB_eq, go_sem])) | (refine And.intro ?_ ?_; focus omega) | omega)
      exact ih
    by_cases k1 : r.key = [108, 105, 110, 107, 112, 97, 116, 104]
    · have e : setR h r = { h with link := paxB } := by
        unfold setR gidB linkpathB mtimeB pathB uidB
        rw [if_neg k0, if_pos k1]
      rw [e] at ih
      (simp (maxSteps := 2000000) (disch := omega) only [hg0, decide_eq_false k0, decide_eq_true k1, lp_head, paxB_eq, go_sem]) <;> repeat' (first | ((first | refine gd_dec ?_ ?_ | refine gd_ndec ?_ ?_ | refine cd_dec ?_ ?_ | refine cd_ndec ?_ ?_ | refine gdd_dec ?_ ?_ | refine gdd_ndec ?_ ?_ | refine gd_of ?_ ?_ | refine cd_of ?_ ?_ | refine gdd_of ?_ ?_) <;> intro hg <;> first | (exfalso; omega) | (simp (maxSteps := 2000000) (disch := omega) only [hg, hg0, decide_eq_false k0, decide_eq_true k1, lp_head, paxB_eq, go_sem])) | (refine And.intro ?_ ?_; focus omega) | omega)
      exact ih
    by_cases k2 : r.key = [109, 116, 105, 109, 101]
    · have e : setR h r = { h with time := 0 } := by
        unfold setR gidB linkpathB mtimeB pathB uidB
        rw [if_neg k0, if_neg k1, if_pos k2]
      rw [e] at ih
      (simp (maxSteps := 2000000) (disch := omega) only [hg0, decide_eq_false k0, decide_eq_false k1, decide_eq_true k2, lp_head, paxB_eq, go_sem]) <;> repeat' (first | ((first | refine gd_dec ?_ ?_ | refine gd_ndec ?_ ?_ | refine cd_dec ?_ ?_ | refine cd_ndec ?_ ?_ | refine gdd_dec ?_ ?_ | refine gdd_ndec ?_ ?_ | refine gd_of ?_ ?_ | refine cd_of ?_ ?_ | refine gdd_of ?_ ?_) <;> intro hg <;> first | (exfalso; omega) | (simp (maxSteps := 2000000) (disch := omega) only [hg, hg0, decide_eq_false k0, decide_eq_false k1, decide_eq_true k2, lp_head, paxB_eq, go_sem])) | (refine And.intro ?_ ?_; focus omega) | omega)
      exact ih
    by_cases k3 : r.key = [112, 97, 116, 104]
    · have e : setR h r = { h with path := paxB } := by
        unfold setR gidB linkpathB mtimeB pathB uidB
        rw [if_neg k0, if_neg k1, if_neg k2, if_pos k3]
      rw [e] at ih
      (simp (maxSteps := 2000000) (disch := omega) only [hg0, decide_eq_false k0, decide_eq_false k1, decide_eq_false k2, decide_eq_true k3, lp_head, paxB_eq, go_sem]) <;> repeat' (first | ((first | refine gd_dec ?_ ?_ | refine gd_ndec ?_ ?_ | refine cd_dec ?_ ?_ | refine cd_ndec ?_ ?_ | refine gdd_dec ?_ ?_ | refine gdd_ndec ?_ ?_ | refine gd_of ?_ ?_ | refine cd_of ?_ ?_ | refine gdd_of ?_ ?_) <;> intro hg <;> first | (exfalso; omega) | (simp (maxSteps := 2000000) (disch := omega) only [hg, hg0, decide_eq_false k0, decide_eq_false k1, decide_eq_false k2, decide_eq_true k3, lp_head, paxB_eq, go_sem])) | (refine And.intro ?_ ?_; focus omega) | omega)
      exact ih
    by_cases k4 : r.key = [117, 105, 100]
    · have e : setR h r = { h with uid := 0 } := by
        unfold setR gidB linkpathB mtimeB pathB uidB
        rw [if_neg k0, if_neg k1, if_neg k2, if_neg k3, if_pos k4]
      rw [e] at ih
      (simp (maxSteps := 2000000) (disch := omega) only [hg0, decide_eq_false k0, decide_eq_false k1, decide_eq_false k2, decide_eq_false k3, decide_eq_true k4, lp_head, paxB_eq, go_sem]) <;> repeat' (first | ((first | refine gd_dec ?_ ?_ | refine gd_ndec ?_ ?_ | refine cd_dec ?_ ?_ | refine cd_ndec ?_ ?_ | refine gdd_dec ?_ ?_ | refine gdd_ndec ?_ ?_ | refine gd_of ?_ ?_ | refine cd_of ?_ ?_ | refine gdd_of ?_ ?_) <;> intro hg <;> first | (exfalso; omega) | (simp (maxSteps := 2000000) (disch := omega) only [hg, hg0, decide_eq_false k0, decide_eq_false k1, decide_eq_false k2, decide_eq_false k3, decide_eq_true k4, lp_head, paxB_eq, go_sem])) | (refine And.intro ?_ ?_; focus omega) | omega)
      exact ih
    have e : setR h r = h := by
      unfold setR gidB linkpathB mtimeB pathB uidB
      rw [if_neg k0, if_neg k1, if_neg k2, if_neg k3, if_neg k4]
    rw [e] at ih
    (simp (maxSteps := 2000000) (disch := omega) only [hg0, decide_eq_false k0, decide_eq_false k1, decide_eq_false k2, decide_eq_false k3, decide_eq_false k4, lp_head, go_sem]) <;> repeat' (first | ((first | refine gd_dec ?_ ?_ | refine gd_ndec ?_ ?_ | refine cd_dec ?_ ?_ | refine cd_ndec ?_ ?_ | refine gdd_dec ?_ ?_ | refine gdd_ndec ?_ ?_ | refine gd_of ?_ ?_ | refine cd_of ?_ ?_ | refine gdd_of ?_ ?_) <;> intro hg <;> first | (exfalso; omega) | (simp (maxSteps := 2000000) (disch := omega) only [hg, hg0, decide_eq_false k0, decide_eq_false k1, decide_eq_false k2, decide_eq_false k3, decide_eq_false k4, lp_head, go_sem])) | (refine And.intro ?_ ?_; focus omega) | omega)
    exact ih
theorem s111 (e : Ent) (c t : Bool) (rs : List Rcd) (hs : rs.length ≤ 1000000) : callT AA 111 [e.av, .view 2 (rs.map Rcd.av) c t] [] = some ((hdrE e rs).av, []) := by
  have h1 := s102 e.kind
  have ih := h111 c t rs hs (hdrE e rs) rs [] (hdE e) rs.length 0 rfl rfl rfl rfl
  refine enter fn111 np111 rfl ?_
  (simp (maxSteps := 2000000) (disch := omega) only [b111, h1, lp_head, go_sem]) <;> repeat' (first | ((first | refine gd_dec ?_ ?_ | refine gd_ndec ?_ ?_ | refine cd_dec ?_ ?_ | refine cd_ndec ?_ ?_ | refine gdd_dec ?_ ?_ | refine gdd_ndec ?_ ?_ | refine gd_of ?_ ?_ | refine cd_of ?_ ?_ | refine gdd_of ?_ ?_) <;> intro hg <;> first | (exfalso; omega) | (simp (maxSteps := 2000000) (disch := omega) only [hg, b111, h1, lp_head, go_sem])) | (refine And.intro ?_ ?_; focus omega) | omega)
  exact ih
theorem s111n (e : Ent) : callT AA 111 [e.av, .lit (.slice none 0 0)] [] = some ((hdE e).av, []) := by
  have h1 := s102 e.kind
  refine enter fn111 np111 rfl ?_
  (simp (maxSteps := 2000000) (disch := omega) only [b111, h1, lp_head, go_sem]) <;> repeat' (first | ((first | refine gd_dec ?_ ?_ | refine gd_ndec ?_ ?_ | refine cd_dec ?_ ?_ | refine cd_ndec ?_ ?_ | refine gdd_dec ?_ ?_ | refine gdd_ndec ?_ ?_ | refine gd_of ?_ ?_ | refine cd_of ?_ ?_ | refine gdd_of ?_ ?_) <;> intro hg <;> first | (exfalso; omega) | (simp (maxSteps := 2000000) (disch := omega) only [hg, b111, h1, lp_head, go_sem])) | (refine And.intro ?_ ?_; focus omega) | omega)
  refine hd_of (by unfold l111_0; rfl) ?_
  (simp (maxSteps := 2000000) (disch := omega) only [r111_0, go_sem]) <;> repeat' (first | ((first | refine gd_dec ?_ ?_ | refine gd_ndec ?_ ?_ | refine cd_dec ?_ ?_ | refine cd_ndec ?_ ?_ | refine gdd_dec ?_ ?_ | refine gdd_ndec ?_ ?_ | refine gd_of ?_ ?_ | refine cd_of ?_ ?_ | refine gdd_of ?_ ?_) <;> intro hg <;> first | (exfalso; omega) | (simp (maxSteps := 2000000) (disch := omega) only [hg, r111_0, go_sem])) | (refine And.intro ?_ ?_; focus omega) | omega)
  rfl
end Go.Abs
/- ARCHIVES: one entry's bytes. -/
namespace Go.Abs
open Am
set_option maxRecDepth 10000
set_option linter.unusedSimpArgs false
theorem putA_512 {bs xs : List UInt8} {off n : Nat} (h : bs.length = 512) (h' : off + n ≤ 512) : (putA bs off n xs).length = 512 := by
  rw [putA_length (by omega)]
  exact h
theorem octW_512 {bs : List UInt8} {pos k : Nat} {n : Int} (h : bs.length = 512) : (octW bs pos k n).length = 512 := by
  rw [octW_length]
  exact h
theorem set_512 {bs : List UInt8} {i : Nat} {x : UInt8} (h : bs.length = 512) : (bs.set i x).length = 512 := by
  rw [List.length_set]
  exact h
theorem encB_length (h : Hd) : (encB h).length = 512 := by
  unfold encB encH
  refine set_512 (octW_512 (putA_512 (octW_512 (octW_512 (putA_512 (putA_512 (set_512 (octW_512 (octW_512 (octW_512 (octW_512 (octW_512 (putA_512 zeros512_length ?_)))))))  ?_) ?_))) ?_))
  all_goals omega
theorem paxE_le : ∀ (rs : List Rcd) (p : Option Rcd) (out o : List UInt8), out.length ≤ 65536 → paxE p out rs = some o → o.length ≤ 65536
  | [], p, out, o, h, he => by
    simp only [paxE, Option.some.injEq] at he
    rw [← he]
    exact h
  | r :: rs, p, out, o, h, he => by
    unfold paxE at he
    split at he
    · rename_i hs
      refine paxE_le rs _ _ o ?_ he
      simp only [paxStep, Bool.and_eq_true, decide_eq_true_eq] at hs
      simpa using hs.2
    · cases he
theorem setR_le {h : Hd} {r : Rcd} (h1 : h.path.length ≤ 1000000) (h2 : h.link.length ≤ 1000000) : (setR h r).path.length ≤ 1000000 ∧ (setR h r).link.length ≤ 1000000 := by
  unfold setR
  repeat' split
  all_goals simp [h1, h2, paxB]
theorem fold_le : ∀ (rs : List Rcd) (h : Hd), h.path.length ≤ 1000000 → h.link.length ≤ 1000000 → (rs.foldl setR h).path.length ≤ 1000000 ∧ (rs.foldl setR h).link.length ≤ 1000000
  | [], h, h1, h2 => ⟨h1, h2⟩
  | r :: rs, h, h1, h2 => fold_le rs (setR h r) (setR_le h1 h2).1 (setR_le h1 h2).2
theorem padL_length (l : List UInt8) : (padL l).length = l.length + padN l.length := by simp [padL]
theorem padN_lt (n : Nat) : padN n < 512 := by
  unfold padN
  omega
/-- the header of records -/
def hdX (n : Int) (body : List UInt8) : Hd := ⟨[112, 97, 120, 47] ++ Lib.itoa n, 0, 0, 0, body.length, 0, 120, []⟩
def bodyE (e : Ent) : List UInt8 := (paxE none [] (recsE e)).getD []
def preE (n : Int) (e : Ent) : List UInt8 := if recsE e = [] then [] else encB (hdX n (bodyE e)) ++ padL (bodyE e)
/-- an entry's bytes -/
def pieceL (n : Int) (e : Ent) : List UInt8 := preE n e ++ encB (hdrE e (recsE e)) ++ padL e.data.l
/-- what an entry of a tree meets -/
def pieceOk (n : Int) (e : Ent) : Prop := encOk (hdrE e (recsE e)) = true ∧ (recsE e ≠ [] → (paxE none [] (recsE e)).isSome = true ∧ encOk (hdX n (bodyE e)) = true)
theorem rcd_recIf {f : Bool} {k v : List UInt8} (hk : k.length ≤ 1000000) (hv : v.length ≤ 1000000) : ∀ r ∈ recIf f k v, RcdOk r := by
  unfold recIf
  split
  · simp
  · simp [RcdOk, hk, hv]
theorem itoa_le {n : Int} (h1 : -9223372036854775808 ≤ n) (h2 : n ≤ 9223372036854775807) : (Lib.itoa n).length ≤ 20 := by
  have hb : ∀ u : Nat, u < 10000000000000000000 → Lib.nDigits u ≤ 19 := by
    intro u hu
    have h1 := nDigits_mono (u := u) (v := 9999999999999999999) (by omega)
    have h2 : Lib.nDigits 9999999999999999999 = 19 := Lib.nDigits_unique 18 9999999999999999999 (by decide) (by decide)
    omega
  unfold Lib.itoa
  split
  · rw [List.length_cons, Lib.decDigits_length]
    have := hb n.natAbs (by omega)
    omega
  · rw [Lib.decDigits_length]
    have := hb n.toNat (by omega)
    omega
theorem rcd_recsE {e : Ent} (hb : EntB e) : ∀ r ∈ recsE e, RcdOk r := by
  obtain ⟨b1, b2, b3, b4, b5, b6, b7, b8⟩ := hb
  have i1 := itoa_le b1 b2
  have i2 := itoa_le b3 b4
  have i3 := itoa_le b5 b6
  unfold recsE rst3 rst4 rst5 rst6 rst7
  simp only [List.mem_append]
  rintro r (h | h | h | h | h)
  · exact rcd_recIf (by simp [gidB]) (by omega) r h
  · exact rcd_recIf (by simp [linkpathB]) b7 r h
  · exact rcd_recIf (by simp [mtimeB]) (by omega) r h
  · exact rcd_recIf (by simp [pathB]) b8 r h
  · exact rcd_recIf (by simp [uidB]) (by omega) r h
theorem recsE_length (e : Ent) : (recsE e).length ≤ 5 := by
  have h : ∀ (f : Bool) (k v : List UInt8), (recIf f k v).length ≤ 1 := by
    intro f k v
    unfold recIf
    split <;> simp
  unfold recsE rst3 rst4 rst5 rst6 rst7
  simp only [List.length_append]
  have := h (idB e.gid) gidB (Lib.itoa e.gid)
  have := h (linkE e.link) linkpathB e.link
  have := h (timeB e.time) mtimeB (Lib.itoa e.time)
  have := h (splitN e.path).2.2 pathB e.path
  have := h (idB e.uid) uidB (Lib.itoa e.uid)
  omega
set_option maxHeartbeats 8000000 in
theorem s66 (n : Int) (hn : 0 ≤ n) (hn' : n ≤ 1000000) (e : Ent) (hb : EntB e) (hd : e.data.l.length ≤ 1000000000) (hok : pieceOk n e) :
    callT AA 66 [.int .i64 n, e.av] [] = some (.tuple [.own 0 1 0 (pieceL n e).length false, .lit .nilIface], [(0, .row ((pieceL n e).map .byte) 1)]) := by
  have h21 := s21 e hb
  have hpl := fold_le (recsE e) (hdE e) hb.2.2.2.2.2.2.2 hb.2.2.2.2.2.2.1
  have h70 := s70 (hdrE e (recsE e)) hpl.1 hpl.2 hok.1
  have hl0 := encB_length (hdrE e (recsE e))
  have h110 := s110 e.data hd
  have hpl := padL_length e.data.l
  have hpn := padN_lt e.data.l.length
  by_cases h0 : recsE e = []
  · have e1 : pieceL n e = encB (hdrE e (recsE e)) ++ padL e.data.l := by
      unfold pieceL preE
      rw [if_pos h0, List.nil_append]
    rw [e1, List.length_append, hl0, List.map_append]
    have h111 := s111n e
    have e2 : hdE e = hdrE e (recsE e) := by rw [h0]; rfl
    rw [e2] at h111
    rw [h0] at h21
    have e3 : recV [] = .lit (.slice none 0 0) := rfl
    have e4 : recH [] = [] := rfl
    rw [e3, e4] at h21
    refine enter fn66 np66 rfl ?_
    generalize hH : hdrE e (recsE e) = H at *
    generalize hB : encB H = B at *
    have hx2 : (B.map AVal.byte).take 512 = B.map AVal.byte := List.take_of_length_le (by simp; omega)
    have hx : (B.map AVal.byte).isEmpty = false := by
      cases B with
      | nil => simp at hl0
      | cons x y => rfl
    cases hdt : e.data with
    | nil =>
      simp only [hdt, BS.l, av_nil] at h110 hpl hpn
      have e5 : padN 0 = 0 := rfl
      simp only [padV, padH, BS.l, List.length_nil, e5, if_true, BS.clipped, av_nil] at h110
      have e6 : padL ([] : List UInt8) = [] := rfl
      simp only [BS.l, e6, List.length_nil, List.map_nil]
      simp only [Ent.av, hdt, av_nil] at h21 h111
      simp only [Hd.av] at h111 h70
      (simp (maxSteps := 2000000) (disch := omega) only [b66, h21, h111, h70, h110, hdt, hx, hx2, hl0, Nat.min_self, mk_av, go_sem]) <;> repeat' (first | ((first | refine gd_dec ?_ ?_ | refine gd_ndec ?_ ?_ | refine cd_dec ?_ ?_ | refine cd_ndec ?_ ?_ | refine gdd_dec ?_ ?_ | refine gdd_ndec ?_ ?_ | refine gd_of ?_ ?_ | refine cd_of ?_ ?_ | refine gdd_of ?_ ?_) <;> intro hg <;> first | (exfalso; omega) | (simp (maxSteps := 2000000) (disch := omega) only [hg, b66, h21, h111, h70, h110, hdt, hx, hx2, hl0, Nat.min_self, mk_av, go_sem])) | (refine And.intro ?_ ?_; focus omega) | omega)
    | mk c t l =>
      simp only [hdt, BS.l, mk_av] at h110 hpl hpn hd
      simp only [Ent.av, hdt, mk_av] at h21 h111
      simp only [Hd.av] at h111 h70
      simp only [padV, padH, BS.l, BS.clipped, mk_av] at h110
      simp only [BS.l]
      by_cases hp : padN l.length = 0
      · simp only [hp, if_true] at h110
        have e7 : padL l = l := by simp [padL, hp]
        rw [e7]
        (simp (maxSteps := 2000000) (disch := omega) only [b66, h21, h111, h70, h110, hdt, hx, hx2, hl0, Nat.min_self, mk_av, go_sem]) <;> repeat' (first | ((first | refine gd_dec ?_ ?_ | refine gd_ndec ?_ ?_ | refine cd_dec ?_ ?_ | refine cd_ndec ?_ ?_ | refine gdd_dec ?_ ?_ | refine gdd_ndec ?_ ?_ | refine gd_of ?_ ?_ | refine cd_of ?_ ?_ | refine gdd_of ?_ ?_) <;> intro hg <;> first | (exfalso; omega) | (simp (maxSteps := 2000000) (disch := omega) only [hg, b66, h21, h111, h70, h110, hdt, hx, hx2, hl0, Nat.min_self, mk_av, go_sem])) | (refine And.intro ?_ ?_; focus omega) | omega)
      · simp only [hp, if_false] at h110
        (simp (maxSteps := 2000000) (disch := omega) only [b66, h21, h111, h70, h110, hdt, hx, hx2, hl0, Nat.min_self, mk_av, go_sem]) <;> repeat' (first | ((first | refine gd_dec ?_ ?_ | refine gd_ndec ?_ ?_ | refine cd_dec ?_ ?_ | refine cd_ndec ?_ ?_ | refine gdd_dec ?_ ?_ | refine gdd_ndec ?_ ?_ | refine gd_of ?_ ?_ | refine cd_of ?_ ?_ | refine gdd_of ?_ ?_) <;> intro hg <;> first | (exfalso; omega) | (simp (maxSteps := 2000000) (disch := omega) only [hg, b66, h21, h111, h70, h110, hdt, hx, hx2, hl0, Nat.min_self, mk_av, go_sem])) | (refine And.intro ?_ ?_; focus omega) | omega)
  · obtain ⟨hsm, hkx⟩ := hok.2 h0
    obtain ⟨body, hbd⟩ := Option.isSome_iff_exists.1 hsm
    have hbe : bodyE e = body := by unfold bodyE; rw [hbd]; rfl
    have hbl := paxE_le _ _ _ _ (by simp) hbd
    have hitl := itoa_le (n := n) (by omega) (by omega)
    have h70x := s70 (hdX n (bodyE e)) (by simp [hdX]; omega) (by simp [hdX]) hkx
    have h56 := s56 n (by omega) (by omega)
    have hl1 := encB_length (hdX n (bodyE e))
    have hrl := recsE_length e
    have h109 : ∀ c t, callT AA 109 [.view 2 ((recsE e).map Rcd.av) c t] [] = some (.tuple [.own 0 1 0 body.length false, .lit .nilIface], [(0, .row (body.map .byte) 1)]) := by
      intro c t
      have hrb := rcd_recsE hb
      cases hr : recsE e with
      | nil => exact (h0 hr).elim
      | cons r rs =>
        rw [hr] at hrb hrl hbd
        have := s109 c t r rs (by omega) hrb
        rw [hbd] at this
        exact this
    have hpb := s110o body body.length rfl (by omega)
    have hpbl := padL_length body
    have hpbn := padN_lt body.length
    have e1 : pieceL n e = encB (hdX n (bodyE e)) ++ padL body ++ encB (hdrE e (recsE e)) ++ padL e.data.l := by
      unfold pieceL preE
      rw [if_neg h0, hbe]
    rw [e1]
    simp only [List.length_append, hl0, hl1, List.map_append]
    have h111 := s111 e false true (recsE e) (by omega)
    rw [show recV (recsE e) = .own 0 2 0 (recsE e).length false by simp [recV, h0], show recH (recsE e) = [(0, .row ((recsE e).map Rcd.av) 2)] by simp [recH, h0]] at h21
    refine enter fn66 np66 rfl ?_
    generalize hH : hdrE e (recsE e) = H at *
    generalize hB : encB H = B at *
    rw [hbe] at h70x hl1 ⊢
    generalize hC : encB (hdX n body) = C at *
    replace h70x : callT AA 70 [.agg [.str (112 :: 97 :: 120 :: 47 :: Lib.itoa n), .int .i64 0, .int .i64 0, .int .i64 0, .int .i64 body.length, .int .i64 0, .int .u8 120, .str []]] [] = some (.tuple [.own 0 1 0 512 false, .lit .nilIface], [(0, .row (C.map .byte) 1)]) := h70x
    have hx2 : (B.map AVal.byte).take 512 = B.map AVal.byte := List.take_of_length_le (by simp; omega)
    have hx3 : (C.map AVal.byte).take 512 = C.map AVal.byte := List.take_of_length_le (by simp; omega)
    have hx4 : (C.map AVal.byte).isEmpty = false := by
      cases C with
      | nil => simp at hl1
      | cons x y => rfl
    have hrp : 0 < (recsE e).length := by
      cases hq : recsE e with
      | nil => exact (h0 hq).elim
      | cons a b => simp
    simp only [Hd.av] at h111 h70
    by_cases hpb0 : padN body.length = 0
    · have e8 : padL body = body := by simp [padL, hpb0]
      have ht1 : List.take (512 + body.length) (C.map AVal.byte ++ body.map AVal.byte) = C.map AVal.byte ++ body.map AVal.byte := List.take_of_length_le (by simp [hl1])
      have ht2 : List.take (512 + body.length + 512) (C.map AVal.byte ++ body.map AVal.byte ++ B.map AVal.byte) = C.map AVal.byte ++ body.map AVal.byte ++ B.map AVal.byte := List.take_of_length_le (by simp [hl0, hl1]; omega)
      simp only [padOV, padOH, hpb0, if_true] at hpb
      cases hdt : e.data with
      | nil =>
        simp only [hdt, BS.l, av_nil] at h110
        have e5 : padN 0 = 0 := rfl
        simp only [padV, padH, BS.l, List.length_nil, e5, if_true, BS.clipped, av_nil] at h110
        have e6 : padL ([] : List UInt8) = [] := rfl
        simp only [BS.l, e6, List.length_nil, List.map_nil]
        simp only [Ent.av, hdt, av_nil] at h21 h111
        (simp (maxSteps := 2000000) (disch := omega) only [b66, h21, h111, h70, h110, h109, h70x, h56, hpb, hdt, hx2, hx3, hx4, hl0, hl1, Nat.min_self, mk_av, ht1, ht2, e8, go_sem]) <;> repeat' (first | ((first | refine gd_dec ?_ ?_ | refine gd_ndec ?_ ?_ | refine cd_dec ?_ ?_ | refine cd_ndec ?_ ?_ | refine gdd_dec ?_ ?_ | refine gdd_ndec ?_ ?_ | refine gd_of ?_ ?_ | refine cd_of ?_ ?_ | refine gdd_of ?_ ?_) <;> intro hg <;> first | (exfalso; omega) | (simp (maxSteps := 2000000) (disch := omega) only [hg, b66, h21, h111, h70, h110, h109, h70x, h56, hpb, hdt, hx2, hx3, hx4, hl0, hl1, Nat.min_self, mk_av, ht1, ht2, e8, go_sem])) | (refine And.intro ?_ ?_; focus omega) | omega)
      | mk c t l =>
        simp only [hdt, BS.l, mk_av] at h110 hpl hpn hd
        simp only [Ent.av, hdt, mk_av] at h21 h111
        simp only [padV, padH, BS.l, BS.clipped, mk_av] at h110
        simp only [BS.l]
        by_cases hp : padN l.length = 0
        · simp only [hp, if_true] at h110
          have e7 : padL l = l := by simp [padL, hp]
          rw [e7]
          (simp (maxSteps := 2000000) (disch := omega) only [b66, h21, h111, h70, h110, h109, h70x, h56, hpb, hdt, hx2, hx3, hx4, hl0, hl1, Nat.min_self, mk_av, ht1, ht2, e8, go_sem]) <;> repeat' (first | ((first | refine gd_dec ?_ ?_ | refine gd_ndec ?_ ?_ | refine cd_dec ?_ ?_ | refine cd_ndec ?_ ?_ | refine gdd_dec ?_ ?_ | refine gdd_ndec ?_ ?_ | refine gd_of ?_ ?_ | refine cd_of ?_ ?_ | refine gdd_of ?_ ?_) <;> intro hg <;> first | (exfalso; omega) | (simp (maxSteps := 2000000) (disch := omega) only [hg, b66, h21, h111, h70, h110, h109, h70x, h56, hpb, hdt, hx2, hx3, hx4, hl0, hl1, Nat.min_self, mk_av, ht1, ht2, e8, go_sem])) | (refine And.intro ?_ ?_; focus omega) | omega)
        · simp only [hp, if_false] at h110
          (simp (maxSteps := 2000000) (disch := omega) only [b66, h21, h111, h70, h110, h109, h70x, h56, hpb, hdt, hx2, hx3, hx4, hl0, hl1, Nat.min_self, mk_av, ht1, ht2, e8, go_sem]) <;> repeat' (first | ((first | refine gd_dec ?_ ?_ | refine gd_ndec ?_ ?_ | refine cd_dec ?_ ?_ | refine cd_ndec ?_ ?_ | refine gdd_dec ?_ ?_ | refine gdd_ndec ?_ ?_ | refine gd_of ?_ ?_ | refine cd_of ?_ ?_ | refine gdd_of ?_ ?_) <;> intro hg <;> first | (exfalso; omega) | (simp (maxSteps := 2000000) (disch := omega) only [hg, b66, h21, h111, h70, h110, h109, h70x, h56, hpb, hdt, hx2, hx3, hx4, hl0, hl1, Nat.min_self, mk_av, ht1, ht2, e8, go_sem])) | (refine And.intro ?_ ?_; focus omega) | omega)
    · have ht1 : List.take (512 + (padL body).length) (C.map AVal.byte ++ (padL body).map AVal.byte) = C.map AVal.byte ++ (padL body).map AVal.byte := List.take_of_length_le (by simp [hl1])
      have ht2 : List.take (512 + (padL body).length + 512) (C.map AVal.byte ++ (padL body).map AVal.byte ++ B.map AVal.byte) = C.map AVal.byte ++ (padL body).map AVal.byte ++ B.map AVal.byte := List.take_of_length_le (by simp [hl0, hl1]; omega)
      simp only [padOV, padOH, hpb0, if_false] at hpb
      cases hdt : e.data with
      | nil =>
        simp only [hdt, BS.l, av_nil] at h110
        have e5 : padN 0 = 0 := rfl
        simp only [padV, padH, BS.l, List.length_nil, e5, if_true, BS.clipped, av_nil] at h110
        have e6 : padL ([] : List UInt8) = [] := rfl
        simp only [BS.l, e6, List.length_nil, List.map_nil]
        simp only [Ent.av, hdt, av_nil] at h21 h111
        (simp (maxSteps := 2000000) (disch := omega) only [b66, h21, h111, h70, h110, h109, h70x, h56, hpb, hdt, hx2, hx3, hx4, hl0, hl1, Nat.min_self, mk_av, ht1, ht2, go_sem]) <;> repeat' (first | ((first | refine gd_dec ?_ ?_ | refine gd_ndec ?_ ?_ | refine cd_dec ?_ ?_ | refine cd_ndec ?_ ?_ | refine gdd_dec ?_ ?_ | refine gdd_ndec ?_ ?_ | refine gd_of ?_ ?_ | refine cd_of ?_ ?_ | refine gdd_of ?_ ?_) <;> intro hg <;> first | (exfalso; omega) | (simp (maxSteps := 2000000) (disch := omega) only [hg, b66, h21, h111, h70, h110, h109, h70x, h56, hpb, hdt, hx2, hx3, hx4, hl0, hl1, Nat.min_self, mk_av, ht1, ht2, go_sem])) | (refine And.intro ?_ ?_; focus omega) | omega)
      | mk c t l =>
        simp only [hdt, BS.l, mk_av] at h110 hpl hpn hd
        simp only [Ent.av, hdt, mk_av] at h21 h111
        simp only [padV, padH, BS.l, BS.clipped, mk_av] at h110
        simp only [BS.l]
        by_cases hp : padN l.length = 0
        · simp only [hp, if_true] at h110
          have e7 : padL l = l := by simp [padL, hp]
          rw [e7]
          (simp (maxSteps := 2000000) (disch := omega) only [b66, h21, h111, h70, h110, h109, h70x, h56, hpb, hdt, hx2, hx3, hx4, hl0, hl1, Nat.min_self, mk_av, ht1, ht2, go_sem]) <;> repeat' (first | ((first | refine gd_dec ?_ ?_ | refine gd_ndec ?_ ?_ | refine cd_dec ?_ ?_ | refine cd_ndec ?_ ?_ | refine gdd_dec ?_ ?_ | refine gdd_ndec ?_ ?_ | refine gd_of ?_ ?_ | refine cd_of ?_ ?_ | refine gdd_of ?_ ?_) <;> intro hg <;> first | (exfalso; omega) | (simp (maxSteps := 2000000) (disch := omega) only [hg, b66, h21, h111, h70, h110, h109, h70x, h56, hpb, hdt, hx2, hx3, hx4, hl0, hl1, Nat.min_self, mk_av, ht1, ht2, go_sem])) | (refine And.intro ?_ ?_; focus omega) | omega)
        · simp only [hp, if_false] at h110
          (simp (maxSteps := 2000000) (disch := omega) only [b66, h21, h111, h70, h110, h109, h70x, h56, hpb, hdt, hx2, hx3, hx4, hl0, hl1, Nat.min_self, mk_av, ht1, ht2, go_sem]) <;> repeat' (first | ((first | refine gd_dec ?_ ?_ | refine gd_ndec ?_ ?_ | refine cd_dec ?_ ?_ | refine cd_ndec ?_ ?_ | refine gdd_dec ?_ ?_ | refine gdd_ndec ?_ ?_ | refine gd_of ?_ ?_ | refine cd_of ?_ ?_ | refine gdd_of ?_ ?_) <;> intro hg <;> first | (exfalso; omega) | (simp (maxSteps := 2000000) (disch := omega) only [hg, b66, h21, h111, h70, h110, h109, h70x, h56, hpb, hdt, hx2, hx3, hx4, hl0, hl1, Nat.min_self, mk_av, ht1, ht2, go_sem])) | (refine And.intro ?_ ?_; focus omega) | omega)
end Go.Abs
