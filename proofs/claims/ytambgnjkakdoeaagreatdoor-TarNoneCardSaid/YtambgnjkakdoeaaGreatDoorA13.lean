import Derived.Test.YtambgnjkakdoeaaGreatDoorA12
/- PART OF A PROOF (texts joined by a program): Q1 F25 F26 F27 F28 F29 F30 F31 F32 F33. -/
set_option linter.unusedVariables false
set_option linter.unusedSimpArgs false
set_option linter.unusedSectionVars false
/- PLAIN: a header's block, field by field; what it says. -/
namespace Go.Abs
open Am
set_option maxRecDepth 10000
set_option linter.unusedSimpArgs false
abbrev zs (n : Nat) : List UInt8 := List.replicate n 0
/-- digits in octal -/
def octD : Nat → Int → List UInt8
  | 0, _ => []
  | k + 1, n => octD k (n / 8) ++ [UInt8.ofNat (48 + n % 8).toNat]
theorem octD_length : ∀ (k : Nat) (n : Int), (octD k n).length = k
  | 0, _ => rfl
  | k + 1, n => by simp [octD, octD_length k]
theorem set_split {α : Type} {a r : List α} {x y : α} {n : Nat} (h : n = a.length) : (a ++ x :: r).set n y = a ++ y :: r := by subst h; simp
theorem zs_add (m n : Nat) : zs (m + n) = zs m ++ zs n := (List.replicate_append_replicate ..).symm
theorem zs_split {m n : Nat} (h : m ≤ n) : zs n = zs m ++ zs (n - m) := by
  rw [← zs_add]
  congr 1
  omega
theorem octW_mid : ∀ (k : Nat) (a x c : List UInt8) (pos : Nat) (n : Int), pos = a.length → x.length = k → octW (a ++ x ++ c) pos k n = a ++ octD k n ++ c
  | 0, a, x, c, pos, n, h1, h2 => by
    have : x = [] := List.eq_nil_of_length_eq_zero h2
    subst this
    rfl
  | k + 1, a, x, c, pos, n, h1, h2 => by
    obtain ⟨y, z, rfl⟩ : ∃ y z, x = y ++ [z] := by
      refine ⟨x.take k, x.getD k 0, ?_⟩
      have hlt : k < x.length := by omega
      have e : x.getD k 0 = x[k] := by rw [List.getD, List.getElem?_eq_getElem hlt]; rfl
      rw [e, List.take_append_getElem hlt, List.take_of_length_le (by omega)]
    have hy : y.length = k := by simpa using h2
    have hs : (a ++ (y ++ [z]) ++ c).set (pos + k) (UInt8.ofNat (48 + n % 8).toNat) = a ++ y ++ (UInt8.ofNat (48 + n % 8).toNat :: c) := by
      have : a ++ (y ++ [z]) ++ c = (a ++ y) ++ z :: c := by simp
      rw [this, set_split (by simp [h1, hy])]
    unfold octW
    rw [hs, octW_mid k a y _ pos _ h1 hy]
    simp [octD]
theorem octW_tail {A : List UInt8} {n pos k : Nat} {v : Int} (j : Nat) (h1 : pos = A.length + j) (h2 : j + k ≤ n) : octW (A ++ zs n) pos k v = (A ++ zs j ++ octD k v) ++ zs (n - j - k) := by
  have e : A ++ zs n = (A ++ zs j) ++ zs k ++ zs (n - j - k) := by
    rw [zs_split (m := j) (n := n) (by omega), zs_split (m := k) (n := n - j) (by omega)]
    simp only [List.append_assoc]
  rw [e, octW_mid k _ _ _ pos v (by simp [h1]) (by simp)]
theorem putA_tail {A xs : List UInt8} {n pos k : Nat} (j : Nat) (h1 : pos = A.length + j) (h2 : j + k ≤ n) (h3 : xs.length ≤ k) : putA (A ++ zs n) pos k xs = (A ++ zs j ++ xs) ++ zs (n - j - xs.length) := by
  have e : A ++ zs n = (A ++ zs j) ++ (zs xs.length ++ zs (n - j - xs.length)) := by
    rw [zs_split (m := j) (n := n) (by omega), zs_split (m := xs.length) (n := n - j) (by omega)]
    simp only [List.append_assoc]
  have hm : min xs.length k = xs.length := by omega
  unfold putA
  rw [hm, List.take_of_length_le (Nat.le_refl _), e]
  have h4 : ((A ++ zs j) ++ (zs xs.length ++ zs (n - j - xs.length))).take pos = A ++ zs j := by
    rw [List.take_left' (by simp [h1])]
  have h5 : ((A ++ zs j) ++ (zs xs.length ++ zs (n - j - xs.length))).drop (pos + xs.length) = zs (n - j - xs.length) := by
    rw [← List.append_assoc, List.drop_left' (by simp [h1]; omega)]
  rw [h4, h5]
theorem set_tail {A : List UInt8} {n pos : Nat} {v : UInt8} (j : Nat) (h1 : pos = A.length + j) (h2 : j + 1 ≤ n) : (A ++ zs n).set pos v = (A ++ zs j ++ [v]) ++ zs (n - j - 1) := by
  have e : A ++ zs n = (A ++ zs j) ++ 0 :: zs (n - j - 1) := by
    rw [zs_split (m := j) (n := n) (by omega), zs_split (m := 1) (n := n - j) (by omega)]
    simp only [List.append_assoc]
    rfl
  rw [e, set_split (by simp [h1])]
  simp
/-- a text, filled up -/
def fillT (s : List UInt8) (n : Nat) : List UInt8 := s ++ zs (n - s.length)
theorem fillT_length {s : List UInt8} {n : Nat} (h : s.length ≤ n) : (fillT s n).length = n := by
  simp [fillT]
  omega
/-- the fields ahead of the sum; behind it -/
def blkA (h : Hd) (name : List UInt8) : List UInt8 := fillT name 100 ++ octD 7 h.mode ++ [0] ++ octD 7 h.uid ++ [0] ++ octD 7 h.gid ++ [0] ++ octD 11 h.size ++ [0] ++ octD 11 h.time ++ [0]
def blkZ (h : Hd) (pre : List UInt8) : List UInt8 := [h.type] ++ fillT h.link 100 ++ magicB ++ zs 64 ++ octD 7 0 ++ [0] ++ octD 7 0 ++ [0] ++ fillT pre 155 ++ zs 12
theorem blkA_length {h : Hd} {name : List UInt8} (h1 : name.length ≤ 100) : (blkA h name).length = 148 := by
  simp [blkA, fillT_length h1, octD_length]
theorem blkZ_length {h : Hd} {pre : List UInt8} (h1 : pre.length ≤ 155) (h2 : h.link.length ≤ 100) : (blkZ h pre).length = 356 := by
  simp [blkZ, fillT_length h1, fillT_length h2, octD_length, magicB]
theorem zs_one : ([0] : List UInt8) = zs 1 := rfl
theorem encH_eq {h : Hd} {pre name : List UInt8} (h1 : name.length ≤ 100) (h2 : pre.length ≤ 155) (h3 : h.link.length ≤ 100) : encH h pre name = blkA h name ++ zs 8 ++ blkZ h pre := by
  have e0 : zeros512 = [] ++ zs 512 := rfl
  have hm : magicB.length = 8 := rfl
  unfold encH
  simp only []
  rw [e0, putA_tail 0 (by simp) (by omega) (by omega)]
  rw [octW_tail (100 - name.length) (by simp; omega) (by omega)]
  rw [octW_tail 1 (by simp [octD_length]; omega) (by omega)]
  rw [octW_tail 1 (by simp [octD_length]; omega) (by omega)]
  rw [octW_tail 1 (by simp [octD_length]; omega) (by omega)]
  rw [octW_tail 1 (by simp [octD_length]; omega) (by omega)]
  rw [set_tail 9 (by simp [octD_length]; omega) (by omega)]
  rw [putA_tail 0 (by simp [octD_length]; omega) (by omega) (by omega)]
  rw [putA_tail (100 - h.link.length) (by simp [octD_length]; omega) (by omega) (by rw [hm]; omega)]
  rw [octW_tail 64 (by simp [octD_length, hm]; omega) (by rw [hm]; omega)]
  rw [octW_tail 1 (by simp [octD_length, hm]; omega) (by rw [hm]; omega)]
  rw [putA_tail 1 (by simp [octD_length, hm]; omega) (by rw [hm]; omega) (by omega)]
  have e9 : zs 9 = [0] ++ zs 8 := rfl
  have en : 512 - 0 - name.length - (100 - name.length) - 7 - 1 - 7 - 1 - 7 - 1 - 11 - 1 - 11 - 9 - 1 - 0 - h.link.length - (100 - h.link.length) - magicB.length - 64 - 7 - 1 - 7 - 1 - pre.length = (155 - pre.length) + 12 := by rw [hm]; omega
  rw [en]
  have e0' : zs 0 = [] := rfl
  unfold blkA blkZ fillT
  rw [e9, zs_add (155 - pre.length) 12, ← zs_one, e0']
  simp only [List.append_assoc, List.nil_append, List.append_nil]
/-- the sum -/
def sumV (h : Hd) (pre name : List UInt8) : Int := 256 + sumL 0 (blkA h name ++ zs 8 ++ blkZ h pre)
def sumD (n : Int) : List UInt8 := octD 6 n ++ [0, 32]
/-- a block, field by field -/
def blk (h : Hd) (pre name : List UInt8) : List UInt8 := blkA h name ++ sumD (sumV h pre name) ++ blkZ h pre
theorem encB_blk {h : Hd} (h1 : (splitN h.path).2.1.length ≤ 100) (h2 : (splitN h.path).1.length ≤ 155) (h3 : h.link.length ≤ 100) : encB h = blk h (splitN h.path).1 (splitN h.path).2.1 := by
  unfold encB
  simp only []
  rw [encH_eq h1 h2 h3]
  generalize (splitN h.path).1 = pre at *
  generalize (splitN h.path).2.1 = name at *
  have e : blkA h name ++ zs 8 ++ blkZ h pre = blkA h name ++ zs 6 ++ ([0, 0] ++ blkZ h pre) := by
    have : zs 8 = zs 6 ++ [0, 0] := rfl
    rw [this]
    simp
  show (octW _ 148 6 (sumV h pre name)).set 155 32 = _
  rw [e, octW_mid 6 _ _ _ 148 _ (blkA_length h1).symm (by simp)]
  have e2 : blkA h name ++ octD 6 (sumV h pre name) ++ ([0, 0] ++ blkZ h pre) = (blkA h name ++ octD 6 (sumV h pre name) ++ [0]) ++ 0 :: blkZ h pre := by simp
  rw [e2, set_split (by simp [blkA_length h1, octD_length])]
  simp [blk, sumD]
/-! ## what a block says -/
theorem aheadOf_app (x : UInt8) : ∀ (s r : List UInt8), (∀ c ∈ s, c ≠ x) → aheadOf x (s ++ r) = s ++ aheadOf x r
  | [], r, _ => rfl
  | c :: s, r, h => by
    have hc : c ≠ x := h c (by simp)
    show (if c = x then [] else c :: aheadOf x (s ++ r)) = _
    rw [if_neg hc, aheadOf_app x s r fun y hy => h y (by simp [hy])]
    rfl
theorem aheadOf_zs (n : Nat) : aheadOf 0 (zs n) = [] := by
  cases n <;> simp [zs, aheadOf, List.replicate_succ]
theorem aheadOf_fill {s : List UInt8} {n : Nat} (h : ∀ c ∈ s, c ≠ 0) : aheadOf 0 (fillT s n) = s := by
  unfold fillT
  rw [aheadOf_app 0 s _ h, aheadOf_zs, List.append_nil]
theorem numF_app : ∀ (a b : List UInt8) (acc : Int), numF acc (a ++ b) = numF (numF acc a) b
  | [], b, acc => rfl
  | c :: a, b, acc => by
    show numF (acc * 8 + (c.toNat : Int) % 8) (a ++ b) = _
    rw [numF_app a b]
    rfl
theorem oct_digit (n : Int) : ((UInt8.ofNat (48 + n % 8).toNat).toNat : Int) % 8 = n % 8 := by
  have h : (UInt8.ofNat (48 + n % 8).toNat).toNat = (48 + n % 8).toNat := UInt8.toNat_ofNat_of_lt' (by simp [UInt8.size]; omega)
  rw [h]
  omega
theorem numF_oct : ∀ (k : Nat) (n : Int), 0 ≤ n → n < 8 ^ k → numF 0 (octD k n) = n
  | 0, n, h0, h1 => by
    simp at h1
    have : n = 0 := by omega
    rw [this]
    rfl
  | k + 1, n, h0, h1 => by
    have hd : n / 8 < 8 ^ k := by
      rw [Int.pow_succ] at h1
      omega
    unfold octD
    rw [numF_app, numF_oct k (n / 8) (by omega) hd]
    show n / 8 * 8 + ((UInt8.ofNat (48 + n % 8).toNat).toNat : Int) % 8 = n
    rw [oct_digit]
    omega
theorem dt_mid {α : Type} {a x c : List α} {i n : Nat} (h1 : i = a.length) (h2 : n = x.length) : ((a ++ (x ++ c)).drop i).take n = x := by
  rw [List.drop_left' h1.symm, List.take_left' h2.symm]
theorem ascii_ne {s : List UInt8} (h : asciiB s = true) : ∀ c ∈ s, c ≠ 0 := by
  intro c hc
  unfold asciiB at h
  have := List.all_eq_true.1 h c hc
  unfold okByte at this
  rintro rfl
  simp at this
theorem spAt_ok {p : List UInt8} : ∀ (k i : Nat), (spAt p k i).2.2 = true → ∃ j, spOk p j = true ∧ spAt p k i = (p.take j, p.drop (j + 1), true)
  | 0, _, h => by cases h
  | k + 1, i, h => by
    unfold spAt at h ⊢
    by_cases c : spOk p i = true
    · rw [if_pos c]
      exact ⟨i, c, rfl⟩
    · rw [if_neg c] at h ⊢
      exact spAt_ok k (i + 1) h
/-- a path's parts -/
theorem splitN_ok {p : List UInt8} (h : (splitN p).2.2 = true) : asciiB p = true ∧ (splitN p).1.length ≤ 155 ∧ (splitN p).2.1.length ≤ 100 ∧ (splitN p).2.1 ≠ [] ∧
    ((splitN p).1 = [] ∧ (splitN p).2.1 = p ∨ (splitN p).1 ≠ [] ∧ p = (splitN p).1 ++ [47] ++ (splitN p).2.1) := by
  unfold splitN at h ⊢
  by_cases c1 : p = [] ∨ asciiB p = false
  · rw [if_pos c1] at h; cases h
  rw [if_neg c1] at h ⊢
  have ha : asciiB p = true := by
    cases ha : asciiB p with
    | true => rfl
    | false => exact (c1 (.inr ha)).elim
  have hn : p ≠ [] := fun hp => c1 (.inl hp)
  by_cases c2 : p.length ≤ 100
  · rw [if_pos c2]
    exact ⟨ha, by simp, c2, hn, .inl ⟨rfl, rfl⟩⟩
  rw [if_neg c2] at h ⊢
  obtain ⟨j, hj, he⟩ := spAt_ok _ _ h
  rw [he]
  unfold spOk at hj
  simp only [Bool.and_eq_true, decide_eq_true_eq] at hj
  obtain ⟨⟨⟨⟨j1, j2⟩, j3⟩, j4⟩, j5⟩ := hj
  refine ⟨ha, by simp; omega, by simp; omega, ?_, .inr ⟨?_, ?_⟩⟩
  · intro hd
    have := congrArg List.length hd
    rw [List.length_drop, List.length_nil] at this
    omega
  · intro hd
    have := congrArg List.length hd
    rw [List.length_take, List.length_nil] at this
    omega
  · have hlt : j < p.length := by omega
    have hg : p[j] = 47 := by
      have := List.getElem?_eq_getElem hlt
      rw [this] at j1
      exact Option.some.inj j1
    have : p = p.take j ++ p.drop j := (List.take_append_drop j p).symm
    rw [List.drop_eq_getElem_cons hlt, hg] at this
    simpa using this
structure FitsH (h : Hd) : Prop where
  mode : 0 ≤ h.mode ∧ h.mode < 2097152
  uid : 0 ≤ h.uid ∧ h.uid < 2097152
  gid : 0 ≤ h.gid ∧ h.gid < 2097152
  size : 0 ≤ h.size ∧ h.size < 8589934592
  time : 0 ≤ h.time ∧ h.time < 8589934592
  link : h.link.length ≤ 100 ∧ asciiB h.link = true
theorem linkB_iff {l : List UInt8} (h : linkB l = true) : l ≠ [] ∧ l.length ≤ 100 ∧ asciiB l = true := by
  unfold linkB at h
  simp only [Bool.and_eq_true, decide_eq_true_eq] at h
  exact ⟨h.1.1, by omega, h.2⟩
theorem fitsH_of {h : Hd} (hf : fitsB h = true) : FitsH h := by
  unfold fitsB at hf
  simp only [Bool.and_eq_true] at hf
  obtain ⟨⟨⟨⟨⟨f1, f2⟩, f3⟩, f4⟩, f5⟩, f6⟩ := hf
  refine ⟨idB_iff.1 f1, idB_iff.1 f2, idB_iff.1 f3, timeB_iff.1 f4, timeB_iff.1 f5, ?_⟩
  have hn : h.link = [] → h.link.length ≤ 100 ∧ asciiB h.link = true := by
    intro hl
    rw [hl]
    exact ⟨by simp, rfl⟩
  split at f6
  · simp only [Bool.and_eq_true] at f6
    exact (linkB_iff f6.1).2
  · split at f6
    · simp only [Bool.and_eq_true, decide_eq_true_eq] at f6
      exact hn f6.1
    · split at f6
      · exact hn (by simpa using f6)
      · cases f6
theorem decH_blk {h : Hd} {pre name : List UInt8} (s : List UInt8) (hs : s.length = 8) (hf : FitsH h) (h1 : name.length ≤ 100) (h2 : pre.length ≤ 155) (h3 : ∀ c ∈ name, c ≠ 0) (h4 : ∀ c ∈ pre, c ≠ 0) : decH (blkA h name ++ s ++ blkZ h pre) = ⟨if pre = [] then name else pre ++ [47] ++ name, h.mode, h.uid, h.gid, h.size, h.time, h.type, h.link⟩ := by
  have l1 := fillT_length h1
  have l2 := fillT_length h2
  have l3 := fillT_length hf.link.1
  have o7 := octD_length 7
  have o11 := octD_length 11
  have hm : magicB.length = 8 := rfl
  have p7 : (8 : Int) ^ 7 = 2097152 := rfl
  have p11 : (8 : Int) ^ 11 = 8589934592 := rfl
  have c1 : textF (blkA h name ++ s ++ blkZ h pre) 0 100 = name := by
    unfold textF blkA
    have e : ((fillT name 100 ++ octD 7 h.mode ++ [0] ++ octD 7 h.uid ++ [0] ++ octD 7 h.gid ++ [0] ++ octD 11 h.size ++ [0] ++ octD 11 h.time ++ [0] ++ s ++ blkZ h pre).drop 0).take 100 = fillT name 100 := by
      simp only [List.append_assoc]
      exact dt_mid (a := []) (by simp) l1.symm
    rw [e, aheadOf_fill h3]
  have c2 : numF 0 (((blkA h name ++ s ++ blkZ h pre).drop 100).take 7) = h.mode := by
    have e : ((blkA h name ++ s ++ blkZ h pre).drop 100).take 7 = octD 7 h.mode := by
      unfold blkA
      simp only [List.append_assoc]
      exact dt_mid (a := fillT name 100) (by simp [l1]) (o7 _).symm
    rw [e, numF_oct 7 _ hf.mode.1 (by rw [p7]; exact hf.mode.2)]
  have c3 : numF 0 (((blkA h name ++ s ++ blkZ h pre).drop 108).take 7) = h.uid := by
    have e : ((blkA h name ++ s ++ blkZ h pre).drop 108).take 7 = octD 7 h.uid := by
      unfold blkA
      have := dt_mid (a := fillT name 100 ++ octD 7 h.mode ++ [0]) (x := octD 7 h.uid) (c := [0] ++ octD 7 h.gid ++ [0] ++ octD 11 h.size ++ [0] ++ octD 11 h.time ++ [0] ++ s ++ blkZ h pre) (i := 108) (n := 7) (by simp [l1, o7]) (o7 _).symm
      simpa only [List.append_assoc] using this
    rw [e, numF_oct 7 _ hf.uid.1 (by rw [p7]; exact hf.uid.2)]
  have c4 : numF 0 (((blkA h name ++ s ++ blkZ h pre).drop 116).take 7) = h.gid := by
    have e : ((blkA h name ++ s ++ blkZ h pre).drop 116).take 7 = octD 7 h.gid := by
      unfold blkA
      have := dt_mid (a := fillT name 100 ++ octD 7 h.mode ++ [0] ++ octD 7 h.uid ++ [0]) (x := octD 7 h.gid) (c := [0] ++ octD 11 h.size ++ [0] ++ octD 11 h.time ++ [0] ++ s ++ blkZ h pre) (i := 116) (n := 7) (by simp [l1, o7]) (o7 _).symm
      simpa only [List.append_assoc] using this
    rw [e, numF_oct 7 _ hf.gid.1 (by rw [p7]; exact hf.gid.2)]
  have c5 : numF 0 (((blkA h name ++ s ++ blkZ h pre).drop 124).take 11) = h.size := by
    have e : ((blkA h name ++ s ++ blkZ h pre).drop 124).take 11 = octD 11 h.size := by
      unfold blkA
      have := dt_mid (a := fillT name 100 ++ octD 7 h.mode ++ [0] ++ octD 7 h.uid ++ [0] ++ octD 7 h.gid ++ [0]) (x := octD 11 h.size) (c := [0] ++ octD 11 h.time ++ [0] ++ s ++ blkZ h pre) (i := 124) (n := 11) (by simp [l1, o7]) (o11 _).symm
      simpa only [List.append_assoc] using this
    rw [e, numF_oct 11 _ hf.size.1 (by rw [p11]; exact hf.size.2)]
  have c6 : numF 0 (((blkA h name ++ s ++ blkZ h pre).drop 136).take 11) = h.time := by
    have e : ((blkA h name ++ s ++ blkZ h pre).drop 136).take 11 = octD 11 h.time := by
      unfold blkA
      have := dt_mid (a := fillT name 100 ++ octD 7 h.mode ++ [0] ++ octD 7 h.uid ++ [0] ++ octD 7 h.gid ++ [0] ++ octD 11 h.size ++ [0]) (x := octD 11 h.time) (c := [0] ++ s ++ blkZ h pre) (i := 136) (n := 11) (by simp [l1, o7, o11]) (o11 _).symm
      simpa only [List.append_assoc] using this
    rw [e, numF_oct 11 _ hf.time.1 (by rw [p11]; exact hf.time.2)]
  have hA : (blkA h name ++ s).length = 156 := by simp [blkA_length h1, hs]
  have c7 : (blkA h name ++ s ++ blkZ h pre).getD 156 0 = h.type := by
    rw [List.getD, List.getElem?_append_right (by omega), hA]
    rfl
  have c8 : textF (blkA h name ++ s ++ blkZ h pre) 157 100 = h.link := by
    have e : ((blkA h name ++ s ++ blkZ h pre).drop 157).take 100 = fillT h.link 100 := by
      have := dt_mid (a := blkA h name ++ s ++ [h.type]) (x := fillT h.link 100) (c := magicB ++ zs 64 ++ octD 7 0 ++ [0] ++ octD 7 0 ++ [0] ++ fillT pre 155 ++ zs 12) (i := 157) (n := 100) (by rw [List.length_append, hA]; rfl) l3.symm
      unfold blkZ
      simpa only [List.append_assoc] using this
    unfold textF
    rw [e, aheadOf_fill (ascii_ne hf.link.2)]
  have c9 : textF (blkA h name ++ s ++ blkZ h pre) 345 155 = pre := by
    have e : ((blkA h name ++ s ++ blkZ h pre).drop 345).take 155 = fillT pre 155 := by
      have := dt_mid (a := blkA h name ++ s ++ ([h.type] ++ fillT h.link 100 ++ magicB ++ zs 64 ++ octD 7 0 ++ [0] ++ octD 7 0 ++ [0])) (x := fillT pre 155) (c := zs 12) (i := 345) (n := 155) (by rw [List.length_append, hA]; simp [l3, hm, o7]) l2.symm
      unfold blkZ
      simpa only [List.append_assoc] using this
    unfold textF
    rw [e, aheadOf_fill h4]
  unfold decH
  rw [c1, c2, c3, c4, c5, c6, c7, c8, c9]
theorem encOk_parts {h : Hd} (hok : encOk h = true) : (splitN h.path).2.2 = true ∧ FitsH h := by
  unfold encOk at hok
  simp only [Bool.and_eq_true] at hok
  exact ⟨hok.1, fitsH_of hok.2⟩
/-- THERE AND BACK: headers -/
theorem decH_encB {h : Hd} (hok : encOk h = true) : decH (encB h) = h := by
  obtain ⟨k1, hf⟩ := encOk_parts hok
  obtain ⟨ha, s1, s2, s3, s4⟩ := splitN_ok k1
  rw [encB_blk s2 s1 hf.link.1]
  have ne := ascii_ne ha
  have n1 : ∀ c ∈ (splitN h.path).2.1, c ≠ 0 := by
    intro c hc
    rcases s4 with ⟨_, e⟩ | ⟨_, e⟩
    · exact ne c (by rw [← e]; exact hc)
    · exact ne c (by rw [e]; simp [hc])
  have n2 : ∀ c ∈ (splitN h.path).1, c ≠ 0 := by
    intro c hc
    rcases s4 with ⟨e, _⟩ | ⟨_, e⟩
    · rw [e] at hc; cases hc
    · exact ne c (by rw [e]; simp [hc])
  unfold blk
  rw [decH_blk _ (by simp [sumD, octD_length]) hf s2 s1 n1 n2]
  rcases s4 with ⟨e1, e2⟩ | ⟨e1, e2⟩
  · rw [if_pos e1, e2]
  · rw [if_neg e1, ← e2]
theorem decOk_encB {h : Hd} (hok : encOk h = true) : decOk (encB h) = true := by
  unfold decOk
  rw [decH_encB hok, hok]
  simp
end Go.Abs
/- ARCHIVES, READ: what records tell. -/
namespace Go.Abs
open Am
set_option maxRecDepth 10000
set_option linter.unusedSimpArgs false
/-- what an entry's place holds: its data nil, or a row of one's own -/
def entCs (e : Ent) (d : AVal) : List AVal := [.str e.path, .int .i64 e.kind, .int .i64 e.mode, .int .i64 e.uid, .int .i64 e.gid, .int .i64 e.time, .str e.link, d]
attribute [go_sem] entCs
theorem numErr_eq : numErr = .iface 227 .junk := rfl
theorem s144_3n (e : Ent) (s : List UInt8) (hs : s.length ≤ 1000000) : callT AA 144 [.ptr 0 3, .str s] [(0, .var (entCs e (.lit (.slice none 0 0))))] = some (.bool (atoiOk s), [(0, .var (entCs { e with uid := atoiV s } (.lit (.slice none 0 0))))]) := by
  have h := call118 (s := s) (by omega)
  rw [numErr_eq] at h
  generalize atoiV s = N at *
  refine enter fn144 np144 rfl ?_
  cases c : atoiOk s with
  | true =>
    rw [c] at h
    (simp (maxSteps := 2000000) (disch := omega) only [b144, h, go_sem, Nat.reduceAdd, Nat.reduceSub, Nat.reduceMul, Nat.reduceLT, Nat.reduceLeDiff, Nat.reduceEqDiff, Nat.reduceBEq, Int.reduceLT, Int.reduceLE, Int.reduceEq, Int.reduceToNat, ↓reduceIte, reduceCtorEq]) <;> repeat' (first | ((first | refine gd_dec ?_ ?_ | refine gd_ndec ?_ ?_ | refine cd_dec ?_ ?_ | refine cd_ndec ?_ ?_ | refine gdd_dec ?_ ?_ | refine gdd_ndec ?_ ?_ | refine gd_of ?_ ?_ | refine cd_of ?_ ?_ | refine gdd_of ?_ ?_) <;> intro hg <;> first | (exfalso; omega) | (simp (maxSteps := 2000000) (disch := omega) only [hg, b144, h, go_sem, Nat.reduceAdd, Nat.reduceSub, Nat.reduceMul, Nat.reduceLT, Nat.reduceLeDiff, Nat.reduceEqDiff, Nat.reduceBEq, Int.reduceLT, Int.reduceLE, Int.reduceEq, Int.reduceToNat, ↓reduceIte, reduceCtorEq])) | (refine And.intro ?_ ?_; focus omega) | omega)
  | false =>
    rw [c] at h
    (simp (maxSteps := 2000000) (disch := omega) only [b144, h, Bool.false_eq_true, go_sem, Nat.reduceAdd, Nat.reduceSub, Nat.reduceMul, Nat.reduceLT, Nat.reduceLeDiff, Nat.reduceEqDiff, Nat.reduceBEq, Int.reduceLT, Int.reduceLE, Int.reduceEq, Int.reduceToNat, ↓reduceIte, reduceCtorEq]) <;> repeat' (first | ((first | refine gd_dec ?_ ?_ | refine gd_ndec ?_ ?_ | refine cd_dec ?_ ?_ | refine cd_ndec ?_ ?_ | refine gdd_dec ?_ ?_ | refine gdd_ndec ?_ ?_ | refine gd_of ?_ ?_ | refine cd_of ?_ ?_ | refine gdd_of ?_ ?_) <;> intro hg <;> first | (exfalso; omega) | (simp (maxSteps := 2000000) (disch := omega) only [hg, b144, h, Bool.false_eq_true, go_sem, Nat.reduceAdd, Nat.reduceSub, Nat.reduceMul, Nat.reduceLT, Nat.reduceLeDiff, Nat.reduceEqDiff, Nat.reduceBEq, Int.reduceLT, Int.reduceLE, Int.reduceEq, Int.reduceToNat, ↓reduceIte, reduceCtorEq])) | (refine And.intro ?_ ?_; focus omega) | omega)
theorem s144_3o (e : Ent) (s : List UInt8) (n : Nat) (ds : List AVal) (hs : s.length ≤ 1000000) : callT AA 144 [.ptr 0 3, .str s] [(0, .var (entCs e (.own 1 1 0 n false))), (1, .row ds 1)] = some (.bool (atoiOk s), [(0, .var (entCs { e with uid := atoiV s } (.own 1 1 0 n false))), (1, .row ds 1)]) := by
  have h := call118 (s := s) (by omega)
  rw [numErr_eq] at h
  generalize atoiV s = N at *
  refine enter fn144 np144 rfl ?_
  cases c : atoiOk s with
  | true =>
    rw [c] at h
    (simp (maxSteps := 2000000) (disch := omega) only [b144, h, go_sem, Nat.reduceAdd, Nat.reduceSub, Nat.reduceMul, Nat.reduceLT, Nat.reduceLeDiff, Nat.reduceEqDiff, Nat.reduceBEq, Int.reduceLT, Int.reduceLE, Int.reduceEq, Int.reduceToNat, ↓reduceIte, reduceCtorEq]) <;> repeat' (first | ((first | refine gd_dec ?_ ?_ | refine gd_ndec ?_ ?_ | refine cd_dec ?_ ?_ | refine cd_ndec ?_ ?_ | refine gdd_dec ?_ ?_ | refine gdd_ndec ?_ ?_ | refine gd_of ?_ ?_ | refine cd_of ?_ ?_ | refine gdd_of ?_ ?_) <;> intro hg <;> first | (exfalso; omega) | (simp (maxSteps := 2000000) (disch := omega) only [hg, b144, h, go_sem, Nat.reduceAdd, Nat.reduceSub, Nat.reduceMul, Nat.reduceLT, Nat.reduceLeDiff, Nat.reduceEqDiff, Nat.reduceBEq, Int.reduceLT, Int.reduceLE, Int.reduceEq, Int.reduceToNat, ↓reduceIte, reduceCtorEq])) | (refine And.intro ?_ ?_; focus omega) | omega)
  | false =>
    rw [c] at h
    (simp (maxSteps := 2000000) (disch := omega) only [b144, h, Bool.false_eq_true, go_sem, Nat.reduceAdd, Nat.reduceSub, Nat.reduceMul, Nat.reduceLT, Nat.reduceLeDiff, Nat.reduceEqDiff, Nat.reduceBEq, Int.reduceLT, Int.reduceLE, Int.reduceEq, Int.reduceToNat, ↓reduceIte, reduceCtorEq]) <;> repeat' (first | ((first | refine gd_dec ?_ ?_ | refine gd_ndec ?_ ?_ | refine cd_dec ?_ ?_ | refine cd_ndec ?_ ?_ | refine gdd_dec ?_ ?_ | refine gdd_ndec ?_ ?_ | refine gd_of ?_ ?_ | refine cd_of ?_ ?_ | refine gdd_of ?_ ?_) <;> intro hg <;> first | (exfalso; omega) | (simp (maxSteps := 2000000) (disch := omega) only [hg, b144, h, Bool.false_eq_true, go_sem, Nat.reduceAdd, Nat.reduceSub, Nat.reduceMul, Nat.reduceLT, Nat.reduceLeDiff, Nat.reduceEqDiff, Nat.reduceBEq, Int.reduceLT, Int.reduceLE, Int.reduceEq, Int.reduceToNat, ↓reduceIte, reduceCtorEq])) | (refine And.intro ?_ ?_; focus omega) | omega)
theorem s144_4n (e : Ent) (s : List UInt8) (hs : s.length ≤ 1000000) : callT AA 144 [.ptr 0 4, .str s] [(0, .var (entCs e (.lit (.slice none 0 0))))] = some (.bool (atoiOk s), [(0, .var (entCs { e with gid := atoiV s } (.lit (.slice none 0 0))))]) := by
  have h := call118 (s := s) (by omega)
  rw [numErr_eq] at h
  generalize atoiV s = N at *
  refine enter fn144 np144 rfl ?_
  cases c : atoiOk s with
  | true =>
    rw [c] at h
    (simp (maxSteps := 2000000) (disch := omega) only [b144, h, go_sem, Nat.reduceAdd, Nat.reduceSub, Nat.reduceMul, Nat.reduceLT, Nat.reduceLeDiff, Nat.reduceEqDiff, Nat.reduceBEq, Int.reduceLT, Int.reduceLE, Int.reduceEq, Int.reduceToNat, ↓reduceIte, reduceCtorEq]) <;> repeat' (first | ((first | refine gd_dec ?_ ?_ | refine gd_ndec ?_ ?_ | refine cd_dec ?_ ?_ | refine cd_ndec ?_ ?_ | refine gdd_dec ?_ ?_ | refine gdd_ndec ?_ ?_ | refine gd_of ?_ ?_ | refine cd_of ?_ ?_ | refine gdd_of ?_ ?_) <;> intro hg <;> first | (exfalso; omega) | (simp (maxSteps := 2000000) (disch := omega) only [hg, b144, h, go_sem, Nat.reduceAdd, Nat.reduceSub, Nat.reduceMul, Nat.reduceLT, Nat.reduceLeDiff, Nat.reduceEqDiff, Nat.reduceBEq, Int.reduceLT, Int.reduceLE, Int.reduceEq, Int.reduceToNat, ↓reduceIte, reduceCtorEq])) | (refine And.intro ?_ ?_; focus omega) | omega)
  | false =>
    rw [c] at h
    (simp (maxSteps := 2000000) (disch := omega) only [b144, h, Bool.false_eq_true, go_sem, Nat.reduceAdd, Nat.reduceSub, Nat.reduceMul, Nat.reduceLT, Nat.reduceLeDiff, Nat.reduceEqDiff, Nat.reduceBEq, Int.reduceLT, Int.reduceLE, Int.reduceEq, Int.reduceToNat, ↓reduceIte, reduceCtorEq]) <;> repeat' (first | ((first | refine gd_dec ?_ ?_ | refine gd_ndec ?_ ?_ | refine cd_dec ?_ ?_ | refine cd_ndec ?_ ?_ | refine gdd_dec ?_ ?_ | refine gdd_ndec ?_ ?_ | refine gd_of ?_ ?_ | refine cd_of ?_ ?_ | refine gdd_of ?_ ?_) <;> intro hg <;> first | (exfalso; omega) | (simp (maxSteps := 2000000) (disch := omega) only [hg, b144, h, Bool.false_eq_true, go_sem, Nat.reduceAdd, Nat.reduceSub, Nat.reduceMul, Nat.reduceLT, Nat.reduceLeDiff, Nat.reduceEqDiff, Nat.reduceBEq, Int.reduceLT, Int.reduceLE, Int.reduceEq, Int.reduceToNat, ↓reduceIte, reduceCtorEq])) | (refine And.intro ?_ ?_; focus omega) | omega)
theorem s144_4o (e : Ent) (s : List UInt8) (n : Nat) (ds : List AVal) (hs : s.length ≤ 1000000) : callT AA 144 [.ptr 0 4, .str s] [(0, .var (entCs e (.own 1 1 0 n false))), (1, .row ds 1)] = some (.bool (atoiOk s), [(0, .var (entCs { e with gid := atoiV s } (.own 1 1 0 n false))), (1, .row ds 1)]) := by
  have h := call118 (s := s) (by omega)
  rw [numErr_eq] at h
  generalize atoiV s = N at *
  refine enter fn144 np144 rfl ?_
  cases c : atoiOk s with
  | true =>
    rw [c] at h
    (simp (maxSteps := 2000000) (disch := omega) only [b144, h, go_sem, Nat.reduceAdd, Nat.reduceSub, Nat.reduceMul, Nat.reduceLT, Nat.reduceLeDiff, Nat.reduceEqDiff, Nat.reduceBEq, Int.reduceLT, Int.reduceLE, Int.reduceEq, Int.reduceToNat, ↓reduceIte, reduceCtorEq]) <;> repeat' (first | ((first | refine gd_dec ?_ ?_ | refine gd_ndec ?_ ?_ | refine cd_dec ?_ ?_ | refine cd_ndec ?_ ?_ | refine gdd_dec ?_ ?_ | refine gdd_ndec ?_ ?_ | refine gd_of ?_ ?_ | refine cd_of ?_ ?_ | refine gdd_of ?_ ?_) <;> intro hg <;> first | (exfalso; omega) | (simp (maxSteps := 2000000) (disch := omega) only [hg, b144, h, go_sem, Nat.reduceAdd, Nat.reduceSub, Nat.reduceMul, Nat.reduceLT, Nat.reduceLeDiff, Nat.reduceEqDiff, Nat.reduceBEq, Int.reduceLT, Int.reduceLE, Int.reduceEq, Int.reduceToNat, ↓reduceIte, reduceCtorEq])) | (refine And.intro ?_ ?_; focus omega) | omega)
  | false =>
    rw [c] at h
    (simp (maxSteps := 2000000) (disch := omega) only [b144, h, Bool.false_eq_true, go_sem, Nat.reduceAdd, Nat.reduceSub, Nat.reduceMul, Nat.reduceLT, Nat.reduceLeDiff, Nat.reduceEqDiff, Nat.reduceBEq, Int.reduceLT, Int.reduceLE, Int.reduceEq, Int.reduceToNat, ↓reduceIte, reduceCtorEq]) <;> repeat' (first | ((first | refine gd_dec ?_ ?_ | refine gd_ndec ?_ ?_ | refine cd_dec ?_ ?_ | refine cd_ndec ?_ ?_ | refine gdd_dec ?_ ?_ | refine gdd_ndec ?_ ?_ | refine gd_of ?_ ?_ | refine cd_of ?_ ?_ | refine gdd_of ?_ ?_) <;> intro hg <;> first | (exfalso; omega) | (simp (maxSteps := 2000000) (disch := omega) only [hg, b144, h, Bool.false_eq_true, go_sem, Nat.reduceAdd, Nat.reduceSub, Nat.reduceMul, Nat.reduceLT, Nat.reduceLeDiff, Nat.reduceEqDiff, Nat.reduceBEq, Int.reduceLT, Int.reduceLE, Int.reduceEq, Int.reduceToNat, ↓reduceIte, reduceCtorEq])) | (refine And.intro ?_ ?_; focus omega) | omega)
theorem s144_5n (e : Ent) (s : List UInt8) (hs : s.length ≤ 1000000) : callT AA 144 [.ptr 0 5, .str s] [(0, .var (entCs e (.lit (.slice none 0 0))))] = some (.bool (atoiOk s), [(0, .var (entCs { e with time := atoiV s } (.lit (.slice none 0 0))))]) := by
  have h := call118 (s := s) (by omega)
  rw [numErr_eq] at h
  generalize atoiV s = N at *
  refine enter fn144 np144 rfl ?_
  cases c : atoiOk s with
  | true =>
    rw [c] at h
    (simp (maxSteps := 2000000) (disch := omega) only [b144, h, go_sem, Nat.reduceAdd, Nat.reduceSub, Nat.reduceMul, Nat.reduceLT, Nat.reduceLeDiff, Nat.reduceEqDiff, Nat.reduceBEq, Int.reduceLT, Int.reduceLE, Int.reduceEq, Int.reduceToNat, ↓reduceIte, reduceCtorEq]) <;> repeat' (first | ((first | refine gd_dec ?_ ?_ | refine gd_ndec ?_ ?_ | refine cd_dec ?_ ?_ | refine cd_ndec ?_ ?_ | refine gdd_dec ?_ ?_ | refine gdd_ndec ?_ ?_ | refine gd_of ?_ ?_ | refine cd_of ?_ ?_ | refine gdd_of ?_ ?_) <;> intro hg <;> first | (exfalso; omega) | (simp (maxSteps := 2000000) (disch := omega) only [hg, b144, h, go_sem, Nat.reduceAdd, Nat.reduceSub, Nat.reduceMul, Nat.reduceLT, Nat.reduceLeDiff, Nat.reduceEqDiff, Nat.reduceBEq, Int.reduceLT, Int.reduceLE, Int.reduceEq, Int.reduceToNat, ↓reduceIte, reduceCtorEq])) | (refine And.intro ?_ ?_; focus omega) | omega)
  | false =>
    rw [c] at h
    (simp (maxSteps := 2000000) (disch := omega) only [b144, h, Bool.false_eq_true, go_sem, Nat.reduceAdd, Nat.reduceSub, Nat.reduceMul, Nat.reduceLT, Nat.reduceLeDiff, Nat.reduceEqDiff, Nat.reduceBEq, Int.reduceLT, Int.reduceLE, Int.reduceEq, Int.reduceToNat, ↓reduceIte, reduceCtorEq]) <;> repeat' (first | ((first | refine gd_dec ?_ ?_ | refine gd_ndec ?_ ?_ | refine cd_dec ?_ ?_ | refine cd_ndec ?_ ?_ | refine gdd_dec ?_ ?_ | refine gdd_ndec ?_ ?_ | refine gd_of ?_ ?_ | refine cd_of ?_ ?_ | refine gdd_of ?_ ?_) <;> intro hg <;> first | (exfalso; omega) | (simp (maxSteps := 2000000) (disch := omega) only [hg, b144, h, Bool.false_eq_true, go_sem, Nat.reduceAdd, Nat.reduceSub, Nat.reduceMul, Nat.reduceLT, Nat.reduceLeDiff, Nat.reduceEqDiff, Nat.reduceBEq, Int.reduceLT, Int.reduceLE, Int.reduceEq, Int.reduceToNat, ↓reduceIte, reduceCtorEq])) | (refine And.intro ?_ ?_; focus omega) | omega)
theorem s144_5o (e : Ent) (s : List UInt8) (n : Nat) (ds : List AVal) (hs : s.length ≤ 1000000) : callT AA 144 [.ptr 0 5, .str s] [(0, .var (entCs e (.own 1 1 0 n false))), (1, .row ds 1)] = some (.bool (atoiOk s), [(0, .var (entCs { e with time := atoiV s } (.own 1 1 0 n false))), (1, .row ds 1)]) := by
  have h := call118 (s := s) (by omega)
  rw [numErr_eq] at h
  generalize atoiV s = N at *
  refine enter fn144 np144 rfl ?_
  cases c : atoiOk s with
  | true =>
    rw [c] at h
    (simp (maxSteps := 2000000) (disch := omega) only [b144, h, go_sem, Nat.reduceAdd, Nat.reduceSub, Nat.reduceMul, Nat.reduceLT, Nat.reduceLeDiff, Nat.reduceEqDiff, Nat.reduceBEq, Int.reduceLT, Int.reduceLE, Int.reduceEq, Int.reduceToNat, ↓reduceIte, reduceCtorEq]) <;> repeat' (first | ((first | refine gd_dec ?_ ?_ | refine gd_ndec ?_ ?_ | refine cd_dec ?_ ?_ | refine cd_ndec ?_ ?_ | refine gdd_dec ?_ ?_ | refine gdd_ndec ?_ ?_ | refine gd_of ?_ ?_ | refine cd_of ?_ ?_ | refine gdd_of ?_ ?_) <;> intro hg <;> first | (exfalso; omega) | (simp (maxSteps := 2000000) (disch := omega) only [hg, b144, h, go_sem, Nat.reduceAdd, Nat.reduceSub, Nat.reduceMul, Nat.reduceLT, Nat.reduceLeDiff, Nat.reduceEqDiff, Nat.reduceBEq, Int.reduceLT, Int.reduceLE, Int.reduceEq, Int.reduceToNat, ↓reduceIte, reduceCtorEq])) | (refine And.intro ?_ ?_; focus omega) | omega)
  | false =>
    rw [c] at h
    (simp (maxSteps := 2000000) (disch := omega) only [b144, h, Bool.false_eq_true, go_sem, Nat.reduceAdd, Nat.reduceSub, Nat.reduceMul, Nat.reduceLT, Nat.reduceLeDiff, Nat.reduceEqDiff, Nat.reduceBEq, Int.reduceLT, Int.reduceLE, Int.reduceEq, Int.reduceToNat, ↓reduceIte, reduceCtorEq]) <;> repeat' (first | ((first | refine gd_dec ?_ ?_ | refine gd_ndec ?_ ?_ | refine cd_dec ?_ ?_ | refine cd_ndec ?_ ?_ | refine gdd_dec ?_ ?_ | refine gdd_ndec ?_ ?_ | refine gd_of ?_ ?_ | refine cd_of ?_ ?_ | refine gdd_of ?_ ?_) <;> intro hg <;> first | (exfalso; omega) | (simp (maxSteps := 2000000) (disch := omega) only [hg, b144, h, Bool.false_eq_true, go_sem, Nat.reduceAdd, Nat.reduceSub, Nat.reduceMul, Nat.reduceLT, Nat.reduceLeDiff, Nat.reduceEqDiff, Nat.reduceBEq, Int.reduceLT, Int.reduceLE, Int.reduceEq, Int.reduceToNat, ↓reduceIte, reduceCtorEq])) | (refine And.intro ?_ ?_; focus omega) | omega)
end Go.Abs
/- ARCHIVES, READ: told. -/
namespace Go.Abs
open Am
set_option maxRecDepth 10000
set_option linter.unusedSimpArgs false
/-- what a record tells -/
def tellE (e : Ent) (r : Rcd) : Ent × Bool :=
  if r.key = [103, 105, 100] then ({ e with gid := atoiV r.value }, atoiOk r.value) else
  if r.key = [108, 105, 110, 107, 112, 97, 116, 104] then ({ e with link := r.value }, true) else
  if r.key = [109, 116, 105, 109, 101] then ({ e with time := atoiV r.value }, atoiOk r.value) else
  if r.key = [112, 97, 116, 104] then ({ e with path := r.value }, true) else
  if r.key = [117, 105, 100] then ({ e with uid := atoiV r.value }, atoiOk r.value) else (e, false)
def toldE (e : Ent) : List Rcd → Ent × Bool
  | [] => (e, true)
  | r :: rs => if (tellE e r).2 = true then toldE (tellE e r).1 rs else ((tellE e r).1, false)
set_option maxHeartbeats 4000000 in
theorem h103n (c t : Bool) (rs : List Rcd) (hs : rs.length ≤ 1000000) (hb : ∀ r ∈ rs, RcdOk r) (r0 : Ent × Bool) : ∀ (rest done : List Rcd) (e : Ent) (n i : Int), rs = done ++ rest → i = done.length → n = rs.length → r0 = toldE e rest →
    HD AA 1 [0, 4, 5, 9, 10, 11] l103_0 ⟨[.ptr 0 0, .junk, .junk, .junk, .bool false, .func (.func 144) [], .junk, .junk, .junk, .view 2 (rs.map Rcd.av) c t, .int .i64 n, .int .i64 i, .junk, .junk, .junk, .junk, .junk, .junk, .junk, .junk, .junk, .junk, .junk, .junk, .junk, .junk, .junk, .junk, .junk, .junk, .junk, .junk, .junk, .junk, .junk, .junk, .junk, .junk, .junk, .junk, .junk, .junk, .junk, .junk, .junk, .junk, .junk, .junk, .junk, .junk, .junk, .junk, .junk, .junk, .junk, .junk, .junk, .junk, .junk, .junk, .junk], [(0, .var (entCs e (.lit (.slice none 0 0))))], 2⟩ [.blk 0, .code r103_0] (Fin [(4, none)] 1 (.bool r0.2) [(0, .var (entCs r0.1 (.lit (.slice none 0 0))))])
  | [], done, e, n, i, h1, h2, h3, h4 => by
    subst h1
    simp at h3
    refine hd_of (by unfold l103_0; rfl) ?_
    simp only [toldE] at h4
    rw [h4]
    (simp (maxSteps := 2000000) (disch := omega) only [r103_0, go_sem, Nat.reduceAdd, Nat.reduceSub, Nat.reduceMul, Nat.reduceLT, Nat.reduceLeDiff, Nat.reduceEqDiff, Nat.reduceBEq, Int.reduceLT, Int.reduceLE, Int.reduceEq, Int.reduceToNat, ↓reduceIte, reduceCtorEq]) <;> repeat' (first | ((first | refine gd_dec ?_ ?_ | refine gd_ndec ?_ ?_ | refine cd_dec ?_ ?_ | refine cd_ndec ?_ ?_ | refine gdd_dec ?_ ?_ | refine gdd_ndec ?_ ?_ | refine gd_of ?_ ?_ | refine cd_of ?_ ?_ | refine gdd_of ?_ ?_) <;> intro hg <;> first | (exfalso; omega) | (simp (maxSteps := 2000000) (disch := omega) only [hg, r103_0, go_sem, Nat.reduceAdd, Nat.reduceSub, Nat.reduceMul, Nat.reduceLT, Nat.reduceLeDiff, Nat.reduceEqDiff, Nat.reduceBEq, Int.reduceLT, Int.reduceLE, Int.reduceEq, Int.reduceToNat, ↓reduceIte, reduceCtorEq])) | (refine And.intro ?_ ?_; focus omega) | omega)
  | r :: rest, done, e, n, i, h1, h2, h3, h4 => by
    have hg0 : rs[i.toNat]? = some r := by
      rw [h1]
      simp [h2]
    have hl : i.toNat < rs.length := by rw [h1]; simp; omega
    obtain ⟨hk, hv⟩ := hb r (by simp [h1])
    have c3 := s144_3n e r.value hv
    have c4 := s144_4n e r.value hv
    have c5 := s144_5n e r.value hv
    simp only [entCs] at c3 c4 c5
    unfold toldE at h4
    have ih := h103n c t rs hs hb r0 rest (done ++ [r]) (tellE e r).1 n (i + 1) (by simp [h1]) (by first | omega | (simp; omega) | (simp; done)) h3
    refine hd_of (by unfold l103_0; rfl) ?_
    unfold tellE at h4 ih
    by_cases k0 : r.key = [103, 105, 100]
    · simp only [if_pos k0] at h4 ih
      cases hok : atoiOk r.value with
      | true =>
        rw [hok, if_pos rfl] at h4
        rw [hok] at c4
        have ih := ih h4
        simp only [entCs] at ih
        (simp (maxSteps := 2000000) (disch := omega) only [hg0, decide_eq_true k0, c4, lp_head, go_sem, Nat.reduceAdd, Nat.reduceSub, Nat.reduceMul, Nat.reduceLT, Nat.reduceLeDiff, Nat.reduceEqDiff, Nat.reduceBEq, Int.reduceLT, Int.reduceLE, Int.reduceEq, Int.reduceToNat, ↓reduceIte, reduceCtorEq]) <;> repeat' (first | ((first | refine gd_dec ?_ ?_ | refine gd_ndec ?_ ?_ | refine cd_dec ?_ ?_ | refine cd_ndec ?_ ?_ | refine gdd_dec ?_ ?_ | refine gdd_ndec ?_ ?_ | refine gd_of ?_ ?_ | refine cd_of ?_ ?_ | refine gdd_of ?_ ?_) <;> intro hg <;> first | (exfalso; omega) | (simp (maxSteps := 2000000) (disch := omega) only [hg, hg0, decide_eq_true k0, c4, lp_head, go_sem, Nat.reduceAdd, Nat.reduceSub, Nat.reduceMul, Nat.reduceLT, Nat.reduceLeDiff, Nat.reduceEqDiff, Nat.reduceBEq, Int.reduceLT, Int.reduceLE, Int.reduceEq, Int.reduceToNat, ↓reduceIte, reduceCtorEq])) | (refine And.intro ?_ ?_; focus omega) | omega)
        all_goals first | exact ih | skip
      | false =>
        rw [hok, if_neg (by simp)] at h4
        rw [hok] at c4
        rw [h4]
        (simp (maxSteps := 2000000) (disch := omega) only [hg0, decide_eq_true k0, c4, lp_head, go_sem, Nat.reduceAdd, Nat.reduceSub, Nat.reduceMul, Nat.reduceLT, Nat.reduceLeDiff, Nat.reduceEqDiff, Nat.reduceBEq, Int.reduceLT, Int.reduceLE, Int.reduceEq, Int.reduceToNat, ↓reduceIte, reduceCtorEq]) <;> repeat' (first | ((first | refine gd_dec ?_ ?_ | refine gd_ndec ?_ ?_ | refine cd_dec ?_ ?_ | refine cd_ndec ?_ ?_ | refine gdd_dec ?_ ?_ | refine gdd_ndec ?_ ?_ | refine gd_of ?_ ?_ | refine cd_of ?_ ?_ | refine gdd_of ?_ ?_) <;> intro hg <;> first | (exfalso; omega) | (simp (maxSteps := 2000000) (disch := omega) only [hg, hg0, decide_eq_true k0, c4, lp_head, go_sem, Nat.reduceAdd, Nat.reduceSub, Nat.reduceMul, Nat.reduceLT, Nat.reduceLeDiff, Nat.reduceEqDiff, Nat.reduceBEq, Int.reduceLT, Int.reduceLE, Int.reduceEq, Int.reduceToNat, ↓reduceIte, reduceCtorEq])) | (refine And.intro ?_ ?_; focus omega) | omega)
        all_goals first | rfl | skip
    by_cases k1 : r.key = [108, 105, 110, 107, 112, 97, 116, 104]
    · simp only [if_neg k0, if_pos k1, if_true] at h4 ih
      have ih := ih h4
      simp only [entCs] at ih
      (simp (maxSteps := 2000000) (disch := omega) only [hg0, decide_eq_false k0, decide_eq_true k1, lp_head, go_sem, Nat.reduceAdd, Nat.reduceSub, Nat.reduceMul, Nat.reduceLT, Nat.reduceLeDiff, Nat.reduceEqDiff, Nat.reduceBEq, Int.reduceLT, Int.reduceLE, Int.reduceEq, Int.reduceToNat, ↓reduceIte, reduceCtorEq]) <;> repeat' (first | ((first | refine gd_dec ?_ ?_ | refine gd_ndec ?_ ?_ | refine cd_dec ?_ ?_ | refine cd_ndec ?_ ?_ | refine gdd_dec ?_ ?_ | refine gdd_ndec ?_ ?_ | refine gd_of ?_ ?_ | refine cd_of ?_ ?_ | refine gdd_of ?_ ?_) <;> intro hg <;> first | (exfalso; omega) | (simp (maxSteps := 2000000) (disch := omega) only [hg, hg0, decide_eq_false k0, decide_eq_true k1, lp_head, go_sem, Nat.reduceAdd, Nat.reduceSub, Nat.reduceMul, Nat.reduceLT, Nat.reduceLeDiff, Nat.reduceEqDiff, Nat.reduceBEq, Int.reduceLT, Int.reduceLE, Int.reduceEq, Int.reduceToNat, ↓reduceIte, reduceCtorEq])) | (refine And.intro ?_ ?_; focus omega) | omega)
      all_goals first | exact ih | skip
    by_cases k2 : r.key = [109, 116, 105, 109, 101]
    · simp only [if_neg k0, if_neg k1, if_pos k2] at h4 ih
      cases hok : atoiOk r.value with
      | true =>
        rw [hok, if_pos rfl] at h4
        rw [hok] at c5
        have ih := ih h4
        simp only [entCs] at ih
        (simp (maxSteps := 2000000) (disch := omega) only [hg0, decide_eq_false k0, decide_eq_false k1, decide_eq_true k2, c5, lp_head, go_sem, Nat.reduceAdd, Nat.reduceSub, Nat.reduceMul, Nat.reduceLT, Nat.reduceLeDiff, Nat.reduceEqDiff, Nat.reduceBEq, Int.reduceLT, Int.reduceLE, Int.reduceEq, Int.reduceToNat, ↓reduceIte, reduceCtorEq]) <;> repeat' (first | ((first | refine gd_dec ?_ ?_ | refine gd_ndec ?_ ?_ | refine cd_dec ?_ ?_ | refine cd_ndec ?_ ?_ | refine gdd_dec ?_ ?_ | refine gdd_ndec ?_ ?_ | refine gd_of ?_ ?_ | refine cd_of ?_ ?_ | refine gdd_of ?_ ?_) <;> intro hg <;> first | (exfalso; omega) | (simp (maxSteps := 2000000) (disch := omega) only [hg, hg0, decide_eq_false k0, decide_eq_false k1, decide_eq_true k2, c5, lp_head, go_sem, Nat.reduceAdd, Nat.reduceSub, Nat.reduceMul, Nat.reduceLT, Nat.reduceLeDiff, Nat.reduceEqDiff, Nat.reduceBEq, Int.reduceLT, Int.reduceLE, Int.reduceEq, Int.reduceToNat, ↓reduceIte, reduceCtorEq])) | (refine And.intro ?_ ?_; focus omega) | omega)
        all_goals first | exact ih | skip
      | false =>
        rw [hok, if_neg (by simp)] at h4
        rw [hok] at c5
        rw [h4]
        (simp (maxSteps := 2000000) (disch := omega) only [hg0, decide_eq_false k0, decide_eq_false k1, decide_eq_true k2, c5, lp_head, go_sem, Nat.reduceAdd, Nat.reduceSub, Nat.reduceMul, Nat.reduceLT, Nat.reduceLeDiff, Nat.reduceEqDiff, Nat.reduceBEq, Int.reduceLT, Int.reduceLE, Int.reduceEq, Int.reduceToNat, ↓reduceIte, reduceCtorEq]) <;> repeat' (first | ((first | refine gd_dec ?_ ?_ | refine gd_ndec ?_ ?_ | refine cd_dec ?_ ?_ | refine cd_ndec ?_ ?_ | refine gdd_dec ?_ ?_ | refine gdd_ndec ?_ ?_ | refine gd_of ?_ ?_ | refine cd_of ?_ ?_ | refine gdd_of ?_ ?_) <;> intro hg <;> first | (exfalso; omega) | (simp (maxSteps := 2000000) (disch := omega) only [hg, hg0, decide_eq_false k0, decide_eq_false k1, decide_eq_true k2, c5, lp_head, go_sem, Nat.reduceAdd, Nat.reduceSub, Nat.reduceMul, Nat.reduceLT, Nat.reduceLeDiff, Nat.reduceEqDiff, Nat.reduceBEq, Int.reduceLT, Int.reduceLE, Int.reduceEq, Int.reduceToNat, ↓reduceIte, reduceCtorEq])) | (refine And.intro ?_ ?_; focus omega) | omega)
        all_goals first | rfl | skip
    by_cases k3 : r.key = [112, 97, 116, 104]
    · simp only [if_neg k0, if_neg k1, if_neg k2, if_pos k3, if_true] at h4 ih
      have ih := ih h4
      simp only [entCs] at ih
      (simp (maxSteps := 2000000) (disch := omega) only [hg0, decide_eq_false k0, decide_eq_false k1, decide_eq_false k2, decide_eq_true k3, lp_head, go_sem, Nat.reduceAdd, Nat.reduceSub, Nat.reduceMul, Nat.reduceLT, Nat.reduceLeDiff, Nat.reduceEqDiff, Nat.reduceBEq, Int.reduceLT, Int.reduceLE, Int.reduceEq, Int.reduceToNat, ↓reduceIte, reduceCtorEq]) <;> repeat' (first | ((first | refine gd_dec ?_ ?_ | refine gd_ndec ?_ ?_ | refine cd_dec ?_ ?_ | refine cd_ndec ?_ ?_ | refine gdd_dec ?_ ?_ | refine gdd_ndec ?_ ?_ | refine gd_of ?_ ?_ | refine cd_of ?_ ?_ | refine gdd_of ?_ ?_) <;> intro hg <;> first | (exfalso; omega) | (simp (maxSteps := 2000000) (disch := omega) only [hg, hg0, decide_eq_false k0, decide_eq_false k1, decide_eq_false k2, decide_eq_true k3, lp_head, go_sem, Nat.reduceAdd, Nat.reduceSub, Nat.reduceMul, Nat.reduceLT, Nat.reduceLeDiff, Nat.reduceEqDiff, Nat.reduceBEq, Int.reduceLT, Int.reduceLE, Int.reduceEq, Int.reduceToNat, ↓reduceIte, reduceCtorEq])) | (refine And.intro ?_ ?_; focus omega) | omega)
      all_goals first | exact ih | skip
    by_cases k4 : r.key = [117, 105, 100]
    · simp only [if_neg k0, if_neg k1, if_neg k2, if_neg k3, if_pos k4] at h4 ih
      cases hok : atoiOk r.value with
      | true =>
        rw [hok, if_pos rfl] at h4
        rw [hok] at c3
        have ih := ih h4
        simp only [entCs] at ih
        (simp (maxSteps := 2000000) (disch := omega) only [hg0, decide_eq_false k0, decide_eq_false k1, decide_eq_false k2, decide_eq_false k3, decide_eq_true k4, c3, lp_head, go_sem, Nat.reduceAdd, Nat.reduceSub, Nat.reduceMul, Nat.reduceLT, Nat.reduceLeDiff, Nat.reduceEqDiff, Nat.reduceBEq, Int.reduceLT, Int.reduceLE, Int.reduceEq, Int.reduceToNat, ↓reduceIte, reduceCtorEq]) <;> repeat' (first | ((first | refine gd_dec ?_ ?_ | refine gd_ndec ?_ ?_ | refine cd_dec ?_ ?_ | refine cd_ndec ?_ ?_ | refine gdd_dec ?_ ?_ | refine gdd_ndec ?_ ?_ | refine gd_of ?_ ?_ | refine cd_of ?_ ?_ | refine gdd_of ?_ ?_) <;> intro hg <;> first | (exfalso; omega) | (simp (maxSteps := 2000000) (disch := omega) only [hg, hg0, decide_eq_false k0, decide_eq_false k1, decide_eq_false k2, decide_eq_false k3, decide_eq_true k4, c3, lp_head, go_sem, Nat.reduceAdd, Nat.reduceSub, Nat.reduceMul, Nat.reduceLT, Nat.reduceLeDiff, Nat.reduceEqDiff, Nat.reduceBEq, Int.reduceLT, Int.reduceLE, Int.reduceEq, Int.reduceToNat, ↓reduceIte, reduceCtorEq])) | (refine And.intro ?_ ?_; focus omega) | omega)
        all_goals first | exact ih | skip
      | false =>
        rw [hok, if_neg (by simp)] at h4
        rw [hok] at c3
        rw [h4]
        (simp (maxSteps := 2000000) (disch := omega) only [hg0, decide_eq_false k0, decide_eq_false k1, decide_eq_false k2, decide_eq_false k3, decide_eq_true k4, c3, lp_head, go_sem, Nat.reduceAdd, Nat.reduceSub, Nat.reduceMul, Nat.reduceLT, Nat.reduceLeDiff, Nat.reduceEqDiff, Nat.reduceBEq, Int.reduceLT, Int.reduceLE, Int.reduceEq, Int.reduceToNat, ↓reduceIte, reduceCtorEq]) <;> repeat' (first | ((first | refine gd_dec ?_ ?_ | refine gd_ndec ?_ ?_ | refine cd_dec ?_ ?_ | refine cd_ndec ?_ ?_ | refine gdd_dec ?_ ?_ | refine gdd_ndec ?_ ?_ | refine gd_of ?_ ?_ | refine cd_of ?_ ?_ | refine gdd_of ?_ ?_) <;> intro hg <;> first | (exfalso; omega) | (simp (maxSteps := 2000000) (disch := omega) only [hg, hg0, decide_eq_false k0, decide_eq_false k1, decide_eq_false k2, decide_eq_false k3, decide_eq_true k4, c3, lp_head, go_sem, Nat.reduceAdd, Nat.reduceSub, Nat.reduceMul, Nat.reduceLT, Nat.reduceLeDiff, Nat.reduceEqDiff, Nat.reduceBEq, Int.reduceLT, Int.reduceLE, Int.reduceEq, Int.reduceToNat, ↓reduceIte, reduceCtorEq])) | (refine And.intro ?_ ?_; focus omega) | omega)
        all_goals first | rfl | skip
    simp only [if_neg k0, if_neg k1, if_neg k2, if_neg k3, if_neg k4, Bool.false_eq_true, if_false] at h4
    rw [h4]
    (simp (maxSteps := 2000000) (disch := omega) only [hg0, decide_eq_false k0, decide_eq_false k1, decide_eq_false k2, decide_eq_false k3, decide_eq_false k4, lp_head, go_sem, Nat.reduceAdd, Nat.reduceSub, Nat.reduceMul, Nat.reduceLT, Nat.reduceLeDiff, Nat.reduceEqDiff, Nat.reduceBEq, Int.reduceLT, Int.reduceLE, Int.reduceEq, Int.reduceToNat, ↓reduceIte, reduceCtorEq]) <;> repeat' (first | ((first | refine gd_dec ?_ ?_ | refine gd_ndec ?_ ?_ | refine cd_dec ?_ ?_ | refine cd_ndec ?_ ?_ | refine gdd_dec ?_ ?_ | refine gdd_ndec ?_ ?_ | refine gd_of ?_ ?_ | refine cd_of ?_ ?_ | refine gdd_of ?_ ?_) <;> intro hg <;> first | (exfalso; omega) | (simp (maxSteps := 2000000) (disch := omega) only [hg, hg0, decide_eq_false k0, decide_eq_false k1, decide_eq_false k2, decide_eq_false k3, decide_eq_false k4, lp_head, go_sem, Nat.reduceAdd, Nat.reduceSub, Nat.reduceMul, Nat.reduceLT, Nat.reduceLeDiff, Nat.reduceEqDiff, Nat.reduceBEq, Int.reduceLT, Int.reduceLE, Int.reduceEq, Int.reduceToNat, ↓reduceIte, reduceCtorEq])) | (refine And.intro ?_ ?_; focus omega) | omega)
    all_goals first | rfl | skip
set_option maxHeartbeats 4000000 in
theorem h103o (c t : Bool) (rs : List Rcd) (hs : rs.length ≤ 1000000) (hb : ∀ r ∈ rs, RcdOk r) (q : Nat) (ds : List AVal) (r0 : Ent × Bool) : ∀ (rest done : List Rcd) (e : Ent) (n i : Int), rs = done ++ rest → i = done.length → n = rs.length → r0 = toldE e rest →
    HD AA 2 [0, 4, 5, 9, 10, 11] l103_0 ⟨[.ptr 0 0, .junk, .junk, .junk, .bool false, .func (.func 144) [], .junk, .junk, .junk, .view 2 (rs.map Rcd.av) c t, .int .i64 n, .int .i64 i, .junk, .junk, .junk, .junk, .junk, .junk, .junk, .junk, .junk, .junk, .junk, .junk, .junk, .junk, .junk, .junk, .junk, .junk, .junk, .junk, .junk, .junk, .junk, .junk, .junk, .junk, .junk, .junk, .junk, .junk, .junk, .junk, .junk, .junk, .junk, .junk, .junk, .junk, .junk, .junk, .junk, .junk, .junk, .junk, .junk, .junk, .junk, .junk, .junk], [(0, .var (entCs e (.own 1 1 0 q false))), (1, .row ds 1)], 4⟩ [.blk 0, .code r103_0] (Fin [(4, none)] 2 (.bool r0.2) [(0, .var (entCs r0.1 (.own 1 1 0 q false))), (1, .row ds 1)])
  | [], done, e, n, i, h1, h2, h3, h4 => by
    subst h1
    simp at h3
    refine hd_of (by unfold l103_0; rfl) ?_
    simp only [toldE] at h4
    rw [h4]
    (simp (maxSteps := 2000000) (disch := omega) only [r103_0, go_sem, Nat.reduceAdd, Nat.reduceSub, Nat.reduceMul, Nat.reduceLT, Nat.reduceLeDiff, Nat.reduceEqDiff, Nat.reduceBEq, Int.reduceLT, Int.reduceLE, Int.reduceEq, Int.reduceToNat, ↓reduceIte, reduceCtorEq]) <;> repeat' (first | ((first | refine gd_dec ?_ ?_ | refine gd_ndec ?_ ?_ | refine cd_dec ?_ ?_ | refine cd_ndec ?_ ?_ | refine gdd_dec ?_ ?_ | refine gdd_ndec ?_ ?_ | refine gd_of ?_ ?_ | refine cd_of ?_ ?_ | refine gdd_of ?_ ?_) <;> intro hg <;> first | (exfalso; omega) | (simp (maxSteps := 2000000) (disch := omega) only [hg, r103_0, go_sem, Nat.reduceAdd, Nat.reduceSub, Nat.reduceMul, Nat.reduceLT, Nat.reduceLeDiff, Nat.reduceEqDiff, Nat.reduceBEq, Int.reduceLT, Int.reduceLE, Int.reduceEq, Int.reduceToNat, ↓reduceIte, reduceCtorEq])) | (refine And.intro ?_ ?_; focus omega) | omega)
  | r :: rest, done, e, n, i, h1, h2, h3, h4 => by
    have hg0 : rs[i.toNat]? = some r := by
      rw [h1]
      simp [h2]
    have hl : i.toNat < rs.length := by rw [h1]; simp; omega
    obtain ⟨hk, hv⟩ := hb r (by simp [h1])
    have c3 := s144_3o e r.value q ds hv
    have c4 := s144_4o e r.value q ds hv
    have c5 := s144_5o e r.value q ds hv
    simp only [entCs] at c3 c4 c5
    unfold toldE at h4
    have ih := h103o c t rs hs hb q ds r0 rest (done ++ [r]) (tellE e r).1 n (i + 1) (by simp [h1]) (by first | omega | (simp; omega) | (simp; done)) h3
    refine hd_of (by unfold l103_0; rfl) ?_
    unfold tellE at h4 ih
    by_cases k0 : r.key = [103, 105, 100]
    · simp only [if_pos k0] at h4 ih
      cases hok : atoiOk r.value with
      | true =>
        rw [hok, if_pos rfl] at h4
        rw [hok] at c4
        have ih := ih h4
        simp only [entCs] at ih
        (simp (maxSteps := 2000000) (disch := omega) only [hg0, decide_eq_true k0, c4, lp_head, go_sem, Nat.reduceAdd, Nat.reduceSub, Nat.reduceMul, Nat.reduceLT, Nat.reduceLeDiff, Nat.reduceEqDiff, Nat.reduceBEq, Int.reduceLT, Int.reduceLE, Int.reduceEq, Int.reduceToNat, ↓reduceIte, reduceCtorEq]) <;> repeat' (first | ((first | refine gd_dec ?_ ?_ | refine gd_ndec ?_ ?_ | refine cd_dec ?_ ?_ | refine cd_ndec ?_ ?_ | refine gdd_dec ?_ ?_ | refine gdd_ndec ?_ ?_ | refine gd_of ?_ ?_ | refine cd_of ?_ ?_ | refine gdd_of ?_ ?_) <;> intro hg <;> first | (exfalso; omega) | (simp (maxSteps := 2000000) (disch := omega) only [hg, hg0, decide_eq_true k0, c4, lp_head, go_sem, Nat.reduceAdd, Nat.reduceSub, Nat.reduceMul, Nat.reduceLT, Nat.reduceLeDiff, Nat.reduceEqDiff, Nat.reduceBEq, Int.reduceLT, Int.reduceLE, Int.reduceEq, Int.reduceToNat, ↓reduceIte, reduceCtorEq])) | (refine And.intro ?_ ?_; focus omega) | omega)
        all_goals first | exact ih | skip
      | false =>
        rw [hok, if_neg (by simp)] at h4
        rw [hok] at c4
        rw [h4]
        (simp (maxSteps := 2000000) (disch := omega) only [hg0, decide_eq_true k0, c4, lp_head, go_sem, Nat.reduceAdd, Nat.reduceSub, Nat.reduceMul, Nat.reduceLT, Nat.reduceLeDiff, Nat.reduceEqDiff, Nat.reduceBEq, Int.reduceLT, Int.reduceLE, Int.reduceEq, Int.reduceToNat, ↓reduceIte, reduceCtorEq]) <;> repeat' (first | ((first | refine gd_dec ?_ ?_ | refine gd_ndec ?_ ?_ | refine cd_dec ?_ ?_ | refine cd_ndec ?_ ?_ | refine gdd_dec ?_ ?_ | refine gdd_ndec ?_ ?_ | refine gd_of ?_ ?_ | refine cd_of ?_ ?_ | refine gdd_of ?_ ?_) <;> intro hg <;> first | (exfalso; omega) | (simp (maxSteps := 2000000) (disch := omega) only [hg, hg0, decide_eq_true k0, c4, lp_head, go_sem, Nat.reduceAdd, Nat.reduceSub, Nat.reduceMul, Nat.reduceLT, Nat.reduceLeDiff, Nat.reduceEqDiff, Nat.reduceBEq, Int.reduceLT, Int.reduceLE, Int.reduceEq, Int.reduceToNat, ↓reduceIte, reduceCtorEq])) | (refine And.intro ?_ ?_; focus omega) | omega)
        all_goals first | rfl | skip
    by_cases k1 : r.key = [108, 105, 110, 107, 112, 97, 116, 104]
    · simp only [if_neg k0, if_pos k1, if_true] at h4 ih
      have ih := ih h4
      simp only [entCs] at ih
      (simp (maxSteps := 2000000) (disch := omega) only [hg0, decide_eq_false k0, decide_eq_true k1, lp_head, go_sem, Nat.reduceAdd, Nat.reduceSub, Nat.reduceMul, Nat.reduceLT, Nat.reduceLeDiff, Nat.reduceEqDiff, Nat.reduceBEq, Int.reduceLT, Int.reduceLE, Int.reduceEq, Int.reduceToNat, ↓reduceIte, reduceCtorEq]) <;> repeat' (first | ((first | refine gd_dec ?_ ?_ | refine gd_ndec ?_ ?_ | refine cd_dec ?_ ?_ | refine cd_ndec ?_ ?_ | refine gdd_dec ?_ ?_ | refine gdd_ndec ?_ ?_ | refine gd_of ?_ ?_ | refine cd_of ?_ ?_ | refine gdd_of ?_ ?_) <;> intro hg <;> first | (exfalso; omega) | (simp (maxSteps := 2000000) (disch := omega) only [hg, hg0, decide_eq_false k0, decide_eq_true k1, lp_head, go_sem, Nat.reduceAdd, Nat.reduceSub, Nat.reduceMul, Nat.reduceLT, Nat.reduceLeDiff, Nat.reduceEqDiff, Nat.reduceBEq, Int.reduceLT, Int.reduceLE, Int.reduceEq, Int.reduceToNat, ↓reduceIte, reduceCtorEq])) | (refine And.intro ?_ ?_; focus omega) | omega)
      all_goals first | exact ih | skip
    by_cases k2 : r.key = [109, 116, 105, 109, 101]
    · simp only [if_neg k0, if_neg k1, if_pos k2] at h4 ih
      cases hok : atoiOk r.value with
      | true =>
        rw [hok, if_pos rfl] at h4
        rw [hok] at c5
        have ih := ih h4
        simp only [entCs] at ih
        (simp (maxSteps := 2000000) (disch := omega) only [hg0, decide_eq_false k0, decide_eq_false k1, decide_eq_true k2, c5, lp_head, go_sem, Nat.reduceAdd, Nat.reduceSub, Nat.reduceMul, Nat.reduceLT, Nat.reduceLeDiff, Nat.reduceEqDiff, Nat.reduceBEq, Int.reduceLT, Int.reduceLE, Int.reduceEq, Int.reduceToNat, ↓reduceIte, reduceCtorEq]) <;> repeat' (first | ((first | refine gd_dec ?_ ?_ | refine gd_ndec ?_ ?_ | refine cd_dec ?_ ?_ | refine cd_ndec ?_ ?_ | refine gdd_dec ?_ ?_ | refine gdd_ndec ?_ ?_ | refine gd_of ?_ ?_ | refine cd_of ?_ ?_ | refine gdd_of ?_ ?_) <;> intro hg <;> first | (exfalso; omega) | (simp (maxSteps := 2000000) (disch := omega) only [hg, hg0, decide_eq_false k0, decide_eq_false k1, decide_eq_true k2, c5, lp_head, go_sem, Nat.reduceAdd, Nat.reduceSub, Nat.reduceMul, Nat.reduceLT, Nat.reduceLeDiff, Nat.reduceEqDiff, Nat.reduceBEq, Int.reduceLT, Int.reduceLE, Int.reduceEq, Int.reduceToNat, ↓reduceIte, reduceCtorEq])) | (refine And.intro ?_ ?_; focus omega) | omega)
        all_goals first | exact ih | skip
      | false =>
        rw [hok, if_neg (by simp)] at h4
        rw [hok] at c5
        rw [h4]
        (simp (maxSteps := 2000000) (disch := omega) only [hg0, decide_eq_false k0, decide_eq_false k1, decide_eq_true k2, c5, lp_head, go_sem, Nat.reduceAdd, Nat.reduceSub, Nat.reduceMul, Nat.reduceLT, Nat.reduceLeDiff, Nat.reduceEqDiff, Nat.reduceBEq, Int.reduceLT, Int.reduceLE, Int.reduceEq, Int.reduceToNat, ↓reduceIte, reduceCtorEq]) <;> repeat' (first | ((first | refine gd_dec ?_ ?_ | refine gd_ndec ?_ ?_ | refine cd_dec ?_ ?_ | refine cd_ndec ?_ ?_ | refine gdd_dec ?_ ?_ | refine gdd_ndec ?_ ?_ | refine gd_of ?_ ?_ | refine cd_of ?_ ?_ | refine gdd_of ?_ ?_) <;> intro hg <;> first | (exfalso; omega) | (simp (maxSteps := 2000000) (disch := omega) only [hg, hg0, decide_eq_false k0, decide_eq_false k1, decide_eq_true k2, c5, lp_head, go_sem, Nat.reduceAdd, Nat.reduceSub, Nat.reduceMul, Nat.reduceLT, Nat.reduceLeDiff, Nat.reduceEqDiff, Nat.reduceBEq, Int.reduceLT, Int.reduceLE, Int.reduceEq, Int.reduceToNat, ↓reduceIte, reduceCtorEq])) | (refine And.intro ?_ ?_; focus omega) | omega)
        all_goals first | rfl | skip
    by_cases k3 : r.key = [112, 97, 116, 104]
    · simp only [if_neg k0, if_neg k1, if_neg k2, if_pos k3, if_true] at h4 ih
      have ih := ih h4
      simp only [entCs] at ih
      (simp (maxSteps := 2000000) (disch := omega) only [hg0, decide_eq_false k0, decide_eq_false k1, decide_eq_false k2, decide_eq_true k3, lp_head, go_sem, Nat.reduceAdd, Nat.reduceSub, Nat.reduceMul, Nat.reduceLT, Nat.reduceLeDiff, Nat.reduceEqDiff, Nat.reduceBEq, Int.reduceLT, Int.reduceLE, Int.reduceEq, Int.reduceToNat, ↓reduceIte, reduceCtorEq]) <;> repeat' (first | ((first | refine gd_dec ?_ ?_ | refine gd_ndec ?_ ?_ | refine cd_dec ?_ ?_ | refine cd_ndec ?_ ?_ | refine gdd_dec ?_ ?_ | refine gdd_ndec ?_ ?_ | refine gd_of ?_ ?_ | refine cd_of ?_ ?_ | refine gdd_of ?_ ?_) <;> intro hg <;> first | (exfalso; omega) | (simp (maxSteps := 2000000) (disch := omega) only [hg, hg0, decide_eq_false k0, decide_eq_false k1, decide_eq_false k2, decide_eq_true k3, lp_head, go_sem, Nat.reduceAdd, Nat.reduceSub, Nat.reduceMul, Nat.reduceLT, Nat.reduceLeDiff, Nat.reduceEqDiff, Nat.reduceBEq, Int.reduceLT, Int.reduceLE, Int.reduceEq, Int.reduceToNat, ↓reduceIte, reduceCtorEq])) | (refine And.intro ?_ ?_; focus omega) | omega)
      all_goals first | exact ih | skip
    by_cases k4 : r.key = [117, 105, 100]
    · simp only [if_neg k0, if_neg k1, if_neg k2, if_neg k3, if_pos k4] at h4 ih
      cases hok : atoiOk r.value with
      | true =>
        rw [hok, if_pos rfl] at h4
        rw [hok] at c3
        have ih := ih h4
        simp only [entCs] at ih
        (simp (maxSteps := 2000000) (disch := omega) only [hg0, decide_eq_false k0, decide_eq_false k1, decide_eq_false k2, decide_eq_false k3, decide_eq_true k4, c3, lp_head, go_sem, Nat.reduceAdd, Nat.reduceSub, Nat.reduceMul, Nat.reduceLT, Nat.reduceLeDiff, Nat.reduceEqDiff, Nat.reduceBEq, Int.reduceLT, Int.reduceLE, Int.reduceEq, Int.reduceToNat, ↓reduceIte, reduceCtorEq]) <;> repeat' (first | ((first | refine gd_dec ?_ ?_ | refine gd_ndec ?_ ?_ | refine cd_dec ?_ ?_ | refine cd_ndec ?_ ?_ | refine gdd_dec ?_ ?_ | refine gdd_ndec ?_ ?_ | refine gd_of ?_ ?_ | refine cd_of ?_ ?_ | refine gdd_of ?_ ?_) <;> intro hg <;> first | (exfalso; omega) | (simp (maxSteps := 2000000) (disch := omega) only [hg, hg0, decide_eq_false k0, decide_eq_false k1, decide_eq_false k2, decide_eq_false k3, decide_eq_true k4, c3, lp_head, go_sem, Nat.reduceAdd, Nat.reduceSub, Nat.reduceMul, Nat.reduceLT, Nat.reduceLeDiff, Nat.reduceEqDiff, Nat.reduceBEq, Int.reduceLT, Int.reduceLE, Int.reduceEq, Int.reduceToNat, ↓reduceIte, reduceCtorEq])) | (refine And.intro ?_ ?_; focus omega) | omega)
        all_goals first | exact ih | skip
      | false =>
        rw [hok, if_neg (by simp)] at h4
        rw [hok] at c3
        rw [h4]
        (simp (maxSteps := 2000000) (disch := omega) only [hg0, decide_eq_false k0, decide_eq_false k1, decide_eq_false k2, decide_eq_false k3, decide_eq_true k4, c3, lp_head, go_sem, Nat.reduceAdd, Nat.reduceSub, Nat.reduceMul, Nat.reduceLT, Nat.reduceLeDiff, Nat.reduceEqDiff, Nat.reduceBEq, Int.reduceLT, Int.reduceLE, Int.reduceEq, Int.reduceToNat, ↓reduceIte, reduceCtorEq]) <;> repeat' (first | ((first | refine gd_dec ?_ ?_ | refine gd_ndec ?_ ?_ | refine cd_dec ?_ ?_ | refine cd_ndec ?_ ?_ | refine gdd_dec ?_ ?_ | refine gdd_ndec ?_ ?_ | refine gd_of ?_ ?_ | refine cd_of ?_ ?_ | refine gdd_of ?_ ?_) <;> intro hg <;> first | (exfalso; omega) | (simp (maxSteps := 2000000) (disch := omega) only [hg, hg0, decide_eq_false k0, decide_eq_false k1, decide_eq_false k2, decide_eq_false k3, decide_eq_true k4, c3, lp_head, go_sem, Nat.reduceAdd, Nat.reduceSub, Nat.reduceMul, Nat.reduceLT, Nat.reduceLeDiff, Nat.reduceEqDiff, Nat.reduceBEq, Int.reduceLT, Int.reduceLE, Int.reduceEq, Int.reduceToNat, ↓reduceIte, reduceCtorEq])) | (refine And.intro ?_ ?_; focus omega) | omega)
        all_goals first | rfl | skip
    simp only [if_neg k0, if_neg k1, if_neg k2, if_neg k3, if_neg k4, Bool.false_eq_true, if_false] at h4
    rw [h4]
    (simp (maxSteps := 2000000) (disch := omega) only [hg0, decide_eq_false k0, decide_eq_false k1, decide_eq_false k2, decide_eq_false k3, decide_eq_false k4, lp_head, go_sem, Nat.reduceAdd, Nat.reduceSub, Nat.reduceMul, Nat.reduceLT, Nat.reduceLeDiff, Nat.reduceEqDiff, Nat.reduceBEq, Int.reduceLT, Int.reduceLE, Int.reduceEq, Int.reduceToNat, ↓reduceIte, reduceCtorEq]) <;> repeat' (first | ((first | refine gd_dec ?_ ?_ | refine gd_ndec ?_ ?_ | refine cd_dec ?_ ?_ | refine cd_ndec ?_ ?_ | refine gdd_dec ?_ ?_ | refine gdd_ndec ?_ ?_ | refine gd_of ?_ ?_ | refine cd_of ?_ ?_ | refine gdd_of ?_ ?_) <;> intro hg <;> first | (exfalso; omega) | (simp (maxSteps := 2000000) (disch := omega) only [hg, hg0, decide_eq_false k0, decide_eq_false k1, decide_eq_false k2, decide_eq_false k3, decide_eq_false k4, lp_head, go_sem, Nat.reduceAdd, Nat.reduceSub, Nat.reduceMul, Nat.reduceLT, Nat.reduceLeDiff, Nat.reduceEqDiff, Nat.reduceBEq, Int.reduceLT, Int.reduceLE, Int.reduceEq, Int.reduceToNat, ↓reduceIte, reduceCtorEq])) | (refine And.intro ?_ ?_; focus omega) | omega)
    all_goals first | rfl | skip
end Go.Abs
/- ARCHIVES, READ: told. -/
namespace Go.Abs
open Am
set_option maxRecDepth 10000
set_option linter.unusedSimpArgs false
theorem s103n (c t : Bool) (rs : List Rcd) (hs : rs.length ≤ 1000000) (hb : ∀ r ∈ rs, RcdOk r) (e : Ent) : callT AA 103 [.ptr 0 0, .view 2 (rs.map Rcd.av) c t] [(0, .var (entCs e (.lit (.slice none 0 0))))] = some (.bool (toldE e rs).2, [(0, .var (entCs (toldE e rs).1 (.lit (.slice none 0 0))))]) := by
  have hh := h103n c t rs hs hb (toldE e rs) rs [] e rs.length 0 rfl rfl rfl rfl
  simp only [entCs] at hh
  refine enter fn103 np103 rfl ?_
  (simp (maxSteps := 2000000) (disch := omega) only [b103, lp_head, go_sem, Nat.reduceAdd, Nat.reduceSub, Nat.reduceMul, Nat.reduceLT, Nat.reduceLeDiff, Nat.reduceEqDiff, Nat.reduceBEq, Int.reduceLT, Int.reduceLE, Int.reduceEq, Int.reduceToNat, ↓reduceIte, reduceCtorEq]) <;> repeat' (first | ((first | refine gd_dec ?_ ?_ | refine gd_ndec ?_ ?_ | refine cd_dec ?_ ?_ | refine cd_ndec ?_ ?_ | refine gdd_dec ?_ ?_ | refine gdd_ndec ?_ ?_ | refine gd_of ?_ ?_ | refine cd_of ?_ ?_ | refine gdd_of ?_ ?_) <;> intro hg <;> first | (exfalso; omega) | (simp (maxSteps := 2000000) (disch := omega) only [hg, b103, lp_head, go_sem, Nat.reduceAdd, Nat.reduceSub, Nat.reduceMul, Nat.reduceLT, Nat.reduceLeDiff, Nat.reduceEqDiff, Nat.reduceBEq, Int.reduceLT, Int.reduceLE, Int.reduceEq, Int.reduceToNat, ↓reduceIte, reduceCtorEq])) | (refine And.intro ?_ ?_; focus omega) | omega)
  all_goals first | exact hh | skip
theorem s103o (c t : Bool) (rs : List Rcd) (hs : rs.length ≤ 1000000) (hb : ∀ r ∈ rs, RcdOk r) (q : Nat) (ds : List AVal) (e : Ent) : callT AA 103 [.ptr 0 0, .view 2 (rs.map Rcd.av) c t] [(0, .var (entCs e (.own 1 1 0 q false))), (1, .row ds 1)] = some (.bool (toldE e rs).2, [(0, .var (entCs (toldE e rs).1 (.own 1 1 0 q false))), (1, .row ds 1)]) := by
  have hh := h103o c t rs hs hb q ds (toldE e rs) rs [] e rs.length 0 rfl rfl rfl rfl
  simp only [entCs] at hh
  refine enter fn103 np103 rfl ?_
  (simp (maxSteps := 2000000) (disch := omega) only [b103, lp_head, go_sem, Nat.reduceAdd, Nat.reduceSub, Nat.reduceMul, Nat.reduceLT, Nat.reduceLeDiff, Nat.reduceEqDiff, Nat.reduceBEq, Int.reduceLT, Int.reduceLE, Int.reduceEq, Int.reduceToNat, ↓reduceIte, reduceCtorEq]) <;> repeat' (first | ((first | refine gd_dec ?_ ?_ | refine gd_ndec ?_ ?_ | refine cd_dec ?_ ?_ | refine cd_ndec ?_ ?_ | refine gdd_dec ?_ ?_ | refine gdd_ndec ?_ ?_ | refine gd_of ?_ ?_ | refine cd_of ?_ ?_ | refine gdd_of ?_ ?_) <;> intro hg <;> first | (exfalso; omega) | (simp (maxSteps := 2000000) (disch := omega) only [hg, b103, lp_head, go_sem, Nat.reduceAdd, Nat.reduceSub, Nat.reduceMul, Nat.reduceLT, Nat.reduceLeDiff, Nat.reduceEqDiff, Nat.reduceBEq, Int.reduceLT, Int.reduceLE, Int.reduceEq, Int.reduceToNat, ↓reduceIte, reduceCtorEq])) | (refine And.intro ?_ ?_; focus omega) | omega)
  all_goals first | exact hh | skip
theorem s103nn (e : Ent) : callT AA 103 [.ptr 0 0, .lit (.slice none 0 0)] [(0, .var (entCs e (.lit (.slice none 0 0))))] = some (.bool true, [(0, .var (entCs e (.lit (.slice none 0 0))))]) := by
  refine enter fn103 np103 rfl ?_
  (simp (maxSteps := 2000000) (disch := omega) only [b103, lp_head, go_sem, Nat.reduceAdd, Nat.reduceSub, Nat.reduceMul, Nat.reduceLT, Nat.reduceLeDiff, Nat.reduceEqDiff, Nat.reduceBEq, Int.reduceLT, Int.reduceLE, Int.reduceEq, Int.reduceToNat, ↓reduceIte, reduceCtorEq]) <;> repeat' (first | ((first | refine gd_dec ?_ ?_ | refine gd_ndec ?_ ?_ | refine cd_dec ?_ ?_ | refine cd_ndec ?_ ?_ | refine gdd_dec ?_ ?_ | refine gdd_ndec ?_ ?_ | refine gd_of ?_ ?_ | refine cd_of ?_ ?_ | refine gdd_of ?_ ?_) <;> intro hg <;> first | (exfalso; omega) | (simp (maxSteps := 2000000) (disch := omega) only [hg, b103, lp_head, go_sem, Nat.reduceAdd, Nat.reduceSub, Nat.reduceMul, Nat.reduceLT, Nat.reduceLeDiff, Nat.reduceEqDiff, Nat.reduceBEq, Int.reduceLT, Int.reduceLE, Int.reduceEq, Int.reduceToNat, ↓reduceIte, reduceCtorEq])) | (refine And.intro ?_ ?_; focus omega) | omega)
  refine hd_of (by unfold l103_0; rfl) ?_
  (simp (maxSteps := 2000000) (disch := omega) only [r103_0, go_sem, Nat.reduceAdd, Nat.reduceSub, Nat.reduceMul, Nat.reduceLT, Nat.reduceLeDiff, Nat.reduceEqDiff, Nat.reduceBEq, Int.reduceLT, Int.reduceLE, Int.reduceEq, Int.reduceToNat, ↓reduceIte, reduceCtorEq]) <;> repeat' (first | ((first | refine gd_dec ?_ ?_ | refine gd_ndec ?_ ?_ | refine cd_dec ?_ ?_ | refine cd_ndec ?_ ?_ | refine gdd_dec ?_ ?_ | refine gdd_ndec ?_ ?_ | refine gd_of ?_ ?_ | refine cd_of ?_ ?_ | refine gdd_of ?_ ?_) <;> intro hg <;> first | (exfalso; omega) | (simp (maxSteps := 2000000) (disch := omega) only [hg, r103_0, go_sem, Nat.reduceAdd, Nat.reduceSub, Nat.reduceMul, Nat.reduceLT, Nat.reduceLeDiff, Nat.reduceEqDiff, Nat.reduceBEq, Int.reduceLT, Int.reduceLE, Int.reduceEq, Int.reduceToNat, ↓reduceIte, reduceCtorEq])) | (refine And.intro ?_ ?_; focus omega) | omega)
theorem s103on (q : Nat) (ds : List AVal) (e : Ent) : callT AA 103 [.ptr 0 0, .lit (.slice none 0 0)] [(0, .var (entCs e (.own 1 1 0 q false))), (1, .row ds 1)] = some (.bool true, [(0, .var (entCs e (.own 1 1 0 q false))), (1, .row ds 1)]) := by
  refine enter fn103 np103 rfl ?_
  (simp (maxSteps := 2000000) (disch := omega) only [b103, lp_head, go_sem, Nat.reduceAdd, Nat.reduceSub, Nat.reduceMul, Nat.reduceLT, Nat.reduceLeDiff, Nat.reduceEqDiff, Nat.reduceBEq, Int.reduceLT, Int.reduceLE, Int.reduceEq, Int.reduceToNat, ↓reduceIte, reduceCtorEq]) <;> repeat' (first | ((first | refine gd_dec ?_ ?_ | refine gd_ndec ?_ ?_ | refine cd_dec ?_ ?_ | refine cd_ndec ?_ ?_ | refine gdd_dec ?_ ?_ | refine gdd_ndec ?_ ?_ | refine gd_of ?_ ?_ | refine cd_of ?_ ?_ | refine gdd_of ?_ ?_) <;> intro hg <;> first | (exfalso; omega) | (simp (maxSteps := 2000000) (disch := omega) only [hg, b103, lp_head, go_sem, Nat.reduceAdd, Nat.reduceSub, Nat.reduceMul, Nat.reduceLT, Nat.reduceLeDiff, Nat.reduceEqDiff, Nat.reduceBEq, Int.reduceLT, Int.reduceLE, Int.reduceEq, Int.reduceToNat, ↓reduceIte, reduceCtorEq])) | (refine And.intro ?_ ?_; focus omega) | omega)
  refine hd_of (by unfold l103_0; rfl) ?_
  (simp (maxSteps := 2000000) (disch := omega) only [r103_0, go_sem, Nat.reduceAdd, Nat.reduceSub, Nat.reduceMul, Nat.reduceLT, Nat.reduceLeDiff, Nat.reduceEqDiff, Nat.reduceBEq, Int.reduceLT, Int.reduceLE, Int.reduceEq, Int.reduceToNat, ↓reduceIte, reduceCtorEq]) <;> repeat' (first | ((first | refine gd_dec ?_ ?_ | refine gd_ndec ?_ ?_ | refine cd_dec ?_ ?_ | refine cd_ndec ?_ ?_ | refine gdd_dec ?_ ?_ | refine gdd_ndec ?_ ?_ | refine gd_of ?_ ?_ | refine cd_of ?_ ?_ | refine gdd_of ?_ ?_) <;> intro hg <;> first | (exfalso; omega) | (simp (maxSteps := 2000000) (disch := omega) only [hg, r103_0, go_sem, Nat.reduceAdd, Nat.reduceSub, Nat.reduceMul, Nat.reduceLT, Nat.reduceLeDiff, Nat.reduceEqDiff, Nat.reduceBEq, Int.reduceLT, Int.reduceLE, Int.reduceEq, Int.reduceToNat, ↓reduceIte, reduceCtorEq])) | (refine And.intro ?_ ?_; focus omega) | omega)
end Go.Abs
/- ARCHIVES, READ: an entry. -/
namespace Go.Abs
open Am
set_option maxRecDepth 10000
set_option linter.unusedSimpArgs false
/-- the next header, its bytes; is there one? -/
def rdH (b : BS) : Hd × BS × Bool :=
  if b.l.length < 512 ∨ decOk (b.sl 0 512).l = false then (hd0, .nil, false) else
  if wholeN (decH (b.sl 0 512).l).size ≤ (b.sl 512 b.l.length).l.length then (decH (b.sl 0 512).l, (b.sl 512 b.l.length).sl 0 (decH (b.sl 0 512).l).size.toNat, true)
  else (decH (b.sl 0 512).l, .nil, false)
theorem hdrV_eq (b : BS) : hdrV b = .tuple [(rdH b).1.av, (rdH b).2.1.av, .bool (rdH b).2.2] := by
  unfold hdrV rdH
  split
  · rfl
  · split <;> rfl
theorem s100r (b : BS) (hb : b.l.length ≤ 1000000000) : callT AA 100 [.ptr 0 0] [(0, .var [b.av])] = some (.tuple [(rdH b).1.av, (rdH b).2.1.av, .bool (rdH b).2.2], [(0, .var [(hdrR b).av])]) := by
  rw [← hdrV_eq]
  exact s100 b hb
theorem hdrR_le (b : BS) : (hdrR b).l.length ≤ b.l.length := by
  have h : ∀ (a : BS) (i j : Nat), (a.sl i j).l.length ≤ a.l.length := by
    intro a i j
    rw [BS.sl_l, List.length_take, List.length_drop]
    omega
  unfold hdrR
  repeat' split
  · exact Nat.le_refl _
  · exact h _ _ _
  · exact Nat.le_trans (h _ _ _) (h _ _ _)
  · exact h _ _ _
theorem rdH_le (b : BS) : (rdH b).2.1.l.length ≤ b.l.length := by
  have h : ∀ (a : BS) (i j : Nat), (a.sl i j).l.length ≤ a.l.length := by
    intro a i j
    rw [BS.sl_l, List.length_take, List.length_drop]
    omega
  unfold rdH
  repeat' split
  · exact Nat.zero_le _
  · exact Nat.le_trans (h _ _ _) (h _ _ _)
  · exact Nat.zero_le _
/-- the kind of a type -/
def kindB (t : UInt8) : Int := if t = 49 then 4 else if t = 50 then 3 else if t = 48 then 2 else if t = 53 then 1 else 0
theorem s101b (b : BS) (hl : b.l.length ≤ 1000000000) : callT AA 101 [b.av] [] = some (match b with | .nil => (.lit (.slice none 0 0), []) | .mk _ _ l => (.own 0 1 0 l.length false, [(0, .row (l.map .byte) 1)])) := by
  cases b with
  | nil => exact s101n
  | mk c t l => exact s101 c t l (by simp only [BS.l] at hl; omega)
theorem fits_type {h : Hd} (hf : fitsB h = true) : h.type = 48 ∨ h.type = 49 ∨ h.type = 50 ∨ h.type = 53 ∨ h.type = 120 := by
  unfold fitsB at hf
  simp only [Bool.and_eq_true] at hf
  have h := hf.2
  split at h
  · rename_i hc
    rcases hc with hc | hc
    · exact .inr (.inl hc)
    · exact .inr (.inr (.inl hc))
  · split at h
    · rename_i hc
      exact .inr (.inr (.inr (.inl hc)))
    · split at h
      · rename_i hc
        rcases hc with hc | hc
        · exact .inl hc
        · exact .inr (.inr (.inr (.inr hc)))
      · cases h
theorem rdH_type {b : BS} (h : (rdH b).2.2 = true) : (rdH b).1.type = 48 ∨ (rdH b).1.type = 49 ∨ (rdH b).1.type = 50 ∨ (rdH b).1.type = 53 ∨ (rdH b).1.type = 120 := by
  unfold rdH at h ⊢
  by_cases c1 : b.l.length < 512 ∨ decOk (b.sl 0 512).l = false
  · rw [if_pos c1] at h
    cases h
  · rw [if_neg c1] at h ⊢
    have hd : decOk (b.sl 0 512).l = true := by
      cases hd : decOk (b.sl 0 512).l with
      | true => rfl
      | false => exact (c1 (.inr hd)).elim
    have hf : fitsB (decH (b.sl 0 512).l) = true := by
      unfold decOk encOk at hd
      simp only [Bool.and_eq_true] at hd
      exact hd.1.2
    by_cases c2 : wholeN (decH (b.sl 0 512).l).size ≤ (b.sl 512 b.l.length).l.length
    · rw [if_pos c2]
      exact fits_type hf
    · rw [if_neg c2] at h
      cases h
theorem type_kind {b : BS} (h : (rdH b).2.2 = true) : (((rdH b).1.type.toNat : Int) = 48 ∧ kindB (rdH b).1.type = 2) ∨ (((rdH b).1.type.toNat : Int) = 49 ∧ kindB (rdH b).1.type = 4) ∨ (((rdH b).1.type.toNat : Int) = 50 ∧ kindB (rdH b).1.type = 3) ∨ (((rdH b).1.type.toNat : Int) = 53 ∧ kindB (rdH b).1.type = 1) ∨ (((rdH b).1.type.toNat : Int) = 120 ∧ kindB (rdH b).1.type = 0) := by
  rcases rdH_type h with h | h | h | h | h <;> rw [h]
  · exact .inl ⟨rfl, rfl⟩
  · exact .inr (.inl ⟨rfl, rfl⟩)
  · exact .inr (.inr (.inl ⟨rfl, rfl⟩))
  · exact .inr (.inr (.inr (.inl ⟨rfl, rfl⟩)))
  · exact .inr (.inr (.inr (.inr ⟨rfl, rfl⟩)))
/-- the entry of a header, without its data -/
def mkE (h : Hd) : Ent := ⟨h.path, kindB h.type, h.mode, h.uid, h.gid, h.time, h.link, .nil⟩
end Go.Abs
/- ARCHIVES, READ: an entry. -/
namespace Go.Abs
open Am
set_option maxRecDepth 10000
set_option linter.unusedSimpArgs false
theorem s61no (b : BS) (hb : b.l.length ≤ 1000000000) (h : (rdH b).2.2 = false) : callT AA 61 [.ptr 0 0] [(0, .var [b.av])] = some (.tuple [.agg (entCs ⟨[], 0, 0, 0, 0, 0, [], .nil⟩ (.lit (.slice none 0 0))), .bool false], [(0, .var [(hdrR b).av])]) := by
  have h1 := s100r b hb
  rw [h] at h1
  simp only [Hd.av] at h1
  refine enter fn61 np61 rfl ?_
  (simp (maxSteps := 2000000) (disch := omega) only [b61, h1, go_sem, Nat.reduceAdd, Nat.reduceSub, Nat.reduceMul, Nat.reduceLT, Nat.reduceLeDiff, Nat.reduceEqDiff, Nat.reduceBEq, Int.reduceLT, Int.reduceLE, Int.reduceEq, Int.reduceToNat, ↓reduceIte, reduceCtorEq]) <;> repeat' (first | ((first | refine gd_dec ?_ ?_ | refine gd_ndec ?_ ?_ | refine cd_dec ?_ ?_ | refine cd_ndec ?_ ?_ | refine gdd_dec ?_ ?_ | refine gdd_ndec ?_ ?_ | refine gd_of ?_ ?_ | refine cd_of ?_ ?_ | refine gdd_of ?_ ?_) <;> intro hg <;> first | (exfalso; omega) | (simp (maxSteps := 2000000) (disch := omega) only [hg, b61, h1, go_sem, Nat.reduceAdd, Nat.reduceSub, Nat.reduceMul, Nat.reduceLT, Nat.reduceLeDiff, Nat.reduceEqDiff, Nat.reduceBEq, Int.reduceLT, Int.reduceLE, Int.reduceEq, Int.reduceToNat, ↓reduceIte, reduceCtorEq])) | (refine And.intro ?_ ?_; focus omega) | omega)
set_option maxHeartbeats 40000000 in
theorem s61p (b : BS) (hb : b.l.length ≤ 1000000000) (h : (rdH b).2.2 = true) (c t : Bool) (l : List UInt8) (hbd : (rdH b).2.1 = .mk c t l) (hl : l.length ≤ 1000000000) (hx : (rdH b).1.type ≠ 120) :
    callT AA 61 [.ptr 0 0] [(0, .var [b.av])] = some (.tuple [.agg (entCs (mkE (rdH b).1) (.own 1 1 0 l.length false)), .bool true], [(0, .var [(hdrR b).av]), (1, .row (l.map .byte) 1)]) := by
  have h1 := s100r b hb
  have k1 := s102 1
  have k2 := s102 2
  have k3 := s102 3
  have k4 := s102 4
  have hc := s101 c t l (by omega)
  have e1 : ((typeB 1).toNat : Int) = 53 := rfl
  have e2 : ((typeB 2).toNat : Int) = 48 := rfl
  have e3 : ((typeB 3).toNat : Int) = 50 := rfl
  have e4 : ((typeB 4).toNat : Int) = 49 := rfl
  rw [e1] at k1
  rw [e2] at k2
  rw [e3] at k3
  rw [e4] at k4
  have hty := type_kind h
  have hx' : ¬ ((rdH b).1.type.toNat : Int) = 120 := by
    intro hh
    rcases rdH_type h with h0 | h0 | h0 | h0 | h0
    all_goals rw [h0] at hh hx
    all_goals first | exact hx rfl | (simp at hh)
  rw [h, hbd] at h1
  simp only [Hd.av, mk_av] at h1 hc
  unfold mkE
  generalize (rdH b).1 = H at *
  have ht := fun k => s103on l.length (l.map .byte) ⟨H.path, k, H.mode, H.uid, H.gid, H.time, H.link, .nil⟩
  simp only [entCs] at ht
  rcases hty with ⟨hT, hK⟩ | ⟨hT, hK⟩ | ⟨hT, hK⟩ | ⟨hT, hK⟩ | ⟨hT, hK⟩
  any_goals (exfalso; omega)
  all_goals rw [hT] at h1
  all_goals rw [hK]
  all_goals clear hT hK hx'
  all_goals refine enter fn61 np61 rfl ?_
  all_goals ((simp (maxSteps := 2000000) (disch := omega) only [b61, h1, hc, lp_head, go_sem, Nat.reduceAdd, Nat.reduceSub, Nat.reduceMul, Nat.reduceLT, Nat.reduceLeDiff, Nat.reduceEqDiff, Nat.reduceBEq, Int.reduceLT, Int.reduceLE, Int.reduceEq, Int.reduceToNat, ↓reduceIte, reduceCtorEq]) <;> repeat' (first | ((first | refine gd_dec ?_ ?_ | refine gd_ndec ?_ ?_ | refine cd_dec ?_ ?_ | refine cd_ndec ?_ ?_ | refine gdd_dec ?_ ?_ | refine gdd_ndec ?_ ?_ | refine gd_of ?_ ?_ | refine cd_of ?_ ?_ | refine gdd_of ?_ ?_) <;> intro hg <;> first | (exfalso; omega) | (simp (maxSteps := 2000000) (disch := omega) only [hg, b61, h1, hc, lp_head, go_sem, Nat.reduceAdd, Nat.reduceSub, Nat.reduceMul, Nat.reduceLT, Nat.reduceLeDiff, Nat.reduceEqDiff, Nat.reduceBEq, Int.reduceLT, Int.reduceLE, Int.reduceEq, Int.reduceToNat, ↓reduceIte, reduceCtorEq])) | (refine And.intro ?_ ?_; focus omega) | omega))
  all_goals refine hd_of (by unfold l61_0; rfl) ?_
  all_goals ((simp (maxSteps := 2000000) (disch := omega) only [k1, lp_head, Int.reduceAdd, go_sem, Nat.reduceAdd, Nat.reduceSub, Nat.reduceMul, Nat.reduceLT, Nat.reduceLeDiff, Nat.reduceEqDiff, Nat.reduceBEq, Int.reduceLT, Int.reduceLE, Int.reduceEq, Int.reduceToNat, ↓reduceIte, reduceCtorEq]) <;> repeat' (first | ((first | refine gd_dec ?_ ?_ | refine gd_ndec ?_ ?_ | refine cd_dec ?_ ?_ | refine cd_ndec ?_ ?_ | refine gdd_dec ?_ ?_ | refine gdd_ndec ?_ ?_ | refine gd_of ?_ ?_ | refine cd_of ?_ ?_ | refine gdd_of ?_ ?_) <;> intro hg <;> first | (exfalso; omega) | (simp (maxSteps := 2000000) (disch := omega) only [hg, k1, lp_head, Int.reduceAdd, go_sem, Nat.reduceAdd, Nat.reduceSub, Nat.reduceMul, Nat.reduceLT, Nat.reduceLeDiff, Nat.reduceEqDiff, Nat.reduceBEq, Int.reduceLT, Int.reduceLE, Int.reduceEq, Int.reduceToNat, ↓reduceIte, reduceCtorEq])) | (refine And.intro ?_ ?_; focus omega) | omega))
  all_goals refine hd_of (by unfold l61_0; rfl) ?_
  all_goals ((simp (maxSteps := 2000000) (disch := omega) only [k2, lp_head, Int.reduceAdd, go_sem, Nat.reduceAdd, Nat.reduceSub, Nat.reduceMul, Nat.reduceLT, Nat.reduceLeDiff, Nat.reduceEqDiff, Nat.reduceBEq, Int.reduceLT, Int.reduceLE, Int.reduceEq, Int.reduceToNat, ↓reduceIte, reduceCtorEq]) <;> repeat' (first | ((first | refine gd_dec ?_ ?_ | refine gd_ndec ?_ ?_ | refine cd_dec ?_ ?_ | refine cd_ndec ?_ ?_ | refine gdd_dec ?_ ?_ | refine gdd_ndec ?_ ?_ | refine gd_of ?_ ?_ | refine cd_of ?_ ?_ | refine gdd_of ?_ ?_) <;> intro hg <;> first | (exfalso; omega) | (simp (maxSteps := 2000000) (disch := omega) only [hg, k2, lp_head, Int.reduceAdd, go_sem, Nat.reduceAdd, Nat.reduceSub, Nat.reduceMul, Nat.reduceLT, Nat.reduceLeDiff, Nat.reduceEqDiff, Nat.reduceBEq, Int.reduceLT, Int.reduceLE, Int.reduceEq, Int.reduceToNat, ↓reduceIte, reduceCtorEq])) | (refine And.intro ?_ ?_; focus omega) | omega))
  all_goals refine hd_of (by unfold l61_0; rfl) ?_
  all_goals ((simp (maxSteps := 2000000) (disch := omega) only [k3, lp_head, Int.reduceAdd, go_sem, Nat.reduceAdd, Nat.reduceSub, Nat.reduceMul, Nat.reduceLT, Nat.reduceLeDiff, Nat.reduceEqDiff, Nat.reduceBEq, Int.reduceLT, Int.reduceLE, Int.reduceEq, Int.reduceToNat, ↓reduceIte, reduceCtorEq]) <;> repeat' (first | ((first | refine gd_dec ?_ ?_ | refine gd_ndec ?_ ?_ | refine cd_dec ?_ ?_ | refine cd_ndec ?_ ?_ | refine gdd_dec ?_ ?_ | refine gdd_ndec ?_ ?_ | refine gd_of ?_ ?_ | refine cd_of ?_ ?_ | refine gdd_of ?_ ?_) <;> intro hg <;> first | (exfalso; omega) | (simp (maxSteps := 2000000) (disch := omega) only [hg, k3, lp_head, Int.reduceAdd, go_sem, Nat.reduceAdd, Nat.reduceSub, Nat.reduceMul, Nat.reduceLT, Nat.reduceLeDiff, Nat.reduceEqDiff, Nat.reduceBEq, Int.reduceLT, Int.reduceLE, Int.reduceEq, Int.reduceToNat, ↓reduceIte, reduceCtorEq])) | (refine And.intro ?_ ?_; focus omega) | omega))
  all_goals refine hd_of (by unfold l61_0; rfl) ?_
  all_goals ((simp (maxSteps := 2000000) (disch := omega) only [k4, lp_head, Int.reduceAdd, go_sem, Nat.reduceAdd, Nat.reduceSub, Nat.reduceMul, Nat.reduceLT, Nat.reduceLeDiff, Nat.reduceEqDiff, Nat.reduceBEq, Int.reduceLT, Int.reduceLE, Int.reduceEq, Int.reduceToNat, ↓reduceIte, reduceCtorEq]) <;> repeat' (first | ((first | refine gd_dec ?_ ?_ | refine gd_ndec ?_ ?_ | refine cd_dec ?_ ?_ | refine cd_ndec ?_ ?_ | refine gdd_dec ?_ ?_ | refine gdd_ndec ?_ ?_ | refine gd_of ?_ ?_ | refine cd_of ?_ ?_ | refine gdd_of ?_ ?_) <;> intro hg <;> first | (exfalso; omega) | (simp (maxSteps := 2000000) (disch := omega) only [hg, k4, lp_head, Int.reduceAdd, go_sem, Nat.reduceAdd, Nat.reduceSub, Nat.reduceMul, Nat.reduceLT, Nat.reduceLeDiff, Nat.reduceEqDiff, Nat.reduceBEq, Int.reduceLT, Int.reduceLE, Int.reduceEq, Int.reduceToNat, ↓reduceIte, reduceCtorEq])) | (refine And.intro ?_ ?_; focus omega) | omega))
  all_goals refine hd_of (by unfold l61_0; rfl) ?_
  all_goals ((simp (maxSteps := 2000000) (disch := omega) only [r61_0, ht, entCs, go_sem, Nat.reduceAdd, Nat.reduceSub, Nat.reduceMul, Nat.reduceLT, Nat.reduceLeDiff, Nat.reduceEqDiff, Nat.reduceBEq, Int.reduceLT, Int.reduceLE, Int.reduceEq, Int.reduceToNat, ↓reduceIte, reduceCtorEq]) <;> repeat' (first | ((first | refine gd_dec ?_ ?_ | refine gd_ndec ?_ ?_ | refine cd_dec ?_ ?_ | refine cd_ndec ?_ ?_ | refine gdd_dec ?_ ?_ | refine gdd_ndec ?_ ?_ | refine gd_of ?_ ?_ | refine cd_of ?_ ?_ | refine gdd_of ?_ ?_) <;> intro hg <;> first | (exfalso; omega) | (simp (maxSteps := 2000000) (disch := omega) only [hg, r61_0, ht, entCs, go_sem, Nat.reduceAdd, Nat.reduceSub, Nat.reduceMul, Nat.reduceLT, Nat.reduceLeDiff, Nat.reduceEqDiff, Nat.reduceBEq, Int.reduceLT, Int.reduceLE, Int.reduceEq, Int.reduceToNat, ↓reduceIte, reduceCtorEq])) | (refine And.intro ?_ ?_; focus omega) | omega))
end Go.Abs
/- ARCHIVES, READ: an entry that records tell of. -/
namespace Go.Abs
open Am
set_option maxRecDepth 10000
set_option linter.unusedSimpArgs false
theorem s61x (b : BS) (hb : b.l.length ≤ 1000000) (h : (rdH b).2.2 = true) (hty : (rdH b).1.type = 120) (hd : paxD (rdH b).2.1.l = none) : callT AA 61 [.ptr 0 0] [(0, .var [b.av])] = some (.tuple [.agg (entCs ⟨[], 0, 0, 0, 0, 0, [], .nil⟩ (.lit (.slice none 0 0))), .bool false], [(0, .var [(hdrR b).av])]) := by
  have h1 := s100r b (by omega)
  have h2 := s35 (rdH b).2.1 (Nat.le_trans (rdH_le b) hb)
  have hT : ((rdH b).1.type.toNat : Int) = 120 := by rw [hty]; rfl
  rw [hd] at h2
  simp only [pdV, pdH] at h2
  rw [h] at h1
  simp only [Hd.av] at h1
  rw [hT] at h1
  refine enter fn61 np61 rfl ?_
  (simp (maxSteps := 2000000) (disch := omega) only [b61, h1, h2, go_sem, Nat.reduceAdd, Nat.reduceSub, Nat.reduceMul, Nat.reduceLT, Nat.reduceLeDiff, Nat.reduceEqDiff, Nat.reduceBEq, Int.reduceLT, Int.reduceLE, Int.reduceEq, Int.reduceToNat, ↓reduceIte, reduceCtorEq]) <;> repeat' (first | ((first | refine gd_dec ?_ ?_ | refine gd_ndec ?_ ?_ | refine cd_dec ?_ ?_ | refine cd_ndec ?_ ?_ | refine gdd_dec ?_ ?_ | refine gdd_ndec ?_ ?_ | refine gd_of ?_ ?_ | refine cd_of ?_ ?_ | refine gdd_of ?_ ?_) <;> intro hg <;> first | (exfalso; omega) | (simp (maxSteps := 2000000) (disch := omega) only [hg, b61, h1, h2, go_sem, Nat.reduceAdd, Nat.reduceSub, Nat.reduceMul, Nat.reduceLT, Nat.reduceLeDiff, Nat.reduceEqDiff, Nat.reduceBEq, Int.reduceLT, Int.reduceLE, Int.reduceEq, Int.reduceToNat, ↓reduceIte, reduceCtorEq])) | (refine And.intro ?_ ?_; focus omega) | omega)
theorem s61xf (b : BS) (hb : b.l.length ≤ 1000000) (h : (rdH b).2.2 = true) (hty : (rdH b).1.type = 120) (rs : List Rcd) (hd : paxD (rdH b).2.1.l = some rs) (h' : (rdH (hdrR b)).2.2 = false) : callT AA 61 [.ptr 0 0] [(0, .var [b.av])] = some (.tuple [.agg (entCs ⟨[], 0, 0, 0, 0, 0, [], .nil⟩ (.lit (.slice none 0 0))), .bool false], [(0, .var [(hdrR (hdrR b)).av])]) := by
  have h1 := s100r b (by omega)
  have h3 := s100r (hdrR b) (by have := hdrR_le b; omega)
  have h2 := s35 (rdH b).2.1 (Nat.le_trans (rdH_le b) hb)
  have hT : ((rdH b).1.type.toNat : Int) = 120 := by rw [hty]; rfl
  rw [hd] at h2
  rw [h] at h1
  rw [h'] at h3
  simp only [Hd.av] at h1 h3
  rw [hT] at h1
  refine enter fn61 np61 rfl ?_
  cases rs with
  | nil =>
    simp only [pdV, pdH] at h2
    (simp (maxSteps := 2000000) (disch := omega) only [b61, h1, h2, h3, go_sem, Nat.reduceAdd, Nat.reduceSub, Nat.reduceMul, Nat.reduceLT, Nat.reduceLeDiff, Nat.reduceEqDiff, Nat.reduceBEq, Int.reduceLT, Int.reduceLE, Int.reduceEq, Int.reduceToNat, ↓reduceIte, reduceCtorEq]) <;> repeat' (first | ((first | refine gd_dec ?_ ?_ | refine gd_ndec ?_ ?_ | refine cd_dec ?_ ?_ | refine cd_ndec ?_ ?_ | refine gdd_dec ?_ ?_ | refine gdd_ndec ?_ ?_ | refine gd_of ?_ ?_ | refine cd_of ?_ ?_ | refine gdd_of ?_ ?_) <;> intro hg <;> first | (exfalso; omega) | (simp (maxSteps := 2000000) (disch := omega) only [hg, b61, h1, h2, h3, go_sem, Nat.reduceAdd, Nat.reduceSub, Nat.reduceMul, Nat.reduceLT, Nat.reduceLeDiff, Nat.reduceEqDiff, Nat.reduceBEq, Int.reduceLT, Int.reduceLE, Int.reduceEq, Int.reduceToNat, ↓reduceIte, reduceCtorEq])) | (refine And.intro ?_ ?_; focus omega) | omega)
  | cons r rs =>
    simp only [pdV, pdH] at h2
    (simp (maxSteps := 2000000) (disch := omega) only [b61, h1, h2, h3, go_sem, Nat.reduceAdd, Nat.reduceSub, Nat.reduceMul, Nat.reduceLT, Nat.reduceLeDiff, Nat.reduceEqDiff, Nat.reduceBEq, Int.reduceLT, Int.reduceLE, Int.reduceEq, Int.reduceToNat, ↓reduceIte, reduceCtorEq]) <;> repeat' (first | ((first | refine gd_dec ?_ ?_ | refine gd_ndec ?_ ?_ | refine cd_dec ?_ ?_ | refine cd_ndec ?_ ?_ | refine gdd_dec ?_ ?_ | refine gdd_ndec ?_ ?_ | refine gd_of ?_ ?_ | refine cd_of ?_ ?_ | refine gdd_of ?_ ?_) <;> intro hg <;> first | (exfalso; omega) | (simp (maxSteps := 2000000) (disch := omega) only [hg, b61, h1, h2, h3, go_sem, Nat.reduceAdd, Nat.reduceSub, Nat.reduceMul, Nat.reduceLT, Nat.reduceLeDiff, Nat.reduceEqDiff, Nat.reduceBEq, Int.reduceLT, Int.reduceLE, Int.reduceEq, Int.reduceToNat, ↓reduceIte, reduceCtorEq])) | (refine And.intro ?_ ?_; focus omega) | omega)
end Go.Abs
/- ARCHIVES, READ: an entry that records tell of. -/
namespace Go.Abs
open Am
set_option maxRecDepth 10000
set_option linter.unusedSimpArgs false
set_option maxHeartbeats 40000000 in
theorem s61x1 (b : BS) (hb : b.l.length ≤ 1000000) (h : (rdH b).2.2 = true) (hx : (rdH b).1.type = 120) (r : Rcd) (rs : List Rcd) (hd : paxD (rdH b).2.1.l = some (r :: rs)) (h' : (rdH (hdrR b)).2.2 = true) (c t : Bool) (l : List UInt8) (hbd : (rdH (hdrR b)).2.1 = .mk c t l) (hl : l.length ≤ 1000000000) (hrs : ∀ x ∈ r :: rs, RcdOk x) (hrl : (r :: rs).length ≤ 1000000) :
    callT AA 61 [.ptr 0 0] [(0, .var [b.av])] = some (.tuple [.agg (entCs (toldE (mkE (rdH (hdrR b)).1) (r :: rs)).1 (.own 1 1 0 l.length false)), .bool (toldE (mkE (rdH (hdrR b)).1) (r :: rs)).2], [(0, .var [(hdrR (hdrR b)).av]), (1, .row (l.map .byte) 1)]) := by
  have h1 := s100r b (by omega)
  have h3 := s100r (hdrR b) (by have := hdrR_le b; omega)
  have h2 := s35 (rdH b).2.1 (Nat.le_trans (rdH_le b) hb)
  have k1 := s102 1
  have k2 := s102 2
  have k3 := s102 3
  have k4 := s102 4
  have hc := s101 c t l (by omega)
  have e1 : ((typeB 1).toNat : Int) = 53 := rfl
  have e2 : ((typeB 2).toNat : Int) = 48 := rfl
  have e3 : ((typeB 3).toNat : Int) = 50 := rfl
  have e4 : ((typeB 4).toNat : Int) = 49 := rfl
  rw [e1] at k1
  rw [e2] at k2
  rw [e3] at k3
  rw [e4] at k4
  rw [hd] at h2
  simp only [pdV, pdH] at h2
  rw [h] at h1
  have hty := type_kind h'
  rw [h', hbd] at h3
  simp only [Hd.av, mk_av] at h1 h3 hc
  have hTx : ((rdH b).1.type.toNat : Int) = 120 := by rw [hx]; rfl
  unfold mkE
  generalize (rdH (hdrR b)).1 = H at *
  rw [hTx] at h1
  clear hTx hx
  rcases hty with ⟨hT, hK⟩ | ⟨hT, hK⟩ | ⟨hT, hK⟩ | ⟨hT, hK⟩ | ⟨hT, hK⟩
  all_goals rw [hT] at h3
  all_goals rw [hK]
  all_goals clear hT hK
  all_goals have ht := fun cc tt k => s103o cc tt (r :: rs) hrl hrs l.length (l.map .byte) ⟨H.path, k, H.mode, H.uid, H.gid, H.time, H.link, .nil⟩
  all_goals generalize toldE = TE at *
  all_goals generalize r :: rs = L at *
  all_goals simp only [entCs] at ht
  all_goals refine enter fn61 np61 rfl ?_
  all_goals ((simp (maxSteps := 2000000) (disch := omega) only [b61, h1, h2, h3, hc, lp_head, go_sem, Nat.reduceAdd, Nat.reduceSub, Nat.reduceMul, Nat.reduceLT, Nat.reduceLeDiff, Nat.reduceEqDiff, Nat.reduceBEq, Int.reduceLT, Int.reduceLE, Int.reduceEq, Int.reduceToNat, ↓reduceIte, reduceCtorEq]) <;> repeat' (first | ((first | refine gd_dec ?_ ?_ | refine gd_ndec ?_ ?_ | refine cd_dec ?_ ?_ | refine cd_ndec ?_ ?_ | refine gdd_dec ?_ ?_ | refine gdd_ndec ?_ ?_ | refine gd_of ?_ ?_ | refine cd_of ?_ ?_ | refine gdd_of ?_ ?_) <;> intro hg <;> first | (exfalso; omega) | (simp (maxSteps := 2000000) (disch := omega) only [hg, b61, h1, h2, h3, hc, lp_head, go_sem, Nat.reduceAdd, Nat.reduceSub, Nat.reduceMul, Nat.reduceLT, Nat.reduceLeDiff, Nat.reduceEqDiff, Nat.reduceBEq, Int.reduceLT, Int.reduceLE, Int.reduceEq, Int.reduceToNat, ↓reduceIte, reduceCtorEq])) | (refine And.intro ?_ ?_; focus omega) | omega))
  all_goals refine hd_of (by unfold l61_0; rfl) ?_
  all_goals ((simp (maxSteps := 2000000) (disch := omega) only [k1, lp_head, Int.reduceAdd, go_sem, Nat.reduceAdd, Nat.reduceSub, Nat.reduceMul, Nat.reduceLT, Nat.reduceLeDiff, Nat.reduceEqDiff, Nat.reduceBEq, Int.reduceLT, Int.reduceLE, Int.reduceEq, Int.reduceToNat, ↓reduceIte, reduceCtorEq]) <;> repeat' (first | ((first | refine gd_dec ?_ ?_ | refine gd_ndec ?_ ?_ | refine cd_dec ?_ ?_ | refine cd_ndec ?_ ?_ | refine gdd_dec ?_ ?_ | refine gdd_ndec ?_ ?_ | refine gd_of ?_ ?_ | refine cd_of ?_ ?_ | refine gdd_of ?_ ?_) <;> intro hg <;> first | (exfalso; omega) | (simp (maxSteps := 2000000) (disch := omega) only [hg, k1, lp_head, Int.reduceAdd, go_sem, Nat.reduceAdd, Nat.reduceSub, Nat.reduceMul, Nat.reduceLT, Nat.reduceLeDiff, Nat.reduceEqDiff, Nat.reduceBEq, Int.reduceLT, Int.reduceLE, Int.reduceEq, Int.reduceToNat, ↓reduceIte, reduceCtorEq])) | (refine And.intro ?_ ?_; focus omega) | omega))
  all_goals refine hd_of (by unfold l61_0; rfl) ?_
  all_goals ((simp (maxSteps := 2000000) (disch := omega) only [k2, lp_head, Int.reduceAdd, go_sem, Nat.reduceAdd, Nat.reduceSub, Nat.reduceMul, Nat.reduceLT, Nat.reduceLeDiff, Nat.reduceEqDiff, Nat.reduceBEq, Int.reduceLT, Int.reduceLE, Int.reduceEq, Int.reduceToNat, ↓reduceIte, reduceCtorEq]) <;> repeat' (first | ((first | refine gd_dec ?_ ?_ | refine gd_ndec ?_ ?_ | refine cd_dec ?_ ?_ | refine cd_ndec ?_ ?_ | refine gdd_dec ?_ ?_ | refine gdd_ndec ?_ ?_ | refine gd_of ?_ ?_ | refine cd_of ?_ ?_ | refine gdd_of ?_ ?_) <;> intro hg <;> first | (exfalso; omega) | (simp (maxSteps := 2000000) (disch := omega) only [hg, k2, lp_head, Int.reduceAdd, go_sem, Nat.reduceAdd, Nat.reduceSub, Nat.reduceMul, Nat.reduceLT, Nat.reduceLeDiff, Nat.reduceEqDiff, Nat.reduceBEq, Int.reduceLT, Int.reduceLE, Int.reduceEq, Int.reduceToNat, ↓reduceIte, reduceCtorEq])) | (refine And.intro ?_ ?_; focus omega) | omega))
  all_goals refine hd_of (by unfold l61_0; rfl) ?_
  all_goals ((simp (maxSteps := 2000000) (disch := omega) only [k3, lp_head, Int.reduceAdd, go_sem, Nat.reduceAdd, Nat.reduceSub, Nat.reduceMul, Nat.reduceLT, Nat.reduceLeDiff, Nat.reduceEqDiff, Nat.reduceBEq, Int.reduceLT, Int.reduceLE, Int.reduceEq, Int.reduceToNat, ↓reduceIte, reduceCtorEq]) <;> repeat' (first | ((first | refine gd_dec ?_ ?_ | refine gd_ndec ?_ ?_ | refine cd_dec ?_ ?_ | refine cd_ndec ?_ ?_ | refine gdd_dec ?_ ?_ | refine gdd_ndec ?_ ?_ | refine gd_of ?_ ?_ | refine cd_of ?_ ?_ | refine gdd_of ?_ ?_) <;> intro hg <;> first | (exfalso; omega) | (simp (maxSteps := 2000000) (disch := omega) only [hg, k3, lp_head, Int.reduceAdd, go_sem, Nat.reduceAdd, Nat.reduceSub, Nat.reduceMul, Nat.reduceLT, Nat.reduceLeDiff, Nat.reduceEqDiff, Nat.reduceBEq, Int.reduceLT, Int.reduceLE, Int.reduceEq, Int.reduceToNat, ↓reduceIte, reduceCtorEq])) | (refine And.intro ?_ ?_; focus omega) | omega))
  all_goals refine hd_of (by unfold l61_0; rfl) ?_
  all_goals ((simp (maxSteps := 2000000) (disch := omega) only [k4, lp_head, Int.reduceAdd, go_sem, Nat.reduceAdd, Nat.reduceSub, Nat.reduceMul, Nat.reduceLT, Nat.reduceLeDiff, Nat.reduceEqDiff, Nat.reduceBEq, Int.reduceLT, Int.reduceLE, Int.reduceEq, Int.reduceToNat, ↓reduceIte, reduceCtorEq]) <;> repeat' (first | ((first | refine gd_dec ?_ ?_ | refine gd_ndec ?_ ?_ | refine cd_dec ?_ ?_ | refine cd_ndec ?_ ?_ | refine gdd_dec ?_ ?_ | refine gdd_ndec ?_ ?_ | refine gd_of ?_ ?_ | refine cd_of ?_ ?_ | refine gdd_of ?_ ?_) <;> intro hg <;> first | (exfalso; omega) | (simp (maxSteps := 2000000) (disch := omega) only [hg, k4, lp_head, Int.reduceAdd, go_sem, Nat.reduceAdd, Nat.reduceSub, Nat.reduceMul, Nat.reduceLT, Nat.reduceLeDiff, Nat.reduceEqDiff, Nat.reduceBEq, Int.reduceLT, Int.reduceLE, Int.reduceEq, Int.reduceToNat, ↓reduceIte, reduceCtorEq])) | (refine And.intro ?_ ?_; focus omega) | omega))
  all_goals refine hd_of (by unfold l61_0; rfl) ?_
  all_goals ((simp (maxSteps := 2000000) (disch := omega) only [r61_0, ht, entCs, go_sem, Nat.reduceAdd, Nat.reduceSub, Nat.reduceMul, Nat.reduceLT, Nat.reduceLeDiff, Nat.reduceEqDiff, Nat.reduceBEq, Int.reduceLT, Int.reduceLE, Int.reduceEq, Int.reduceToNat, ↓reduceIte, reduceCtorEq]) <;> repeat' (first | ((first | refine gd_dec ?_ ?_ | refine gd_ndec ?_ ?_ | refine cd_dec ?_ ?_ | refine cd_ndec ?_ ?_ | refine gdd_dec ?_ ?_ | refine gdd_ndec ?_ ?_ | refine gd_of ?_ ?_ | refine cd_of ?_ ?_ | refine gdd_of ?_ ?_) <;> intro hg <;> first | (exfalso; omega) | (simp (maxSteps := 2000000) (disch := omega) only [hg, r61_0, ht, entCs, go_sem, Nat.reduceAdd, Nat.reduceSub, Nat.reduceMul, Nat.reduceLT, Nat.reduceLeDiff, Nat.reduceEqDiff, Nat.reduceBEq, Int.reduceLT, Int.reduceLE, Int.reduceEq, Int.reduceToNat, ↓reduceIte, reduceCtorEq])) | (refine And.intro ?_ ?_; focus omega) | omega))
end Go.Abs
/- ARCHIVES, READ: an entry that records tell of. -/
namespace Go.Abs
open Am
set_option maxRecDepth 10000
set_option linter.unusedSimpArgs false
set_option maxHeartbeats 40000000 in
theorem s61y1 (b : BS) (hb : b.l.length ≤ 1000000) (h : (rdH b).2.2 = true) (hx : (rdH b).1.type = 120) (hd : paxD (rdH b).2.1.l = some []) (h' : (rdH (hdrR b)).2.2 = true) (c t : Bool) (l : List UInt8) (hbd : (rdH (hdrR b)).2.1 = .mk c t l) (hl : l.length ≤ 1000000000) :
    callT AA 61 [.ptr 0 0] [(0, .var [b.av])] = some (.tuple [.agg (entCs (mkE (rdH (hdrR b)).1) (.own 1 1 0 l.length false)), .bool true], [(0, .var [(hdrR (hdrR b)).av]), (1, .row (l.map .byte) 1)]) := by
  have h1 := s100r b (by omega)
  have h3 := s100r (hdrR b) (by have := hdrR_le b; omega)
  have h2 := s35 (rdH b).2.1 (Nat.le_trans (rdH_le b) hb)
  have k1 := s102 1
  have k2 := s102 2
  have k3 := s102 3
  have k4 := s102 4
  have hc := s101 c t l (by omega)
  have e1 : ((typeB 1).toNat : Int) = 53 := rfl
  have e2 : ((typeB 2).toNat : Int) = 48 := rfl
  have e3 : ((typeB 3).toNat : Int) = 50 := rfl
  have e4 : ((typeB 4).toNat : Int) = 49 := rfl
  rw [e1] at k1
  rw [e2] at k2
  rw [e3] at k3
  rw [e4] at k4
  rw [hd] at h2
  simp only [pdV, pdH] at h2
  rw [h] at h1
  have hty := type_kind h'
  rw [h', hbd] at h3
  simp only [Hd.av, mk_av] at h1 h3 hc
  have hTx : ((rdH b).1.type.toNat : Int) = 120 := by rw [hx]; rfl
  unfold mkE
  generalize (rdH (hdrR b)).1 = H at *
  rw [hTx] at h1
  clear hTx hx
  rcases hty with ⟨hT, hK⟩ | ⟨hT, hK⟩ | ⟨hT, hK⟩ | ⟨hT, hK⟩ | ⟨hT, hK⟩
  all_goals rw [hT] at h3
  all_goals rw [hK]
  all_goals clear hT hK
  all_goals have ht := fun k => s103on l.length (l.map .byte) ⟨H.path, k, H.mode, H.uid, H.gid, H.time, H.link, .nil⟩
  all_goals simp only [entCs] at ht
  all_goals refine enter fn61 np61 rfl ?_
  all_goals ((simp (maxSteps := 2000000) (disch := omega) only [b61, h1, h2, h3, hc, lp_head, go_sem, Nat.reduceAdd, Nat.reduceSub, Nat.reduceMul, Nat.reduceLT, Nat.reduceLeDiff, Nat.reduceEqDiff, Nat.reduceBEq, Int.reduceLT, Int.reduceLE, Int.reduceEq, Int.reduceToNat, ↓reduceIte, reduceCtorEq]) <;> repeat' (first | ((first | refine gd_dec ?_ ?_ | refine gd_ndec ?_ ?_ | refine cd_dec ?_ ?_ | refine cd_ndec ?_ ?_ | refine gdd_dec ?_ ?_ | refine gdd_ndec ?_ ?_ | refine gd_of ?_ ?_ | refine cd_of ?_ ?_ | refine gdd_of ?_ ?_) <;> intro hg <;> first | (exfalso; omega) | (simp (maxSteps := 2000000) (disch := omega) only [hg, b61, h1, h2, h3, hc, lp_head, go_sem, Nat.reduceAdd, Nat.reduceSub, Nat.reduceMul, Nat.reduceLT, Nat.reduceLeDiff, Nat.reduceEqDiff, Nat.reduceBEq, Int.reduceLT, Int.reduceLE, Int.reduceEq, Int.reduceToNat, ↓reduceIte, reduceCtorEq])) | (refine And.intro ?_ ?_; focus omega) | omega))
  all_goals refine hd_of (by unfold l61_0; rfl) ?_
  all_goals ((simp (maxSteps := 2000000) (disch := omega) only [k1, lp_head, Int.reduceAdd, go_sem, Nat.reduceAdd, Nat.reduceSub, Nat.reduceMul, Nat.reduceLT, Nat.reduceLeDiff, Nat.reduceEqDiff, Nat.reduceBEq, Int.reduceLT, Int.reduceLE, Int.reduceEq, Int.reduceToNat, ↓reduceIte, reduceCtorEq]) <;> repeat' (first | ((first | refine gd_dec ?_ ?_ | refine gd_ndec ?_ ?_ | refine cd_dec ?_ ?_ | refine cd_ndec ?_ ?_ | refine gdd_dec ?_ ?_ | refine gdd_ndec ?_ ?_ | refine gd_of ?_ ?_ | refine cd_of ?_ ?_ | refine gdd_of ?_ ?_) <;> intro hg <;> first | (exfalso; omega) | (simp (maxSteps := 2000000) (disch := omega) only [hg, k1, lp_head, Int.reduceAdd, go_sem, Nat.reduceAdd, Nat.reduceSub, Nat.reduceMul, Nat.reduceLT, Nat.reduceLeDiff, Nat.reduceEqDiff, Nat.reduceBEq, Int.reduceLT, Int.reduceLE, Int.reduceEq, Int.reduceToNat, ↓reduceIte, reduceCtorEq])) | (refine And.intro ?_ ?_; focus omega) | omega))
  all_goals refine hd_of (by unfold l61_0; rfl) ?_
  all_goals ((simp (maxSteps := 2000000) (disch := omega) only [k2, lp_head, Int.reduceAdd, go_sem, Nat.reduceAdd, Nat.reduceSub, Nat.reduceMul, Nat.reduceLT, Nat.reduceLeDiff, Nat.reduceEqDiff, Nat.reduceBEq, Int.reduceLT, Int.reduceLE, Int.reduceEq, Int.reduceToNat, ↓reduceIte, reduceCtorEq]) <;> repeat' (first | ((first | refine gd_dec ?_ ?_ | refine gd_ndec ?_ ?_ | refine cd_dec ?_ ?_ | refine cd_ndec ?_ ?_ | refine gdd_dec ?_ ?_ | refine gdd_ndec ?_ ?_ | refine gd_of ?_ ?_ | refine cd_of ?_ ?_ | refine gdd_of ?_ ?_) <;> intro hg <;> first | (exfalso; omega) | (simp (maxSteps := 2000000) (disch := omega) only [hg, k2, lp_head, Int.reduceAdd, go_sem, Nat.reduceAdd, Nat.reduceSub, Nat.reduceMul, Nat.reduceLT, Nat.reduceLeDiff, Nat.reduceEqDiff, Nat.reduceBEq, Int.reduceLT, Int.reduceLE, Int.reduceEq, Int.reduceToNat, ↓reduceIte, reduceCtorEq])) | (refine And.intro ?_ ?_; focus omega) | omega))
  all_goals refine hd_of (by unfold l61_0; rfl) ?_
  all_goals ((simp (maxSteps := 2000000) (disch := omega) only [k3, lp_head, Int.reduceAdd, go_sem, Nat.reduceAdd, Nat.reduceSub, Nat.reduceMul, Nat.reduceLT, Nat.reduceLeDiff, Nat.reduceEqDiff, Nat.reduceBEq, Int.reduceLT, Int.reduceLE, Int.reduceEq, Int.reduceToNat, ↓reduceIte, reduceCtorEq]) <;> repeat' (first | ((first | refine gd_dec ?_ ?_ | refine gd_ndec ?_ ?_ | refine cd_dec ?_ ?_ | refine cd_ndec ?_ ?_ | refine gdd_dec ?_ ?_ | refine gdd_ndec ?_ ?_ | refine gd_of ?_ ?_ | refine cd_of ?_ ?_ | refine gdd_of ?_ ?_) <;> intro hg <;> first | (exfalso; omega) | (simp (maxSteps := 2000000) (disch := omega) only [hg, k3, lp_head, Int.reduceAdd, go_sem, Nat.reduceAdd, Nat.reduceSub, Nat.reduceMul, Nat.reduceLT, Nat.reduceLeDiff, Nat.reduceEqDiff, Nat.reduceBEq, Int.reduceLT, Int.reduceLE, Int.reduceEq, Int.reduceToNat, ↓reduceIte, reduceCtorEq])) | (refine And.intro ?_ ?_; focus omega) | omega))
  all_goals refine hd_of (by unfold l61_0; rfl) ?_
  all_goals ((simp (maxSteps := 2000000) (disch := omega) only [k4, lp_head, Int.reduceAdd, go_sem, Nat.reduceAdd, Nat.reduceSub, Nat.reduceMul, Nat.reduceLT, Nat.reduceLeDiff, Nat.reduceEqDiff, Nat.reduceBEq, Int.reduceLT, Int.reduceLE, Int.reduceEq, Int.reduceToNat, ↓reduceIte, reduceCtorEq]) <;> repeat' (first | ((first | refine gd_dec ?_ ?_ | refine gd_ndec ?_ ?_ | refine cd_dec ?_ ?_ | refine cd_ndec ?_ ?_ | refine gdd_dec ?_ ?_ | refine gdd_ndec ?_ ?_ | refine gd_of ?_ ?_ | refine cd_of ?_ ?_ | refine gdd_of ?_ ?_) <;> intro hg <;> first | (exfalso; omega) | (simp (maxSteps := 2000000) (disch := omega) only [hg, k4, lp_head, Int.reduceAdd, go_sem, Nat.reduceAdd, Nat.reduceSub, Nat.reduceMul, Nat.reduceLT, Nat.reduceLeDiff, Nat.reduceEqDiff, Nat.reduceBEq, Int.reduceLT, Int.reduceLE, Int.reduceEq, Int.reduceToNat, ↓reduceIte, reduceCtorEq])) | (refine And.intro ?_ ?_; focus omega) | omega))
  all_goals refine hd_of (by unfold l61_0; rfl) ?_
  all_goals ((simp (maxSteps := 2000000) (disch := omega) only [r61_0, ht, entCs, go_sem, Nat.reduceAdd, Nat.reduceSub, Nat.reduceMul, Nat.reduceLT, Nat.reduceLeDiff, Nat.reduceEqDiff, Nat.reduceBEq, Int.reduceLT, Int.reduceLE, Int.reduceEq, Int.reduceToNat, ↓reduceIte, reduceCtorEq]) <;> repeat' (first | ((first | refine gd_dec ?_ ?_ | refine gd_ndec ?_ ?_ | refine cd_dec ?_ ?_ | refine cd_ndec ?_ ?_ | refine gdd_dec ?_ ?_ | refine gdd_ndec ?_ ?_ | refine gd_of ?_ ?_ | refine cd_of ?_ ?_ | refine gdd_of ?_ ?_) <;> intro hg <;> first | (exfalso; omega) | (simp (maxSteps := 2000000) (disch := omega) only [hg, r61_0, ht, entCs, go_sem, Nat.reduceAdd, Nat.reduceSub, Nat.reduceMul, Nat.reduceLT, Nat.reduceLeDiff, Nat.reduceEqDiff, Nat.reduceBEq, Int.reduceLT, Int.reduceLE, Int.reduceEq, Int.reduceToNat, ↓reduceIte, reduceCtorEq])) | (refine And.intro ?_ ?_; focus omega) | omega))
end Go.Abs
/- ARCHIVES, READ: an entry, in one rule. -/
namespace Go.Abs
open Am
set_option maxRecDepth 10000
set_option linter.unusedSimpArgs false
/-- the next entry, what is left behind it -/
def entP (b : BS) : Option (Ent × BS) :=
  if (rdH b).2.2 = false then none else
  if (rdH b).1.type = 120 then
    match paxD (rdH b).2.1.l with
    | none => none
    | some rs => if (rdH (hdrR b)).2.2 = false then none else
      if (toldE (mkE (rdH (hdrR b)).1) rs).2 = true then some ({ (toldE (mkE (rdH (hdrR b)).1) rs).1 with data := .mk false false (rdH (hdrR b)).2.1.l }, hdrR (hdrR b)) else none
  else some ({ mkE (rdH b).1 with data := .mk false false (rdH b).2.1.l }, hdrR b)
theorem decP_ok : ∀ (k : Nat) (p : Option Rcd) (acc : List Rcd) (l : List UInt8) (rs : List Rcd), decP k p acc l = some rs → (∀ r ∈ acc, r.key.length ≤ 65536 ∧ r.value.length ≤ 65536) → l.length ≤ 65536 → (∀ r ∈ rs, r.key.length ≤ 65536 ∧ r.value.length ≤ 65536) ∧ rs.length ≤ acc.length + k
  | 0, p, acc, l, rs, h, ha, hl => by
    unfold decP at h
    cases h
    exact ⟨ha, by omega⟩
  | k + 1, p, acc, l, rs, h, ha, hl => by
    unfold decP at h
    by_cases c0 : l = []
    · rw [if_pos c0] at h
      cases h
      exact ⟨ha, by omega⟩
    rw [if_neg c0] at h
    by_cases c1 : (firstP l).2 = 0 ∨ aftB p (firstP l).1 = false
    · rw [if_pos c1] at h
      cases h
    rw [if_neg c1] at h
    have hf := firstP_le l
    obtain ⟨h1, h2⟩ := decP_ok k _ _ _ _ h (by
      intro r hr
      rcases List.mem_append.1 hr with hr | hr
      · exact ha r hr
      · rw [List.mem_singleton.1 hr]
        omega) (by rw [List.length_drop]; omega)
    rw [List.length_append, List.length_singleton] at h2
    exact ⟨h1, by omega⟩
theorem paxD_ok {l : List UInt8} {rs : List Rcd} (h : paxD l = some rs) : (∀ r ∈ rs, RcdOk r) ∧ rs.length ≤ 1000000 := by
  unfold paxD at h
  by_cases c : 65536 < l.length
  · rw [if_pos c] at h
    cases h
  rw [if_neg c] at h
  obtain ⟨h1, h2⟩ := decP_ok _ _ _ _ _ h (by simp) (by omega)
  refine ⟨fun r hr => ?_, ?_⟩
  · have := h1 r hr
    exact ⟨by omega, by omega⟩
  · simp at h2
    omega
theorem rdH_mk {b : BS} (h : (rdH b).2.2 = true) : ∃ c t l, (rdH b).2.1 = .mk c t l := by
  unfold rdH at h ⊢
  by_cases c1 : b.l.length < 512 ∨ decOk (b.sl 0 512).l = false
  · rw [if_pos c1] at h
    cases h
  · rw [if_neg c1] at h ⊢
    by_cases c2 : wholeN (decH (b.sl 0 512).l).size ≤ (b.sl 512 b.l.length).l.length
    · rw [if_pos c2]
      cases b with
      | nil => exact (c1 (.inl (by simp [BS.l]))).elim
      | mk c t l => exact ⟨_, _, _, rfl⟩
    · rw [if_neg c2] at h
      cases h
/-- what an entry's reading gives -/
def EntR (b : BS) : Prop := match entP b with
  | some (e, r) => callT AA 61 [.ptr 0 0] [(0, .var [b.av])] = some (.tuple [.agg (entCs e (.own 1 1 0 e.data.l.length false)), .bool true], [(0, .var [r.av]), (1, .row (e.data.l.map .byte) 1)])
  | none => (∃ e r, callT AA 61 [.ptr 0 0] [(0, .var [b.av])] = some (.tuple [.agg (entCs e (.lit (.slice none 0 0))), .bool false], [(0, .var [BS.av r])])) ∨
    (∃ e r l, callT AA 61 [.ptr 0 0] [(0, .var [b.av])] = some (.tuple [.agg (entCs e (.own 1 1 0 (List.length l) false)), .bool false], [(0, .var [BS.av r]), (1, .row (l.map .byte) 1)]))
theorem s61f (b : BS) (hb : b.l.length ≤ 1000000) : EntR b := by
  unfold EntR entP
  by_cases c0 : (rdH b).2.2 = false
  · rw [if_pos c0]
    exact .inl ⟨_, _, s61no b (by omega) c0⟩
  rw [if_neg c0]
  have c0 : (rdH b).2.2 = true := by simpa using c0
  obtain ⟨c, t, l, hbd⟩ := rdH_mk c0
  have hl : l.length ≤ 1000000 := by
    have := rdH_le b
    rw [hbd, mk_l] at this
    omega
  by_cases c1 : (rdH b).1.type = 120
  · rw [if_pos c1]
    cases c2 : paxD (rdH b).2.1.l with
    | none => exact .inl ⟨_, _, s61x b hb c0 c1 c2⟩
    | some rs =>
      simp only
      by_cases c3 : (rdH (hdrR b)).2.2 = false
      · rw [if_pos c3]
        exact .inl ⟨_, _, s61xf b hb c0 c1 rs c2 c3⟩
      rw [if_neg c3]
      have c3 : (rdH (hdrR b)).2.2 = true := by simpa using c3
      obtain ⟨c', t', l', hbd'⟩ := rdH_mk c3
      have hl' : l'.length ≤ 1000000000 := by
        have h1 := rdH_le (hdrR b)
        have h2 := hdrR_le b
        rw [hbd', mk_l] at h1
        omega
      have hrs := paxD_ok c2
      have key : callT AA 61 [.ptr 0 0] [(0, .var [b.av])] = some (.tuple [.agg (entCs (toldE (mkE (rdH (hdrR b)).1) rs).1 (.own 1 1 0 l'.length false)), .bool (toldE (mkE (rdH (hdrR b)).1) rs).2], [(0, .var [(hdrR (hdrR b)).av]), (1, .row (l'.map .byte) 1)]) := by
        cases rs with
        | nil => exact s61y1 b hb c0 c1 c2 c3 c' t' l' hbd' hl'
        | cons r rs => exact s61x1 b hb c0 c1 r rs c2 c3 c' t' l' hbd' hl' hrs.1 hrs.2
      have hb1 : (rdH (hdrR b)).2.1.l = l' := by rw [hbd']; rfl
      rw [hb1]
      by_cases c4 : (toldE (mkE (rdH (hdrR b)).1) rs).2 = true
      · rw [if_pos c4]
        rw [c4] at key
        exact key
      · rw [if_neg c4]
        have c4 : (toldE (mkE (rdH (hdrR b)).1) rs).2 = false := by simpa using c4
        rw [c4] at key
        exact .inr ⟨_, _, _, key⟩
  · rw [if_neg c1]
    have hb1 : (rdH b).2.1.l = l := by rw [hbd]; rfl
    rw [hb1]
    show callT AA 61 [.ptr 0 0] [(0, .var [b.av])] = some (.tuple [.agg (entCs (mkE (rdH b).1) (.own 1 1 0 l.length false)), .bool true], [(0, .var [(hdrR b).av]), (1, .row (l.map .byte) 1)])
    exact s61p b (by omega) c0 c t l hbd (by omega) c1
end Go.Abs
