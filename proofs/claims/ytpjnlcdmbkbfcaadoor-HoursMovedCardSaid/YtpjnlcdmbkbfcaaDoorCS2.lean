/- The next day's date, the next beginning of a month, months of the market within a year of the court, cycles. Plain. -/
import Derived.Test.YtpjnlcdmbkbfcaaDoorCSpec
namespace Go.Proofs.YtpjnlcdmbkbfcaaDoor

/-- A date's parts, its bounds. -/
theorem dat_bd {mk : Bool} {day y m d : Int} (h0 : 0 ≤ day) (h1 : day < dMax mk) (e : dat mk day = (y, m, d)) : okD mk y m d = true ∧ num mk y m d = day := by
  have := dat_ok (mk := mk) h0 h1
  rw [e] at this
  exact this
theorem dat_within {mk : Bool} {day y m d : Int} (h0 : 0 ≤ day) (h1 : day < dMax mk) (e : dat mk day = (y, m, d)) {n : Int} (hn : day ≤ n) (hn' : n < day + mln mk y m - d + 1) : dat mk n = (y, m, d + (n - day)) := by
  obtain ⟨h2, h3⟩ := dat_bd h0 h1 e
  obtain ⟨⟨a1, a2⟩, ⟨b1, b2⟩, c1, c2⟩ := okD_iff.1 h2
  apply dat_eq (okD_iff.2 ⟨⟨a1, a2⟩, ⟨b1, b2⟩, by omega, by omega⟩)
  unfold num at *
  omega
theorem sta_lt_year {mk : Bool} {y : Int} (_hy : 1 ≤ y) (h : sta mk y < dMax mk) : y ≤ 9999 := by
  rcases Int.lt_or_le y 10000 with h1 | h1
  · omega
  · have := sta_mono mk (y := 10000) (z := y) (by omega) h1
    unfold dMax at h
    omega
theorem nmo_pos (mk : Bool) : 12 ≤ nmo mk := by cases mk <;> decide
theorem mln_pos {mk : Bool} {y m : Int} (hy : 1 ≤ y) (h : 1 ≤ m) (h' : m ≤ nmo mk) : 1 ≤ mln mk y m := by have := mln_bd mk hy h h'; omega
/-- The first day behind a month begins the next one. -/
theorem dat_behind {mk : Bool} {day y m d : Int} (h0 : 0 ≤ day) (h1 : day < dMax mk) (e : dat mk day = (y, m, d)) (h2 : day + mln mk y m - d + 1 < dMax mk) :
    dat mk (day + mln mk y m - d + 1) = if m < nmo mk then (y, m + 1, 1) else (y + 1, 1, 1) := by
  obtain ⟨h3, h4⟩ := dat_bd h0 h1 e
  obtain ⟨⟨a1, a2⟩, ⟨b1, b2⟩, c1, c2⟩ := okD_iff.1 h3
  split
  · rename_i h
    have h5 := mln_pos (mk := mk) (m := m + 1) a1 (by omega) (by omega)
    apply dat_eq (okD_iff.2 ⟨⟨a1, a2⟩, ⟨by omega, by omega⟩, by omega, by omega⟩)
    have := pre_step mk y b1 h
    unfold num at *
    omega
  · rename_i h
    obtain rfl : m = nmo mk := by omega
    have h6 := sta_step mk y
    have h7 := pre_last mk y
    have h8 : sta mk (y + 1) = day + mln mk y (nmo mk) - d + 1 := by unfold num at h4; omega
    have h9 := sta_lt_year (mk := mk) (y := y + 1) (by omega) (by omega)
    have hn := nmo_pos mk
    have h5 := mln_pos (mk := mk) (y := y + 1) (m := 1) (by omega) (by omega) (by omega)
    apply dat_eq (okD_iff.2 ⟨⟨by omega, h9⟩, ⟨by omega, by omega⟩, by omega, by omega⟩)
    unfold num
    rw [pre_1]
    omega
/-- The next day has the next date. -/
theorem dat_next {mk : Bool} {day y m d : Int} (h0 : 0 ≤ day) (h1 : day + 1 < dMax mk) (e : dat mk day = (y, m, d)) :
    dat mk (day + 1) = if d < mln mk y m then (y, m, d + 1) else if m < nmo mk then (y, m + 1, 1) else (y + 1, 1, 1) := by
  obtain ⟨h3, h4⟩ := dat_bd h0 (by omega) e
  obtain ⟨⟨a1, a2⟩, ⟨b1, b2⟩, c1, c2⟩ := okD_iff.1 h3
  split
  · rename_i h
    have := dat_within h0 (by omega) e (n := day + 1) (by omega) (by omega)
    rw [this, show d + (day + 1 - day) = d + 1 by omega]
  · rename_i h
    have h5 : day + mln mk y m - d + 1 = day + 1 := by omega
    have := dat_behind h0 (by omega) e (by omega)
    rw [h5] at this
    exact this

theorem bgn_iff {mk : Bool} {day : Int} : bgn mk day = true ↔ (0 ≤ day ∧ day < dMax mk) ∧ (dat mk day).2.2 = 1 := by
  simp only [bgn, Bool.and_eq_true, decide_eq_true_eq]
theorem bgn_false {mk : Bool} {day y m d : Int} (h0 : 0 ≤ day) (h1 : day < dMax mk) (e : dat mk day = (y, m, d)) {n : Int} (hn : day < n) (hn' : n < day + mln mk y m - d + 1) : bgn mk n = false := by
  obtain ⟨h2, h3⟩ := dat_bd h0 h1 e
  obtain ⟨⟨a1, a2⟩, ⟨b1, b2⟩, c1, c2⟩ := okD_iff.1 h2
  cases hb : bgn mk n with
  | false => rfl
  | true =>
    have := (bgn_iff.1 hb).2
    rw [dat_within h0 h1 e (by omega) hn'] at this
    dsimp only at this
    omega
theorem bgn_behind {mk : Bool} {day y m d : Int} (h0 : 0 ≤ day) (h1 : day < dMax mk) (e : dat mk day = (y, m, d)) (h2 : day + mln mk y m - d + 1 < dMax mk) : bgn mk (day + mln mk y m - d + 1) = true := by
  obtain ⟨h3, h4⟩ := dat_bd h0 h1 e
  obtain ⟨⟨a1, a2⟩, ⟨b1, b2⟩, c1, c2⟩ := okD_iff.1 h3
  rw [bgn_iff]
  refine ⟨⟨by omega, h2⟩, ?_⟩
  rw [dat_behind h0 h1 e h2]
  split <;> rfl
theorem bgn_here {mk : Bool} {day y m d : Int} (h0 : 0 ≤ day) (h1 : day < dMax mk) (e : dat mk day = (y, m, d)) : bgn mk day = decide (d = 1) := by
  simp only [bgn, h0, h1, e, decide_true, Bool.true_and]

/-- The first number from n on, of k of them, at which f is true. -/
def fnd (f : Int → Bool) (n : Int) : Nat → Option Int
  | 0 => none
  | k + 1 => if f n then some n else fnd f (n + 1) k
theorem fnd_at {f : Int → Bool} {k : Nat} : ∀ {n j : Int}, n ≤ j → j < n + k → f j = true → (∀ i, n ≤ i → i < j → f i = false) → fnd f n k = some j := by
  induction k with
  | zero => intro n j h1 h2; omega
  | succ k ih =>
    intro n j h1 h2 h3 h4
    simp only [fnd]
    by_cases h : n = j
    · subst h; rw [h3, if_pos rfl]
    · rw [h4 n (by omega) (by omega), if_neg (by simp)]
      exact ih (by omega) (by omega) h3 (fun i hi hi' => h4 i (by omega) hi')
theorem fnd_none {f : Int → Bool} {k : Nat} : ∀ {n : Int}, (∀ i, n ≤ i → i < n + k → f i = false) → fnd f n k = none := by
  induction k with
  | zero => intro n _; rfl
  | succ k ih =>
    intro n h4
    simp only [fnd]
    rw [h4 n (by omega) (by omega), if_neg (by simp)]
    exact ih (fun i hi hi' => h4 i (by omega) (by omega))
theorem fnd_some {f : Int → Bool} {k : Nat} : ∀ {n j : Int}, fnd f n k = some j → n ≤ j ∧ j < n + k ∧ f j = true ∧ ∀ i, n ≤ i → i < j → f i = false := by
  induction k with
  | zero => intro n j h; simp [fnd] at h
  | succ k ih =>
    intro n j h
    simp only [fnd] at h
    split at h
    · rename_i h1
      obtain rfl : n = j := by simpa using h
      exact ⟨by omega, by omega, h1, fun i hi hi' => by omega⟩
    · rename_i h1
      obtain ⟨a1, a2, a3, a4⟩ := ih h
      refine ⟨by omega, by omega, a3, fun i hi hi' => ?_⟩
      by_cases h2 : i = n
      · subst h2; simpa using h1
      · exact a4 i (by omega) hi'
theorem fnd_no {f : Int → Bool} {k : Nat} : ∀ {n : Int}, fnd f n k = none → ∀ i, n ≤ i → i < n + k → f i = false := by
  induction k with
  | zero => intro n _ i h1 h2; omega
  | succ k ih =>
    intro n h i h1 h2
    simp only [fnd] at h
    split at h
    · simp at h
    · rename_i h3
      by_cases h4 : i = n
      · subst h4; simpa using h3
      · exact ih h i (by omega) (by omega)
noncomputable def both (n : Int) : Bool := bgn false n && bgn true n
noncomputable def fea (day : Int) : Option Int := fnd both day (3500001 - day).toNat
/-- What Feast answers: the day, the error. -/
noncomputable def feaV (day : Int) : Int := if 0 ≤ day ∧ day ≤ 3000000 then (fea day).getD 0 else 0
noncomputable def feaE (eNone : Int) (day : Int) : Int := if 0 ≤ day ∧ day ≤ 3000000 then (if (fea day).isSome then 0 else eNone) else 1

/-- How many of k numbers from a on have f. -/
def cnt (f : Int → Bool) (a : Int) : Nat → Int
  | 0 => 0
  | k + 1 => cnt f a k + (if f (a + k) then 1 else 0)
theorem cnt_bd (f : Int → Bool) (a : Int) (k : Nat) : 0 ≤ cnt f a k ∧ cnt f a k ≤ k := by
  induction k with
  | zero => simp [cnt]
  | succ k ih => simp only [cnt]; split <;> omega
noncomputable def moK (year : Int) : Nat := (sta false (year + 1) - sta false year).toNat
noncomputable def moV (year : Int) : Int := if 1 ≤ year ∧ year ≤ 9000 then cnt (bgn true) (sta false year) (moK year) else 0
def moE (year : Int) : Int := if 1 ≤ year ∧ year ≤ 9000 then 0 else 1

/-- The first day of the month of the market with a number among all. -/
def mst (j : Int) : Int := sta true (j / 12 + 1) + pre true (j % 12 + 1)
theorem mln_m {y m : Int} (hy : 1 ≤ y) (_h : 1 ≤ m) (_h' : m ≤ 12) : 29 ≤ mln true y m ∧ mln true y m ≤ 30 := by
  have h1 := lpy_bd true y hy
  simp only [mln, pln, nmo, if_true]
  split <;> omega
theorem mst_step {j : Int} (_hj : 0 ≤ j) : mst (j + 1) = mst j + mln true (j / 12 + 1) (j % 12 + 1) := by
  unfold mst
  by_cases h : j % 12 = 11
  · have e1 : (j + 1) / 12 = j / 12 + 1 := by omega
    have e2 : (j + 1) % 12 = 0 := by omega
    have h1 := sta_step true (j / 12 + 1)
    have h2 := pre_last true (j / 12 + 1)
    have e3 : nmo true = 12 := rfl
    rw [e1, e2, h, h1]
    rw [e3] at h2
    rw [show (0 : Int) + 1 = 1 by omega, pre_1, show (11 : Int) + 1 = 12 by omega]
    omega
  · have e1 : (j + 1) / 12 = j / 12 := by omega
    have e2 : (j + 1) % 12 = j % 12 + 1 := by omega
    have h1 := pre_step true (j / 12 + 1) (m := j % 12 + 1) (by omega) (by show j % 12 + 1 < 12; omega)
    rw [e1, e2, h1]
    omega
theorem mst_gap {j : Int} (hj : 0 ≤ j) : mst j + 29 ≤ mst (j + 1) ∧ mst (j + 1) ≤ mst j + 30 := by
  rw [mst_step hj]
  have := mln_m (y := j / 12 + 1) (m := j % 12 + 1) (by omega) (by omega) (by omega)
  omega
theorem mst_far {j : Int} (hj : 0 ≤ j) (k : Nat) : mst j + 29 * k ≤ mst (j + k) ∧ mst (j + k) ≤ mst j + 30 * k := by
  induction k with
  | zero => simp
  | succ k ih =>
    have := mst_gap (j := j + k) (by omega)
    rw [show j + ((k + 1 : Nat) : Int) = j + k + 1 by omega]
    omega
theorem mst_0 : mst 0 = 0 := by decide
theorem bgn_mst {d : Int} (h0 : 0 ≤ d) (h1 : d < dMax true) : bgn true d = true ↔ ∃ j : Int, 0 ≤ j ∧ mst j = d := by
  constructor
  · intro h
    have h2 := (bgn_iff.1 h).2
    obtain ⟨h3, h4⟩ := dat_ok (mk := true) h0 h1
    rw [h2] at h3 h4
    obtain ⟨⟨a1, a2⟩, ⟨b1, b2⟩, c1, c2⟩ := okD_iff.1 h3
    have b3 : (dat true d).2.1 ≤ 12 := b2
    refine ⟨12 * ((dat true d).1 - 1) + ((dat true d).2.1 - 1), by omega, ?_⟩
    unfold mst
    rw [show (12 * ((dat true d).1 - 1) + ((dat true d).2.1 - 1)) / 12 + 1 = (dat true d).1 by omega, show (12 * ((dat true d).1 - 1) + ((dat true d).2.1 - 1)) % 12 + 1 = (dat true d).2.1 by omega]
    unfold num at h4
    omega
  · rintro ⟨j, hj, rfl⟩
    rw [bgn_iff]
    refine ⟨⟨h0, h1⟩, ?_⟩
    have h5 : 0 ≤ pre true (j % 12 + 1) := by simp only [pre, if_true]; omega
    have h6 := sta_lt_year (mk := true) (y := j / 12 + 1) (by omega) (by unfold mst at h1; omega)
    have h7 := mln_m (y := j / 12 + 1) (m := j % 12 + 1) (by omega) (by omega) (by omega)
    have : dat true (mst j) = (j / 12 + 1, j % 12 + 1, 1) := by
      apply dat_eq (okD_iff.2 ⟨⟨by omega, h6⟩, ⟨by omega, by show j % 12 + 1 ≤ 12; omega⟩, by omega, by omega⟩)
      unfold num mst
      omega
    rw [this]
theorem mst_first (a : Nat) : ∃ j : Int, 0 ≤ j ∧ (a : Int) ≤ mst j ∧ mst j < a + 30 ∧ ∀ i, 0 ≤ i → i < j → mst i < a := by
  induction a with
  | zero => exact ⟨0, by omega, by rw [mst_0]; simp, by rw [mst_0]; simp, fun i h h' => by omega⟩
  | succ a ih =>
    obtain ⟨j, h0, h1, h2, h3⟩ := ih
    have hg := mst_gap h0
    by_cases h : mst j = a
    · refine ⟨j + 1, by omega, by omega, by omega, fun i hi hi' => ?_⟩
      by_cases h4 : i = j
      · subst h4; omega
      · have := h3 i hi (by omega); omega
    · exact ⟨j, h0, by omega, by omega, fun i hi hi' => by have := h3 i hi hi'; omega⟩
theorem mst_lt {i j : Int} (hi : 0 ≤ i) (h : i < j) : mst i < mst j := by
  obtain ⟨k, rfl⟩ : ∃ k : Nat, j = i + k := ⟨(j - i).toNat, by omega⟩
  have := mst_far hi k
  omega
theorem cnt_mst {a : Int} (ha : 0 ≤ a) : ∀ k : Nat, a + k ≤ dMax true → ∀ j0 : Int, 0 ≤ j0 → a ≤ mst j0 → (∀ i, 0 ≤ i → i < j0 → mst i < a) →
    ∃ j, j0 ≤ j ∧ cnt (bgn true) a k = j - j0 ∧ a + k ≤ mst j ∧ ∀ i, 0 ≤ i → i < j → mst i < a + k := by
  intro k
  induction k with
  | zero => intro _ j0 h0 h1 h2; exact ⟨j0, Int.le_refl _, by simp [cnt], by simpa using h1, by simpa using h2⟩
  | succ k ih =>
    intro hk j0 h0 h1 h2
    obtain ⟨j, g0, g1, g2, g3⟩ := ih (by omega) j0 h0 h1 h2
    simp only [cnt]
    have hb := bgn_mst (d := a + k) (by omega) (by omega)
    by_cases h : mst j = a + k
    · rw [hb.2 ⟨j, by omega, h⟩]
      have hg := mst_gap (j := j) (by omega)
      refine ⟨j + 1, by omega, by simp; omega, by omega, fun i hi hi' => ?_⟩
      by_cases h4 : i = j
      · subst h4; omega
      · have := g3 i hi (by omega); omega
    · have : bgn true (a + k) = false := by
        cases hc : bgn true (a + k) with
        | false => rfl
        | true =>
          obtain ⟨i, hi, e⟩ := hb.1 hc
          rcases Int.lt_trichotomy i j with h5 | h5 | h5
          · have := g3 i hi h5; omega
          · subst h5; omega
          · have := mst_lt (i := j) (by omega) h5; omega
      rw [this]
      exact ⟨j, g0, by simp; omega, by omega, fun i hi hi' => by have := g3 i hi hi'; omega⟩
theorem sta_c9 : sta false 9001 = 3287180 := by decide
/-- A year of the court has 12 or 13 beginnings of months of the market. -/
theorem mo_12_13 {year : Int} (h1 : 1 ≤ year) (h2 : year ≤ 9000) : 12 ≤ cnt (bgn true) (sta false year) (moK year) ∧ cnt (bgn true) (sta false year) (moK year) ≤ 13 := by
  have s0 := (sta_bd false h1).1
  have s1 := sta_step false year
  have s2 := lpy_bd false year h1
  have s3 := sta_mono false (y := year + 1) (z := 9001) (by omega) (by omega)
  rw [sta_c9] at s3
  have hm := dMax_m
  have hc : com false = 365 := rfl
  have hk : (moK year : Int) = 365 + lpy false year := by unfold moK; omega
  obtain ⟨j0, a0, a1, a2, a3⟩ := mst_first (sta false year).toNat
  rw [Int.toNat_of_nonneg s0] at a1 a2 a3
  obtain ⟨j, b0, b1, b2, b3⟩ := cnt_mst s0 (moK year) (by omega) j0 a0 a1 a3
  rw [b1]
  constructor
  · rcases Int.lt_or_le (j - j0) 12 with h | h
    · have := (mst_far a0 (j - j0).toNat).2
      rw [show j0 + ((j - j0).toNat : Int) = j by omega] at this
      omega
    · exact h
  · rcases Int.lt_or_le 13 (j - j0) with h | h
    · have := (mst_far a0 13).1
      have := b3 (j0 + (13 : Nat)) (by omega) (by omega)
      omega
    · exact h

/-- Cycles. -/
def cyY (mk : Bool) : Int := if mk then 30 else 128
def cyD (mk : Bool) : Int := if mk then 10631 else 46751
theorem lps_cycle (mk : Bool) (y : Int) : lps mk (y + cyY mk) = lps mk y + (cyD mk - cyY mk * com mk) := by
  cases mk
  · simp only [lps, cyY, cyD, com, Bool.false_eq_true, if_false]; omega
  · simp only [lps, cyY, cyD, com, if_true]
    rw [show (y + 30) % 30 = y % 30 by omega]
    omega
theorem sta_cycle (mk : Bool) (y : Int) : sta mk (y + cyY mk) = sta mk y + cyD mk := by
  have := lps_cycle mk (y - 1)
  unfold sta
  rw [show y + cyY mk - 1 = y - 1 + cyY mk by omega, this]
  cases mk <;> simp [com, cyY, cyD] <;> omega
theorem lpy_cycle (mk : Bool) (y : Int) : lpy mk (y + cyY mk) = lpy mk y := by
  have h1 := lps_cycle mk (y - 1)
  have h2 := lps_cycle mk y
  unfold lpy
  rw [show y + cyY mk - 1 = y - 1 + cyY mk by omega]
  omega
theorem sta_cycles (mk : Bool) (y : Int) (k : Nat) : sta mk (y + cyY mk * k) = sta mk y + cyD mk * k ∧ lpy mk (y + cyY mk * k) = lpy mk y := by
  induction k with
  | zero => simp
  | succ k ih =>
    have e : y + cyY mk * ((k + 1 : Nat) : Int) = y + cyY mk * k + cyY mk := by rw [Int.natCast_add, Int.mul_add]; simp; omega
    have e2 : cyD mk * ((k + 1 : Nat) : Int) = cyD mk * k + cyD mk := by rw [Int.natCast_add, Int.mul_add]; simp
    rw [e, e2, sta_cycle, lpy_cycle]
    omega
/-- After some cycles it is the same day of the year. -/
theorem dat_cycle {mk : Bool} {day y m d : Int} (h0 : 0 ≤ day) (h1 : day < dMax mk) (e : dat mk day = (y, m, d)) (k : Nat) :
    (y + cyY mk * k ≤ 9999 → dat mk (day + cyD mk * k) = (y + cyY mk * k, m, d) ∧ day + cyD mk * k < dMax mk) ∧ (9999 < y + cyY mk * k → dMax mk ≤ day + cyD mk * k) := by
  obtain ⟨h3, h4⟩ := dat_bd h0 h1 e
  obtain ⟨⟨a1, a2⟩, ⟨b1, b2⟩, c1, c2⟩ := okD_iff.1 h3
  obtain ⟨s1, s2⟩ := sta_cycles mk y k
  have hy : 0 ≤ cyY mk * k := Int.mul_nonneg (by cases mk <;> decide) (by omega)
  constructor
  · intro hle
    have hk : okD mk (y + cyY mk * k) m d = true := by
      refine okD_iff.2 ⟨⟨by omega, hle⟩, ⟨b1, b2⟩, c1, ?_⟩
      unfold mln at *
      rw [s2]; exact c2
    have hn : num mk (y + cyY mk * k) m d = day + cyD mk * k := by unfold num at *; omega
    exact ⟨dat_eq hk hn, by rw [← hn]; exact (num_bd hk).2⟩
  · intro hlt
    have := (num_in h3).2.1
    have := sta_mono mk (y := 10000) (z := y + cyY mk * k) (by omega) (by omega)
    unfold dMax
    omega
end Go.Proofs.YtpjnlcdmbkbfcaaDoor
