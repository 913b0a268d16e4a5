/- The two calendars, plain: leap years, first days of years, lengths of months, dates as the one triple that has a day's number. -/
import Derived.Test.YtpjnlcdmbkbfcaaDoorHSpec
namespace Go.Proofs.YtpjnlcdmbkbfcaaDoor

def tab : List Int := [2, 5, 7, 10, 13, 16, 18, 21, 24, 26, 29]
/-- How many of the first k elements of the table are at most r. -/
def cl (r : Int) : Nat → Int
  | 0 => 0
  | k + 1 => cl r k + (if tab[k]?.getD 0 ≤ r then 1 else 0)
def lpB (y : Int) : Bool := y == 2 || y == 5 || y == 7 || y == 10 || y == 13 || y == 16 || y == 18 || y == 21 || y == 24 || y == 26 || y == 29
/-- How many of the years 1 to k of a cycle are leap years. -/
def rl : Nat → Int
  | 0 => 0
  | k + 1 => rl k + (if lpB ((k : Int) + 1) then 1 else 0)
theorem cl_bd (r : Int) (k : Nat) : 0 ≤ cl r k ∧ cl r k ≤ k := by
  induction k with
  | zero => simp [cl]
  | succ k ih => simp only [cl]; split <;> omega
theorem rl_bd (k : Nat) : 0 ≤ rl k ∧ rl k ≤ k := by
  induction k with
  | zero => simp [rl]
  | succ k ih => simp only [rl]; split <;> omega
theorem cl_rl : ∀ r : Nat, r < 30 → cl r 11 = rl r := by decide
theorem cl_step : ∀ r : Nat, r < 29 → cl ((r : Int) + 1) 11 = cl r 11 + (if lpB ((r : Int) + 1) then 1 else 0) := by decide
theorem cl_29 : cl 29 11 = 11 := by decide
theorem cl_0 : cl 0 11 = 0 := by decide

/-- Leap years among the first y. -/
def lps (mk : Bool) (y : Int) : Int := if mk then y / 30 * 11 + cl (y % 30) 11 else y / 4 - y / 128
def com (mk : Bool) : Int := if mk then 354 else 365
def sta (mk : Bool) (y : Int) : Int := (y - 1) * com mk + lps mk (y - 1)
def nmo (mk : Bool) : Int := if mk then 12 else 13
def pre (mk : Bool) (m : Int) : Int := if mk then 29 * (m - 1) + m / 2 else 30 * (m - 1)
/-- One in a leap year, else 0. -/
def lpy (mk : Bool) (y : Int) : Int := lps mk y - lps mk (y - 1)
/-- The length of a month of a year that is no leap year; of a year. -/
def pln (mk : Bool) (m : Int) : Int := if mk then 30 - (m - 1) % 2 else if m = 13 then 5 else 30
def mln (mk : Bool) (y m : Int) : Int := pln mk m + (if m = nmo mk then lpy mk y else 0)

theorem lpy_c (y : Int) : lpy false y = if y % 4 = 0 ∧ y % 128 ≠ 0 then 1 else 0 := by
  simp only [lpy, lps, Bool.false_eq_true, if_false]
  split <;> omega
theorem lpy_m (y : Int) (_hy : 1 ≤ y) : lpy true y = if lpB (y % 30) then 1 else 0 := by
  simp only [lpy, lps, if_true]
  by_cases h : y % 30 = 0
  · have e1 : (y - 1) % 30 = 29 := by omega
    have e2 : (y - 1) / 30 = y / 30 - 1 := by omega
    rw [h, e1, e2, cl_29, cl_0]
    simp [lpB]
    omega
  · have e1 : (y - 1) % 30 = y % 30 - 1 := by omega
    have e2 : (y - 1) / 30 = y / 30 := by omega
    rw [e1, e2]
    obtain ⟨r, hr⟩ : ∃ r : Nat, y % 30 = (r : Int) + 1 := ⟨(y % 30 - 1).toNat, by omega⟩
    have := cl_step r (by omega)
    rw [hr, this]
    rw [show (r : Int) + 1 - 1 = r by omega]
    omega
theorem lpy_bd (mk : Bool) (y : Int) (hy : 1 ≤ y) : 0 ≤ lpy mk y ∧ lpy mk y ≤ 1 := by
  cases mk
  · rw [lpy_c]; split <;> omega
  · rw [lpy_m y hy]; split <;> omega
theorem lps_bd (mk : Bool) {y : Int} (hy : 0 ≤ y) : 0 ≤ lps mk y ∧ lps mk y ≤ y := by
  cases mk
  · simp only [lps, Bool.false_eq_true, if_false]; omega
  · simp only [lps, if_true]
    have := cl_bd (y % 30) 11
    obtain ⟨r, hr⟩ : ∃ r : Nat, y % 30 = (r : Int) := ⟨(y % 30).toNat, by omega⟩
    have h2 : cl (y % 30) 11 ≤ y % 30 := by
      rw [hr, cl_rl r (by omega)]; exact (rl_bd r).2
    omega
theorem sta_step (mk : Bool) (y : Int) : sta mk (y + 1) = sta mk y + com mk + lpy mk y := by
  simp only [sta, lpy]
  rw [show y + 1 - 1 = (y - 1) + 1 by omega, Int.add_mul, show y - 1 + 1 = y by omega]
  omega
theorem sta_lt (mk : Bool) {y : Int} (hy : 1 ≤ y) : sta mk y < sta mk (y + 1) := by
  have := lpy_bd mk y hy
  rw [sta_step]
  cases mk <;> simp [com] <;> omega
theorem sta_mono (mk : Bool) {y z : Int} (hy : 1 ≤ y) (h : y ≤ z) : sta mk y ≤ sta mk z := by
  obtain ⟨k, rfl⟩ : ∃ k : Nat, z = y + k := ⟨(z - y).toNat, by omega⟩
  clear h
  induction k with
  | zero => simp
  | succ k ih =>
    have := sta_lt mk (y := y + k) (by omega)
    rw [show y + ((k + 1 : Nat) : Int) = y + k + 1 by omega]
    omega
theorem sta_bd (mk : Bool) {y : Int} (hy : 1 ≤ y) : 0 ≤ sta mk y ∧ sta mk y ≤ (y - 1) * 366 := by
  have h1 := lps_bd mk (y := y - 1) (by omega)
  simp only [sta]
  cases mk <;> simp [com] <;> omega
theorem sta_1 (mk : Bool) : sta mk 1 = 0 := by cases mk <;> decide
theorem pre_step (mk : Bool) (y : Int) {m : Int} (h : 1 ≤ m) (h' : m < nmo mk) : pre mk (m + 1) = pre mk m + mln mk y m := by
  cases mk
  · simp only [nmo, Bool.false_eq_true, if_false] at h'
    simp only [pre, mln, pln, nmo, Bool.false_eq_true, if_false]; rw [if_neg (by omega), if_neg (by omega)]; omega
  · simp only [nmo, if_true] at h'
    simp only [pre, mln, pln, nmo, if_true]; rw [if_neg (by omega)]; omega
theorem pre_last (mk : Bool) (y : Int) : pre mk (nmo mk) + mln mk y (nmo mk) = com mk + lpy mk y := by
  cases mk <;> simp [pre, mln, pln, nmo, com] <;> omega
theorem pre_mono (mk : Bool) {m n : Int} (_h : 1 ≤ m) (h' : m ≤ n) : pre mk m ≤ pre mk n := by cases mk <;> simp [pre] <;> omega
theorem pre_1 (mk : Bool) : pre mk 1 = 0 := by cases mk <;> decide
theorem pln_bd (mk : Bool) {m : Int} (_h : 1 ≤ m) (_h' : m ≤ nmo mk) : 5 ≤ pln mk m ∧ pln mk m ≤ 30 := by
  cases mk
  · simp only [pln, Bool.false_eq_true, if_false]; split <;> omega
  · simp only [pln, if_true]; omega
theorem mln_bd (mk : Bool) {y m : Int} (hy : 1 ≤ y) (_h : 1 ≤ m) (h' : m ≤ nmo mk) : 5 ≤ mln mk y m ∧ mln mk y m ≤ 30 := by
  have h1 := lpy_bd mk y hy
  cases mk
  · simp only [nmo, Bool.false_eq_true, if_false] at h'
    simp only [mln, pln, nmo, Bool.false_eq_true, if_false]
    by_cases h : m = 13
    · simp only [h, if_true]; omega
    · simp only [h, if_false]; omega
  · simp only [nmo, if_true] at h'
    simp only [mln, pln, nmo, if_true]
    split <;> omega

/-- A date of a calendar, and its number. -/
def okD (mk : Bool) (y m d : Int) : Bool := decide (1 ≤ y) && decide (y ≤ 9999) && decide (1 ≤ m) && decide (m ≤ nmo mk) && decide (1 ≤ d) && decide (d ≤ mln mk y m)
theorem okD_iff {mk : Bool} {y m d : Int} : okD mk y m d = true ↔ (1 ≤ y ∧ y ≤ 9999) ∧ (1 ≤ m ∧ m ≤ nmo mk) ∧ 1 ≤ d ∧ d ≤ mln mk y m := by
  simp only [okD, Bool.and_eq_true, decide_eq_true_eq]
  constructor
  · rintro ⟨⟨⟨⟨⟨a, b⟩, c⟩, d⟩, e⟩, f⟩; exact ⟨⟨a, b⟩, ⟨c, d⟩, e, f⟩
  · rintro ⟨⟨a, b⟩, ⟨c, d⟩, e, f⟩; exact ⟨⟨⟨⟨⟨a, b⟩, c⟩, d⟩, e⟩, f⟩
def num (mk : Bool) (y m d : Int) : Int := sta mk y + pre mk m + d - 1

/-- Where a date lies within its year and month. -/
theorem num_in {mk : Bool} {y m d : Int} (h : okD mk y m d = true) : sta mk y + pre mk m ≤ num mk y m d ∧ sta mk y ≤ num mk y m d ∧ num mk y m d < sta mk (y + 1) ∧ (m < nmo mk → num mk y m d < sta mk y + pre mk (m + 1)) := by
  obtain ⟨⟨a1, a2⟩, ⟨b1, b2⟩, c1, c2⟩ := okD_iff.1 h
  have p1 := pre_mono mk (m := 1) (n := m) (by omega) b1
  rw [pre_1] at p1
  unfold num
  refine ⟨by omega, by omega, ?_, ?_⟩
  · have hs := sta_step mk y
    have hl := pre_last mk y
    rcases Int.lt_or_le m (nmo mk) with h1 | h1
    · have := pre_step mk y b1 h1
      have h3 := pre_mono mk (m := m + 1) (n := nmo mk) (by omega) (by omega)
      have h4 := mln_bd mk (y := y) (m := nmo mk) a1 (by omega) (Int.le_refl _)
      omega
    · obtain rfl : m = nmo mk := by omega
      omega
  · intro h1
    have := pre_step mk y b1 h1
    omega

theorem num_inj {mk : Bool} {y m d y' m' d' : Int} (h : okD mk y m d = true) (h' : okD mk y' m' d' = true) (e : num mk y m d = num mk y' m' d') : y = y' ∧ m = m' ∧ d = d' := by
  obtain ⟨_, h1, h2, h3⟩ := num_in h
  obtain ⟨_, k1, k2, k3⟩ := num_in h'
  obtain ⟨⟨a1, a2⟩, ⟨b1, b2⟩, c1, c2⟩ := okD_iff.1 h
  obtain ⟨⟨a1', a2'⟩, ⟨b1', b2'⟩, c1', c2'⟩ := okD_iff.1 h'
  have hy : y = y' := by
    rcases Int.lt_trichotomy y y' with h | h | h
    · have := sta_mono mk (y := y + 1) (z := y') (by omega) (by omega); omega
    · exact h
    · have := sta_mono mk (y := y' + 1) (z := y) (by omega) (by omega); omega
  subst hy
  have hm : m = m' := by
    rcases Int.lt_trichotomy m m' with h | h | h
    · have := pre_mono mk (m := m + 1) (n := m') (by omega) (by omega)
      have := k3; have := h3 (by omega); omega
    · exact h
    · have := pre_mono mk (m := m' + 1) (n := m) (by omega) (by omega)
      have := k3 (by omega); omega
  subst hm
  unfold num at e
  exact ⟨rfl, rfl, by omega⟩

theorem exists_step (f : Int → Int) (a : Int) (k : Nat) (n : Int) (h1 : f a ≤ n) (h2 : n < f (a + k)) : ∃ j, a ≤ j ∧ j < a + k ∧ f j ≤ n ∧ n < f (j + 1) := by
  induction k with
  | zero => simp at h2; omega
  | succ k ih =>
    rcases Int.lt_or_le n (f (a + k)) with h | h
    · obtain ⟨j, j1, j2, j3⟩ := ih h
      exact ⟨j, j1, by omega, j3⟩
    · exact ⟨a + k, by omega, by omega, h, by rw [show a + (k : Int) + 1 = a + ((k + 1 : Nat) : Int) by omega]; exact h2⟩

/-- The last day of a calendar, and one more. -/
def dMax (mk : Bool) : Int := sta mk 10000
theorem dMax_c : dMax false = 3652056 := by decide
theorem dMax_m : dMax true = 3543312 := by decide

theorem okD_ex (mk : Bool) {day : Int} (h0 : 0 ≤ day) (h1 : day < dMax mk) : ∃ y m d, okD mk y m d = true ∧ num mk y m d = day := by
  obtain ⟨y, y1, y2, y3, y4⟩ := exists_step (sta mk) 1 9999 day (by rw [sta_1]; exact h0) h1
  rw [sta_step, Int.add_assoc, ← pre_last mk y] at y4
  rcases Int.lt_or_le (day - sta mk y) (pre mk (nmo mk)) with h | h
  · obtain ⟨m, m1, m2, m3, m4⟩ := exists_step (pre mk) 1 (nmo mk - 1).toNat (day - sta mk y) (by rw [pre_1]; omega) (by rw [show 1 + ((nmo mk - 1).toNat : Int) = nmo mk by cases mk <;> decide]; exact h)
    have hn : m < nmo mk := by
      have : ((nmo mk - 1).toNat : Int) = nmo mk - 1 := by cases mk <;> decide
      omega
    rw [pre_step mk y m1 hn] at m4
    exact ⟨y, m, day - sta mk y - pre mk m + 1, okD_iff.2 ⟨⟨y1, by omega⟩, ⟨m1, by omega⟩, by omega, by omega⟩, by unfold num; omega⟩
  · exact ⟨y, nmo mk, day - sta mk y - pre mk (nmo mk) + 1, okD_iff.2 ⟨⟨y1, by omega⟩, ⟨by cases mk <;> decide, by omega⟩, by omega, by omega⟩, by unfold num; omega⟩

/-- The date of a day; 0, 0, 0 where there is none. -/
noncomputable def dat (mk : Bool) (day : Int) : Int × Int × Int := by
  classical exact if h : ∃ t : Int × Int × Int, okD mk t.1 t.2.1 t.2.2 = true ∧ num mk t.1 t.2.1 t.2.2 = day then h.choose else (0, 0, 0)
theorem dat_eq {mk : Bool} {y m d : Int} (h : okD mk y m d = true) {day : Int} (e : num mk y m d = day) : dat mk day = (y, m, d) := by
  have hx : ∃ t : Int × Int × Int, okD mk t.1 t.2.1 t.2.2 = true ∧ num mk t.1 t.2.1 t.2.2 = day := ⟨(y, m, d), h, e⟩
  unfold dat
  rw [dif_pos hx]
  obtain ⟨k1, k2⟩ := hx.choose_spec
  obtain ⟨e1, e2, e3⟩ := num_inj k1 h (k2.trans e.symm)
  exact Prod.ext e1 (Prod.ext e2 e3)
theorem num_bd {mk : Bool} {y m d : Int} (h : okD mk y m d = true) : 0 ≤ num mk y m d ∧ num mk y m d < dMax mk := by
  obtain ⟨_, h1, h2, _⟩ := num_in h
  obtain ⟨⟨a1, a2⟩, _⟩ := okD_iff.1 h
  have := sta_bd mk a1
  have := sta_mono mk (y := y + 1) (z := 10000) (by omega) (by omega)
  unfold dMax
  omega
theorem dat_no {mk : Bool} {day : Int} (h : day < 0 ∨ dMax mk ≤ day) : dat mk day = (0, 0, 0) := by
  unfold dat
  rw [dif_neg]
  rintro ⟨t, k1, k2⟩
  have := num_bd k1
  omega
theorem dat_ok {mk : Bool} {day : Int} (h0 : 0 ≤ day) (h1 : day < dMax mk) : okD mk (dat mk day).1 (dat mk day).2.1 (dat mk day).2.2 = true ∧ num mk (dat mk day).1 (dat mk day).2.1 (dat mk day).2.2 = day := by
  obtain ⟨y, m, d, h, e⟩ := okD_ex mk h0 h1
  rw [dat_eq h e]
  exact ⟨h, e⟩
/-- What a date's function answers beside it: 0, or 1 where there is no date. -/
def datE (mk : Bool) (day : Int) : Int := if 0 ≤ day ∧ day < dMax mk then 0 else 1
def numV (mk : Bool) (y m d : Int) : Int := if okD mk y m d then num mk y m d else 0
def numE (mk : Bool) (y m d : Int) : Int := if okD mk y m d then 0 else 1
/-- Does a day begin a month? -/
noncomputable def bgn (mk : Bool) (day : Int) : Bool := decide (0 ≤ day) && decide (day < dMax mk) && decide ((dat mk day).2.2 = 1)
end Go.Proofs.YtpjnlcdmbkbfcaaDoor
