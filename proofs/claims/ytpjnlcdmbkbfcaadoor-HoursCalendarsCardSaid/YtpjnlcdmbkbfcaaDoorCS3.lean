/- What the reference's calendars compute: the same dates and numbers. Plain. -/
import Derived.Test.YtpjnlcdmbkbfcaaDoorCS2
namespace Go.Proofs.YtpjnlcdmbkbfcaaDoor

/-- The length of a month as the reference has it: 0 where there is none. -/
def mmo (mk : Bool) (y m : Int) : Int := if (decide (1 ≤ y) && decide (y ≤ 9999) && decide (1 ≤ m) && decide (m ≤ nmo mk)) then mln mk y m else 0
theorem mmo_ok {mk : Bool} {y m : Int} (h1 : 1 ≤ y) (h2 : y ≤ 9999) (h3 : 1 ≤ m) (h4 : m ≤ nmo mk) : mmo mk y m = mln mk y m := by
  simp [mmo, h1, h2, h3, h4]
theorem mmo_no {mk : Bool} {y m : Int} (h : ¬ ((1 ≤ y ∧ y ≤ 9999) ∧ 1 ≤ m ∧ m ≤ nmo mk)) : mmo mk y m = 0 := by
  unfold mmo
  rw [if_neg]
  simp only [Bool.and_eq_true, decide_eq_true_eq]
  omega
theorem mmo_bd (mk : Bool) (y m : Int) : 0 ≤ mmo mk y m ∧ mmo mk y m ≤ 30 := by
  by_cases h : (1 ≤ y ∧ y ≤ 9999) ∧ 1 ≤ m ∧ m ≤ nmo mk
  · have := mln_bd mk (y := y) (m := m) h.1.1 h.2.1 h.2.2
    rw [mmo_ok h.1.1 h.1.2 h.2.1 h.2.2]; omega
  · rw [mmo_no h]; omega
theorem okD_mmo (mk : Bool) (y m d : Int) : okD mk y m d = (decide (1 ≤ d) && decide (d ≤ mmo mk y m)) := by
  by_cases h : (1 ≤ y ∧ y ≤ 9999) ∧ 1 ≤ m ∧ m ≤ nmo mk
  · rw [mmo_ok h.1.1 h.1.2 h.2.1 h.2.2]
    simp [okD, h.1.1, h.1.2, h.2.1, h.2.2]
  · rw [mmo_no h]
    have h1 : okD mk y m d = false := by
      cases hb : okD mk y m d with
      | false => rfl
      | true => have := okD_iff.1 hb; exact absurd ⟨this.1, this.2.1⟩ h
    rw [h1]
    simp only [Bool.false_eq, Bool.and_eq_false_iff, decide_eq_false_iff_not]
    omega
/-- The first day of a year, as the reference counts. -/
theorem sta_court (y : Int) : sta false y = 365 * (y - 1) + (y - 1) / 4 - (y - 1) / 128 := by
  simp only [sta, lps, com, Bool.false_eq_true, if_false]; omega
theorem sta_market {y : Int} (_h : 1 ≤ y) : sta true y = 354 * (y - 1) + 11 * ((y - 1) / 30) + rl ((y - 1) % 30).toNat := by
  have h1 := cl_rl ((y - 1) % 30).toNat (by omega)
  rw [Int.toNat_of_nonneg (by omega)] at h1
  simp only [sta, lps, com, if_true]
  rw [h1]; omega
theorem rl_succ (k : Nat) : rl (k + 1) = rl k + (if lpB ((k : Int) + 1) then 1 else 0) := rfl
theorem lpB_m (y : Int) (h : 1 ≤ y) : lpy true y = if lpB (y % 30) then 1 else 0 := lpy_m y h

/-- The year of a day. -/
theorem dat_year {mk : Bool} {day y : Int} (h0 : 0 ≤ day) (h1 : day < dMax mk) (hy : 1 ≤ y) (h2 : sta mk y ≤ day) (h3 : day < sta mk (y + 1)) : (dat mk day).1 = y := by
  obtain ⟨k1, k2⟩ := dat_ok (mk := mk) h0 h1
  obtain ⟨⟨a1, a2⟩, _⟩ := okD_iff.1 k1
  obtain ⟨_, g1, g2, _⟩ := num_in k1
  rw [k2] at g1 g2
  rcases Int.lt_trichotomy (dat mk day).1 y with h | h | h
  · have := sta_mono mk (y := (dat mk day).1 + 1) (z := y) (by omega) (by omega); omega
  · exact h
  · have := sta_mono mk (y := y + 1) (z := (dat mk day).1) (by omega) (by omega); omega
theorem dat_court {day y : Int} (h0 : 0 ≤ day) (h1 : day < dMax false) (hy : 1 ≤ y) (h2 : sta false y ≤ day) (h3 : day < sta false (y + 1)) :
    dat false day = (y, 1 + (day - sta false y) / 30, 1 + (day - sta false y) % 30) := by
  have e := dat_year h0 h1 hy h2 h3
  have hy9 := sta_lt_year (mk := false) hy (by omega)
  have s1 := sta_step false y
  have s2 := lpy_bd false y hy
  have hc : com false = 365 := rfl
  have hn : nmo false = 13 := rfl
  have hp := pre_last false y
  generalize hr : day - sta false y = r at *
  have hp13 : pre false 13 = 360 := by decide
  rw [hn, hp13] at hp
  have hm : 1 + r % 30 ≤ mln false y (1 + r / 30) := by
    rcases Int.lt_or_le (1 + r / 30) 13 with h | h
    · simp only [mln, pln, nmo, Bool.false_eq_true, if_false]
      rw [if_neg (by omega), if_neg (by omega)]; omega
    · have : 1 + r / 30 = 13 := by omega
      rw [this]; omega
  apply dat_eq (okD_iff.2 ⟨⟨hy, hy9⟩, ⟨by omega, by omega⟩, by omega, hm⟩)
  unfold num
  simp only [pre, Bool.false_eq_true, if_false]
  omega
theorem num_court (y m d : Int) : num false y m d = sta false y + 30 * (m - 1) + d - 1 := by
  simp [num, pre]
end Go.Proofs.YtpjnlcdmbkbfcaaDoor
