/- Moments by the number of an hour among all; the hour that is told at a minute; the first greatest and the first least place of a list of lights. Plain. -/
import Derived.Test.YtpjnlcdmbkbfcaaDoorHS2
import Derived.Test.YtpjnlcdmbkbfcaaDoorH1
namespace Go.Proofs.YtpjnlcdmbkbfcaaDoor

def gN (g : Int) : Bool := decide (720 ≤ g % 1440)
/-- The moment of the hour with a number among all. -/
def gm (S : Sea) (g : Int) : Int := spanA S (g / 1440) (gN g) * 720 + las S (g / 1440) (gN g) * (g % 720)

theorem okH_bd {h p : Int} (h1 : okH h p = true) : (0 ≤ h ∧ h ≤ 11) ∧ 0 ≤ p ∧ p ≤ 59 := by
  simp only [okH, Bool.and_eq_true] at h1
  exact ⟨inB_t h1.1, inB_t h1.2⟩
theorem okH_mk {h p : Int} (h1 : 0 ≤ h) (h2 : h ≤ 11) (h3 : 0 ≤ p) (h4 : p ≤ 59) : okH h p = true := by simp [okH, inB, h1, h2, h3, h4]
theorem ordr_parts (day : Int) (nt : Bool) {h p : Int} (hk : okH h p = true) : ordr day nt h p / 1440 = day ∧ gN (ordr day nt h p) = nt ∧ ordr day nt h p % 720 = 60 * h + p ∧ ordr day nt h p / 60 % 12 = h ∧ ordr day nt h p % 60 = p := by
  obtain ⟨⟨h1, h2⟩, h3, h4⟩ := okH_bd hk
  cases nt
  · simp only [ordr, gN, Bool.false_eq_true, if_false]
    refine ⟨by omega, ?_, by omega, by omega, by omega⟩
    rw [decide_eq_false]; omega
  · simp only [ordr, gN, if_true]
    refine ⟨by omega, ?_, by omega, by omega, by omega⟩
    rw [decide_eq_true]; omega
theorem gm_ordr (S : Sea) (day : Int) (nt : Bool) {h p : Int} (hk : okH h p = true) : mom S day nt h p = gm S (ordr day nt h p) := by
  obtain ⟨e1, e2, e3, _⟩ := ordr_parts day nt hk
  rw [gm, e1, e2, e3, mom]
theorem ordr_dec (g : Int) : ordr (g / 1440) (gN g) (g / 60 % 12) (g % 60) = g := by
  unfold ordr gN
  by_cases h : 720 ≤ g % 1440
  · simp only [h, decide_true, if_true]; omega
  · simp only [h, decide_false, Bool.false_eq_true, if_false]; omega
theorem okH_dec (g : Int) : okH (g / 60 % 12) (g % 60) = true := okH_mk (by omega) (by omega) (by omega) (by omega)
theorem ordr_inj {day day' : Int} {nt nt' : Bool} {h p h' p' : Int} (k : okH h p = true) (k' : okH h' p' = true) (e : ordr day nt h p = ordr day' nt' h' p') : day = day' ∧ nt = nt' ∧ h = h' ∧ p = p' := by
  obtain ⟨a1, a2, _, a4, a5⟩ := ordr_parts day nt k
  obtain ⟨b1, b2, _, b4, b5⟩ := ordr_parts day' nt' k'
  rw [e] at a1 a2 a4 a5
  exact ⟨a1.symm.trans b1, a2.symm.trans b2, a4.symm.trans b4, a5.symm.trans b5⟩

theorem spanA_t (S : Sea) (day : Int) : spanA S day true = spanA S day false + las S day false := by simp [spanA, las]; omega
theorem spanA_n (S : Sea) (day : Int) : spanA S (day + 1) false = spanA S day true + las S day true := by simp [spanA, las]; omega
theorem gm_step (S : Sea) (g : Int) : gm S (g + 1) = gm S g + las S (g / 1440) (gN g) := by
  by_cases h1 : g % 1440 = 719
  · have e1 : (g + 1) / 1440 = g / 1440 := by omega
    have e2 : gN (g + 1) = true := by simp only [gN, decide_eq_true_eq]; omega
    have e3 : gN g = false := by simp only [gN, decide_eq_false_iff_not]; omega
    have e4 : (g + 1) % 720 = 0 := by omega
    have e5 : g % 720 = 719 := by omega
    simp only [gm, e1, e2, e3, e4, e5, spanA_t]
    omega
  · by_cases h2 : g % 1440 = 1439
    · have e1 : (g + 1) / 1440 = g / 1440 + 1 := by omega
      have e2 : gN (g + 1) = false := by simp only [gN, decide_eq_false_iff_not]; omega
      have e3 : gN g = true := by simp only [gN, decide_eq_true_eq]; omega
      have e4 : (g + 1) % 720 = 0 := by omega
      have e5 : g % 720 = 719 := by omega
      simp only [gm, e1, e2, e3, e4, e5, spanA_n]
      omega
    · have e1 : (g + 1) / 1440 = g / 1440 := by omega
      have e2 : gN (g + 1) = gN g := by simp only [gN]; congr 1; simp only [eq_iff_iff]; omega
      have e4 : (g + 1) % 720 = g % 720 + 1 := by omega
      simp only [gm, e1, e2, e4, Int.mul_add]
      omega
theorem gm_add {S : Sea} (hv : vld S = true) (a : Int) (k : Nat) : gm S a + 40 * k ≤ gm S (a + k) := by
  induction k with
  | zero => simp
  | succ k ih =>
    have := gm_step S (a + k)
    have := las_bd hv ((a + k) / 1440) (gN (a + k))
    rw [show a + ((k + 1 : Nat) : Int) = a + k + 1 by omega]
    omega
theorem gm_far {S : Sea} (hv : vld S = true) {a b : Int} (h : a ≤ b) : gm S a + 40 * (b - a) ≤ gm S b := by
  obtain ⟨k, rfl⟩ : ∃ k : Nat, b = a + k := ⟨(b - a).toNat, by omega⟩
  have := gm_add hv a k
  omega
theorem gm_lt {S : Sea} (hv : vld S = true) {a b : Int} : gm S a < gm S b ↔ a < b := by
  constructor
  · intro h
    rcases Int.lt_or_le a b with h1 | h1
    · exact h1
    · have := gm_far hv h1; omega
  · intro h
    have := gm_far hv (Int.le_of_lt h); omega
theorem gm_le {S : Sea} (hv : vld S = true) {a b : Int} : gm S a ≤ gm S b ↔ a ≤ b := by
  have := gm_lt hv (a := b) (b := a)
  omega

/-- What is told at a minute: the day, light or night, the sixtieths passed; the number of the hour. -/
def tD (S : Sea) (m : Int) : Int := if m < spanA S (m / 1440) false then m / 1440 - 1 else m / 1440
def tN (S : Sea) (m : Int) : Bool := decide (m < spanA S (m / 1440) false) || decide (spanB S (m / 1440) false ≤ m)
def tP (S : Sea) (m : Int) : Int := (m - spanA S (tD S m) (tN S m)) * 720 / las S (tD S m) (tN S m)
def tix (S : Sea) (m : Int) : Int := 1440 * tD S m + (if tN S m then 720 else 0) + tP S m
theorem t_in {S : Sea} (hv : vld S = true) (m : Int) : spanA S (tD S m) (tN S m) ≤ m ∧ m < spanA S (tD S m) (tN S m) + las S (tD S m) (tN S m) := by
  have a1 := lnR_bd hv (m / 1440)
  have a2 := lnS_bd hv (m / 1440)
  have a3 := lnR_bd hv (m / 1440 + 1)
  have a4 := lnS_bd hv (m / 1440 - 1)
  unfold tD tN
  by_cases h : m < spanA S (m / 1440) false
  · simp only [h, if_true, decide_true, Bool.true_or]
    have e : m / 1440 - 1 + 1 = m / 1440 := by omega
    simp only [spanA, las, e, Bool.false_eq_true, if_false, if_true] at *
    omega
  · simp only [h, if_false, decide_false, Bool.false_or]
    by_cases h2 : spanB S (m / 1440) false ≤ m
    · simp only [h2, decide_true]
      simp only [spanA, spanB, las, Bool.false_eq_true, if_false, if_true] at *
      omega
    · simp only [h2, decide_false]
      simp only [spanA, spanB, las, Bool.false_eq_true, if_false] at *
      omega
theorem tP_bd {S : Sea} (hv : vld S = true) (m : Int) : 0 ≤ tP S m ∧ tP S m < 720 := by
  obtain ⟨h1, h2⟩ := t_in hv m
  have h3 := las_bd hv (tD S m) (tN S m)
  unfold tP
  constructor
  · exact Int.ediv_nonneg (by omega) (by omega)
  · apply Int.ediv_lt_of_lt_mul (by omega)
    omega
theorem tix_parts {S : Sea} (hv : vld S = true) (m : Int) : tix S m / 1440 = tD S m ∧ gN (tix S m) = tN S m ∧ tix S m % 720 = tP S m ∧ tix S m % 1440 = (if tN S m then 720 else 0) + tP S m := by
  obtain ⟨h1, h2⟩ := tP_bd hv m
  unfold tix gN
  cases tN S m
  · simp only [Bool.false_eq_true, if_false]
    refine ⟨by omega, ?_, by omega, by omega⟩
    rw [decide_eq_false]; omega
  · simp only [if_true]
    refine ⟨by omega, ?_, by omega, by omega⟩
    rw [decide_eq_true]; omega
theorem tix_spec {S : Sea} (hv : vld S = true) (m : Int) : gm S (tix S m) ≤ 720 * m ∧ 720 * m < gm S (tix S m + 1) := by
  rw [gm_step]
  obtain ⟨e1, e2, e3, _⟩ := tix_parts hv m
  have h3 := las_bd hv (tD S m) (tN S m)
  rw [gm, e1, e2, e3]
  have h1 := Int.mul_ediv_self_le (x := (m - spanA S (tD S m) (tN S m)) * 720) (k := las S (tD S m) (tN S m)) (by omega)
  have h2 := Int.lt_mul_ediv_self_add (x := (m - spanA S (tD S m) (tN S m)) * 720) (k := las S (tD S m) (tN S m)) (by omega)
  rw [← tP] at h1 h2
  omega
/-- The hour told is the last one that has begun. -/
theorem tix_iff {S : Sea} (hv : vld S = true) (m g : Int) : gm S g ≤ 720 * m ↔ g ≤ tix S m := by
  obtain ⟨h1, h2⟩ := tix_spec hv m
  constructor
  · intro h
    have := (gm_lt hv (a := g) (b := tix S m + 1)).1 (by omega)
    omega
  · intro h
    have := (gm_le hv).2 h
    omega
theorem tix_eq {S : Sea} (hv : vld S = true) {m g : Int} (h1 : gm S g ≤ 720 * m) (h2 : 720 * m < gm S (g + 1)) : tix S m = g := by
  have a := (tix_iff hv m g).1 h1
  have b := (tix_iff hv m (g + 1))
  omega
theorem up_le (n m : Int) : (n + 719) / 720 ≤ m ↔ n ≤ 720 * m := by omega

/-- The first place of the greatest value, of the least one, up to k. -/
def lonF (f : Int → Int) : Nat → Int
  | 0 => 0
  | k + 1 => if f (lonF f k) < f ((k : Int) + 1) then (k : Int) + 1 else lonF f k
def shoF (f : Int → Int) : Nat → Int
  | 0 => 0
  | k + 1 => if f ((k : Int) + 1) < f (shoF f k) then (k : Int) + 1 else shoF f k
theorem lonF_bd (f : Int → Int) (k : Nat) : 0 ≤ lonF f k ∧ lonF f k ≤ k := by
  induction k with
  | zero => simp [lonF]
  | succ k ih => simp only [lonF]; split <;> omega
theorem shoF_bd (f : Int → Int) (k : Nat) : 0 ≤ shoF f k ∧ shoF f k ≤ k := by
  induction k with
  | zero => simp [shoF]
  | succ k ih => simp only [shoF]; split <;> omega
theorem lonF_max (f : Int → Int) (k : Nat) : ∀ j : Nat, j ≤ k → f j ≤ f (lonF f k) := by
  induction k with
  | zero => intro j hj; obtain rfl : j = 0 := by omega
            simp [lonF]
  | succ k ih =>
    intro j hj
    simp only [lonF]
    rcases Nat.lt_or_ge j (k + 1) with h | h
    · have := ih j (by omega)
      split <;> omega
    · obtain rfl : j = k + 1 := by omega
      simp only [Int.natCast_add, Int.cast_ofNat_Int]
      split <;> omega
theorem shoF_min (f : Int → Int) (k : Nat) : ∀ j : Nat, j ≤ k → f (shoF f k) ≤ f j := by
  induction k with
  | zero => intro j hj; obtain rfl : j = 0 := by omega
            simp [shoF]
  | succ k ih =>
    intro j hj
    simp only [shoF]
    rcases Nat.lt_or_ge j (k + 1) with h | h
    · have := ih j (by omega)
      split <;> omega
    · obtain rfl : j = k + 1 := by omega
      simp only [Int.natCast_add, Int.cast_ofNat_Int]
      split <;> omega
end Go.Proofs.YtpjnlcdmbkbfcaaDoor
