/- The lines of sunrise and sunset lie between the bounds of their tables; spans, moments: plain Lean. -/
import Derived.Test.YtpjnlcdmbkbfcaaDoorHSpec
namespace Go.Proofs.YtpjnlcdmbkbfcaaDoor

theorem frm_le_tto_ge {L : Int} {d : List Int} {p : Int} (hd : allB d 0 (L - 1) = true) (h1 : 1 ≤ d.length) (hp0 : 0 ≤ p) (hp1 : p < L) :
    frm L d (qLe d p d.length) ≤ p ∧ p ≤ tto L d (qLe d p d.length) := by
  have hq := qLe_le d p d.length
  have a0 := allB_el hd (k := 0) (by omega)
  have a1 := allB_el hd (k := d.length - 1) (by omega)
  unfold frm tto
  constructor
  · split
    · omega
    · exact qLe_hit d p d.length (by omega)
  · split
    · omega
    · exact Int.le_of_lt (qLe_miss d p d.length _ (Nat.le_refl _) (by omega))

theorem mid_bd {x u v t : Int} (ht : 0 < t) (hx : 0 ≤ x) (hxt : x ≤ t) (lo hi : Int) (hu : lo ≤ u ∧ u ≤ hi) (hv : lo ≤ v ∧ v ≤ hi) : lo ≤ u + x * (v - u) / t ∧ u + x * (v - u) / t ≤ hi := by
  rcases Int.le_total u v with h | h
  · have a1 : 0 ≤ x * (v - u) := Int.mul_nonneg hx (by omega)
    have a2 : x * (v - u) ≤ (v - u) * t := by rw [Int.mul_comm]; exact Int.mul_le_mul_of_nonneg_left hxt (by omega)
    have b1 := Int.ediv_nonneg a1 (Int.le_of_lt ht)
    have b2 := Int.ediv_le_of_le_mul ht a2
    omega
  · have a1 : x * (v - u) ≤ 0 := Int.mul_nonpos_of_nonneg_of_nonpos hx (by omega)
    have a2 : (v - u) * t ≤ x * (v - u) := by
      rw [Int.mul_comm x]
      have := Int.mul_le_mul_of_nonneg_left hxt (show 0 ≤ u - v by omega)
      have e1 : (v - u) * t = -((u - v) * t) := by rw [← Int.neg_mul]; congr 1; omega
      have e2 : (v - u) * x = -((u - v) * x) := by rw [← Int.neg_mul]; congr 1; omega
      omega
    have b1 : v - u ≤ x * (v - u) / t := Int.le_ediv_of_mul_le ht a2
    have b2 : x * (v - u) / t ≤ 0 := Int.ediv_le_of_le_mul ht (by omega)
    omega

theorem lineV_bd {L : Int} {d t : List Int} {p lo hi : Int} (hd : allB d 0 (L - 1) = true) (hu : risesB d d.length = true) (h1 : 1 ≤ d.length) (hl : t.length = d.length) (ht : allB t lo hi = true) (hp0 : 0 ≤ p) (hp1 : p < L) :
    lo ≤ lineV L d t p ∧ lineV L d t p ≤ hi := by
  have hq := qLe_le d p d.length
  obtain ⟨f1, f2⟩ := frm_le_tto_ge hd h1 hp0 hp1
  obtain ⟨f3, _⟩ := frm_lt_tto hd hu h1 hq
  unfold lineV lineQ
  have hA : iA d.length (qLe d p d.length) < t.length := by unfold iA; split <;> omega
  have hB : iB d.length (qLe d p d.length) < t.length := by unfold iB; split <;> omega
  exact mid_bd (by omega) (by omega) (by omega) lo hi (allB_el ht hA) (allB_el ht hB)

def lnR (S : Sea) (day : Int) : Int := lineV S.L S.d S.r (day % S.L)
def lnS (S : Sea) (day : Int) : Int := lineV S.L S.d S.s (day % S.L)
theorem lnR_bd {S : Sea} (hv : vld S = true) (day : Int) : 60 ≤ lnR S day ∧ lnR S day ≤ 700 := by
  have v := (vld_iff S).1 hv
  have := v.L1
  exact lineV_bd v.ad v.up v.n1 v.nr v.ar (Int.emod_nonneg _ (by omega)) (Int.emod_lt_of_pos _ (by omega))
theorem lnS_bd {S : Sea} (hv : vld S = true) (day : Int) : 740 ≤ lnS S day ∧ lnS S day ≤ 1380 := by
  have v := (vld_iff S).1 hv
  have := v.L1
  exact lineV_bd v.ad v.up v.n1 v.ns v.at_ (Int.emod_nonneg _ (by omega)) (Int.emod_lt_of_pos _ (by omega))

/-- The first and the last minute of a light, or of a night. -/
def spanA (S : Sea) (day : Int) (nt : Bool) : Int := if nt then day * 1440 + lnS S day else day * 1440 + lnR S day
def spanB (S : Sea) (day : Int) (nt : Bool) : Int := if nt then (day + 1) * 1440 + lnR S (day + 1) else day * 1440 + lnS S day
def las (S : Sea) (day : Int) (nt : Bool) : Int := if nt then 1440 + lnR S (day + 1) - lnS S day else lnS S day - lnR S day
theorem las_eq (S : Sea) (day : Int) (nt : Bool) : spanB S day nt - spanA S day nt = las S day nt := by cases nt <;> simp [spanA, spanB, las] <;> omega
theorem las_bd {S : Sea} (hv : vld S = true) (day : Int) (nt : Bool) : 40 ≤ las S day nt ∧ las S day nt ≤ 1400 := by
  have := lnR_bd hv day; have := lnR_bd hv (day + 1); have := lnS_bd hv day
  cases nt <;> simp [las] <;> omega
theorem spanA_bd {S : Sea} (hv : vld S = true) (day : Int) (nt : Bool) : day * 1440 + 60 ≤ spanA S day nt ∧ spanA S day nt ≤ day * 1440 + 1380 := by
  have := lnR_bd hv day; have := lnS_bd hv day
  cases nt <;> simp [spanA] <;> omega
theorem spanB_bd {S : Sea} (hv : vld S = true) (day : Int) (nt : Bool) : day * 1440 + 740 ≤ spanB S day nt ∧ spanB S day nt ≤ day * 1440 + 2140 := by
  have := lnR_bd hv (day + 1); have := lnS_bd hv day
  cases nt <;> simp [spanB] <;> omega

/-- The moment of an hour, in 720ths of minutes. -/
def mom (S : Sea) (day : Int) (nt : Bool) (h p : Int) : Int := spanA S day nt * 720 + las S day nt * (60 * h + p)
theorem mom_bd {S : Sea} (hv : vld S = true) {day : Int} (hd : 0 ≤ day) (hd' : day ≤ 100000) (nt : Bool) {h p : Int} (hh : 0 ≤ h) (hh' : h ≤ 11) (hp : 0 ≤ p) (hp' : p ≤ 59) :
    0 ≤ mom S day nt h p ∧ mom S day nt h p ≤ 200000000000 := by
  have := las_bd hv day nt; have := spanA_bd hv day nt
  have a1 : 0 ≤ las S day nt * (60 * h + p) := Int.mul_nonneg (by omega) (by omega)
  have a2 : las S day nt * (60 * h + p) ≤ 1400 * 719 := Int.mul_le_mul (by omega) (by omega) (by omega) (by omega)
  unfold mom
  omega
theorem lm_bd {S : Sea} (hv : vld S = true) (day : Int) (nt : Bool) {k : Int} (h : 0 ≤ k) (h' : k ≤ 720) :
    0 ≤ las S day nt * k ∧ las S day nt * k ≤ 1400 * 720 := by
  have := las_bd hv day nt
  exact ⟨Int.mul_nonneg (by omega) (by omega), Int.mul_le_mul (by omega) (by omega) (by omega) (by omega)⟩
/-- The first whole minute of an hour. -/
def fst (S : Sea) (day : Int) (nt : Bool) (h p : Int) : Int := (mom S day nt h p + 719) / 720
end Go.Proofs.YtpjnlcdmbkbfcaaDoor
