/- Seasons moved by some minutes; a line at an element of its table; what laws say of the hours' numbers. Plain. -/
import Derived.Test.YtpjnlcdmbkbfcaaDoorHS3
namespace Go.Proofs.YtpjnlcdmbkbfcaaDoor

theorem el_map (t : List Int) (by_ : Int) {k : Nat} (h : k < t.length) : el (t.map (· + by_)) k = el t k + by_ := by
  simp [el, List.getElem?_map, List.getElem?_eq_getElem h]
theorem lineV_moved {L : Int} {d t : List Int} (h1 : 1 ≤ d.length) (ht : t.length = d.length) (by_ p : Int) : lineV L d (t.map (· + by_)) p = lineV L d t p + by_ := by
  have hq := qLe_le d p d.length
  unfold lineV
  generalize qLe d p d.length = q at *
  have hA : iA d.length q < t.length := by unfold iA; split <;> omega
  have hB : iB d.length q < t.length := by unfold iB; split <;> omega
  unfold lineQ
  rw [el_map t by_ hA, el_map t by_ hB, show el t (iB d.length q) + by_ - (el t (iA d.length q) + by_) = el t (iB d.length q) - el t (iA d.length q) by omega]
  omega
/-- A season with all sunrises and sunsets as many minutes later. -/
def mvd (S : Sea) (by_ : Int) : Sea := ⟨S.L, S.d, S.r.map (· + by_), S.s.map (· + by_)⟩
theorem lnR_mvd {S : Sea} (hv : vld S = true) (by_ day : Int) : lnR (mvd S by_) day = lnR S day + by_ := by
  have v := (vld_iff S).1 hv
  exact lineV_moved v.n1 v.nr by_ _
theorem lnS_mvd {S : Sea} (hv : vld S = true) (by_ day : Int) : lnS (mvd S by_) day = lnS S day + by_ := by
  have v := (vld_iff S).1 hv
  exact lineV_moved v.n1 v.ns by_ _
theorem las_mvd {S : Sea} (hv : vld S = true) (by_ day : Int) (nt : Bool) : las (mvd S by_) day nt = las S day nt := by
  cases nt <;> simp [las, lnR_mvd hv, lnS_mvd hv] <;> omega
theorem spanA_mvd {S : Sea} (hv : vld S = true) (by_ day : Int) (nt : Bool) : spanA (mvd S by_) day nt = spanA S day nt + by_ := by
  cases nt <;> simp [spanA, lnR_mvd hv, lnS_mvd hv] <;> omega
theorem gm_mvd {S : Sea} (hv : vld S = true) (by_ g : Int) : gm (mvd S by_) g = gm S g + 720 * by_ := by
  unfold gm
  rw [las_mvd hv, spanA_mvd hv]
  omega
theorem mom_mvd {S : Sea} (hv : vld S = true) (by_ day : Int) (nt : Bool) (h p : Int) : mom (mvd S by_) day nt h p = mom S day nt h p + 720 * by_ := by
  unfold mom
  rw [las_mvd hv, spanA_mvd hv]
  omega
theorem tix_mvd {S : Sea} (hv : vld S = true) {by_ : Int} (hv' : vld (mvd S by_) = true) (m : Int) : tix (mvd S by_) (m + by_) = tix S m := by
  obtain ⟨h1, h2⟩ := tix_spec hv m
  apply tix_eq hv'
  · rw [gm_mvd hv]; omega
  · rw [gm_mvd hv]; omega

theorem ordr_tix (S : Sea) (m : Int) : ordr (tD S m) (tN S m) (tP S m / 60) (tP S m % 60) = tix S m := by
  unfold ordr tix
  omega
theorem okH_tP {S : Sea} (hv : vld S = true) (m : Int) : okH (tP S m / 60) (tP S m % 60) = true := by
  have := tP_bd hv m
  exact okH_mk (by omega) (by omega) (by omega) (by omega)
/-- What is told follows from the number of the hour. -/
theorem told_of {S S' : Sea} (hv : vld S = true) (hv' : vld S' = true) {m m' : Int} (e : tix S m = tix S' m') : tD S m = tD S' m' ∧ tN S m = tN S' m' ∧ tP S m = tP S' m' := by
  obtain ⟨a1, a2, a3, _⟩ := tix_parts hv m
  obtain ⟨b1, b2, b3, _⟩ := tix_parts hv' m'
  rw [e] at a1 a2 a3
  exact ⟨a1.symm.trans b1, a2.symm.trans b2, a3.symm.trans b3⟩
/-- Both ways: the hour told is at least an hour exactly if the first minute of this hour is at most the minute. -/
theorem both_ways {S : Sea} (hv : vld S = true) (day : Int) (nt : Bool) {h p : Int} (hk : okH h p = true) (m : Int) : ordr day nt h p ≤ tix S m ↔ fst S day nt h p ≤ m := by
  rw [fst, up_le, gm_ordr S day nt hk]
  exact (tix_iff hv m _).symm
theorem tD_of {S : Sea} (hv : vld S = true) (m : Int) : tD S m < 0 ↔ tix S m < 0 := by
  have := (tix_parts hv m).1
  omega
theorem tix_lo {S : Sea} (hv : vld S = true) {m : Int} (hm : 0 ≤ m) : -720 ≤ tix S m := by
  have h1 := tP_bd hv m
  unfold tix tD tN
  by_cases h : m < spanA S (m / 1440) false
  · simp only [h, if_true, decide_true, Bool.true_or]; omega
  · simp only [h, if_false]
    split <;> omega

theorem qLe_at {d : List Int} (hu : risesB d d.length = true) {k : Nat} (hk : k < d.length) : qLe d (el d k) d.length = k + 1 := by
  have h1 : k < qLe d (el d k) d.length := by
    rcases Nat.lt_or_ge k (qLe d (el d k) d.length) with h | h
    · exact h
    · have := qLe_miss d (el d k) d.length k h hk; omega
  have h2 := qLe_hit d (el d k) d.length (by omega)
  have h3 := qLe_le d (el d k) d.length
  rcases Nat.lt_or_ge (k + 1) (qLe d (el d k) d.length) with h | h
  · have := risesB_lt hu (i := k) (j := qLe d (el d k) d.length - 1) (by omega) (by omega)
    omega
  · omega
theorem lineV_at {L : Int} {d t : List Int} (hu : risesB d d.length = true) {k : Nat} (hk : k < d.length) : lineV L d t (el d k) = el t k := by
  unfold lineV
  rw [qLe_at hu hk]
  simp [lineQ, iA, frm]

/-- Rounded sums. -/
theorem down_sum (a b : Int) : a / 720 + b / 720 ≤ (a + b) / 720 := by omega
theorem up_sum (a b : Int) : (a + b + 719) / 720 ≤ (a + 719) / 720 + (b + 719) / 720 := by omega
/-- Bells. -/
theorem fst_next {S : Sea} (hv : vld S = true) (g : Int) : (gm S g + 719) / 720 < (gm S (g + 60) + 719) / 720 := by
  have := gm_far hv (a := g) (b := g + 60) (by omega)
  omega
theorem bell_told {S : Sea} (hv : vld S = true) (g : Int) : g ≤ tix S ((gm S g + 719) / 720) ∧ tix S ((gm S g + 719) / 720) < g + 60 := by
  have h1 := (tix_iff hv ((gm S g + 719) / 720) g).1 (by omega)
  have h2 := gm_far hv (a := g) (b := g + 60) (by omega)
  have h3 := tix_iff hv ((gm S g + 719) / 720) (g + 60)
  refine ⟨h1, ?_⟩
  rcases Int.lt_or_le (tix S ((gm S g + 719) / 720)) (g + 60) with h | h
  · exact h
  · have := h3.2 h; omega
theorem bell_ahead {S : Sea} (hv : vld S = true) (g : Int) : tix S ((gm S g + 719) / 720 - 1) < g := by
  rcases Int.lt_or_le (tix S ((gm S g + 719) / 720 - 1)) g with h | h
  · exact h
  · have := (tix_iff hv ((gm S g + 719) / 720 - 1) g).2 h; omega

/-- Numbers in lowest terms. -/
theorem gcdI_pos {n d : Int} (hd : 0 < d) : 0 < gcdI n d := by
  unfold gcdI
  have : 0 < Nat.gcd n.toNat d.toNat := Nat.gcd_pos_of_pos_right _ (by omega)
  omega
theorem gcdI_dvd {n d : Int} (hn : 0 ≤ n) (hd : 0 < d) : gcdI n d ∣ n ∧ gcdI n d ∣ d := by
  unfold gcdI
  have h1 := Nat.gcd_dvd_left n.toNat d.toNat
  have h2 := Nat.gcd_dvd_right n.toNat d.toNat
  constructor
  · have := Int.natCast_dvd_natCast.2 h1; rwa [Int.toNat_of_nonneg hn] at this
  · have := Int.natCast_dvd_natCast.2 h2; rwa [Int.toNat_of_nonneg (Int.le_of_lt hd)] at this
theorem low_mul {n d : Int} (hn : 0 ≤ n) (hd : 0 < d) : low1 n d * gcdI n d = n ∧ low2 n d * gcdI n d = d :=
  ⟨Int.ediv_mul_cancel (gcdI_dvd hn hd).1, Int.ediv_mul_cancel (gcdI_dvd hn hd).2⟩
theorem low2_pos {n d : Int} (hn : 0 ≤ n) (hd : 0 < d) : 0 < low2 n d := by
  have h1 := (low_mul hn hd).2
  have h2 := gcdI_pos (n := n) hd
  rcases Int.lt_or_le 0 (low2 n d) with h | h
  · exact h
  · have := Int.mul_nonpos_of_nonpos_of_nonneg h (Int.le_of_lt h2); omega
theorem low1_nn {n d : Int} (hn : 0 ≤ n) : 0 ≤ low1 n d := Int.ediv_nonneg hn (by unfold gcdI; omega)
theorem low1_le {n d : Int} (hn : 0 ≤ n) : low1 n d ≤ n := by
  unfold low1
  exact Int.ediv_le_self _ hn
theorem low2_le {n d : Int} (hd : 0 < d) : low2 n d ≤ d := Int.ediv_le_self _ (Int.le_of_lt hd)
theorem low_cross {n d : Int} (hn : 0 ≤ n) (hd : 0 < d) : low1 n d * d = n * low2 n d := by
  obtain ⟨h1, h2⟩ := low_mul hn hd
  have : low1 n d * (low2 n d * gcdI n d) = low1 n d * gcdI n d * low2 n d := by rw [Int.mul_assoc, Int.mul_comm (gcdI n d)]
  rw [h2, h1] at this
  exact this
theorem low_back {n : Int} (hn : 0 ≤ n) : low1 n 720 * (720 / low2 n 720) = n ∧ 720 % low2 n 720 = 0 := by
  obtain ⟨h1, h2⟩ := low_mul hn (d := 720) (by decide)
  have h3 := low2_pos hn (d := 720) (by decide)
  have e : 720 / low2 n 720 = gcdI n 720 := by
    apply Int.ediv_eq_of_eq_mul_right (by omega)
    exact h2.symm
  constructor
  · rw [e]; exact h1
  · exact Int.emod_eq_zero_of_dvd ⟨gcdI n 720, h2.symm⟩
/-- Ratios of the same denominator compare as their numerators. -/
theorem low_cmp {a b d : Int} (ha : 0 ≤ a) (hb : 0 ≤ b) (hd : 0 < d) (h : a ≤ b) : low1 a d * low2 b d ≤ low1 b d * low2 a d := by
  obtain ⟨a1, a2⟩ := low_mul ha hd
  obtain ⟨b1, b2⟩ := low_mul hb hd
  have ga := gcdI_pos (n := a) hd
  have gb := gcdI_pos (n := b) hd
  have e1 : low1 a d * low2 b d * (gcdI a d * gcdI b d) = a * d := by
    rw [show low1 a d * low2 b d * (gcdI a d * gcdI b d) = (low1 a d * gcdI a d) * (low2 b d * gcdI b d) by ac_rfl, a1, b2]
  have e2 : low1 b d * low2 a d * (gcdI a d * gcdI b d) = b * d := by
    rw [show low1 b d * low2 a d * (gcdI a d * gcdI b d) = (low1 b d * gcdI b d) * (low2 a d * gcdI a d) by ac_rfl, b1, a2]
  have hp : 0 < gcdI a d * gcdI b d := Int.mul_pos ga gb
  apply Int.le_of_mul_le_mul_right _ hp
  rw [e1, e2]
  exact Int.mul_le_mul_of_nonneg_right h (Int.le_of_lt hd)
end Go.Proofs.YtpjnlcdmbkbfcaaDoor
