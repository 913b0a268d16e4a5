/- Walks of the small functions of hours and of its reference. -/
import Derived.Test.YtpjnlcdmbkbfcaaDoorBase
import Derived.Test.YtpjnlcdmbkbfcaaDoorProg
namespace Go.Proofs.YtpjnlcdmbkbfcaaDoor
open Go.ChangeShapes Go.WideShapes Go.ChangeAt Go.RowKit

def inB (n lo hi : Int) : Bool := decide (lo ≤ n) && decide (n ≤ hi)
theorem inB_t {n lo hi : Int} (h : inB n lo hi = true) : lo ≤ n ∧ n ≤ hi := by simpa [inB] using h
theorem inB_mk {n lo hi : Int} (h : lo ≤ n) (h' : n ≤ hi) : inB n lo hi = true := by simp [inB, h, h']
theorem inB_f {n lo hi : Int} (h : inB n lo hi = false) : n < lo ∨ hi < n := by
  simp only [inB, Bool.and_eq_false_iff, decide_eq_false_iff_not] at h; omega

theorem within_any (n lo hi : Int) (w : World) : Calls Tryd.prog 77 #[.int .i64 n, .int .i64 lo, .int .i64 hi] w fun e w' => e = .returned (.bool (inB n lo hi)) ∧ w = w' := by
  go_enter Tryd.func77, Tryd.ntmps77
  go_wp2
  all_goals (go_ret; simp [inB]; omega)

theorem rwithin_any (n lo hi : Int) (w : World) : Calls Tryd.prog 79 #[.int .i64 n, .int .i64 lo, .int .i64 hi] w fun e w' => e = .returned (.bool (inB n lo hi)) ∧ w = w' := by
  go_enter Tryd.func79, Tryd.ntmps79
  go_wp2
  all_goals (go_ret; simp [inB]; omega)

theorem ediv_tmod {a b : Int} (hb : 0 < b) : (a.tmod b < 0 → a.tdiv b - 1 = a / b) ∧ (0 ≤ a.tmod b → a.tdiv b = a / b) := by
  constructor
  · intro h
    rw [Int.tdiv_eq_ediv]
    have : a < 0 := by
      rcases Int.lt_or_le a 0 with h' | h'
      · exact h'
      · have := Int.tmod_nonneg b h'; omega
    have hs : b.sign = 1 := Int.sign_eq_one_of_pos hb
    rw [if_neg]
    · omega
    · rintro (h1 | h1)
      · omega
      · have := Int.tmod_eq_zero_of_dvd h1; omega
  · intro h
    rw [Int.tdiv_eq_ediv]
    split
    · omega
    · rename_i h'
      exfalso
      apply h'
      rcases Int.lt_or_le a 0 with h1 | h1
      · right
        have h2 : a.tmod b ≤ 0 := by have := Int.tmod_nonneg b (a := -a) (by omega); rw [Int.neg_tmod] at this; omega
        exact Int.dvd_of_tmod_eq_zero (by omega)
      · exact .inl h1

theorem tdiv_bd {a b : Int} (hb : 0 < b) (N : Int) (h : -N ≤ a) (h' : a ≤ N) : -N ≤ a.tdiv b ∧ a.tdiv b ≤ N := by
  rcases Int.le_total 0 a with h0 | h0
  · have h1 := Int.tdiv_nonneg h0 (Int.le_of_lt hb)
    have h2 : a.tdiv b ≤ a := by rw [Int.tdiv_eq_ediv_of_nonneg h0]; exact Int.ediv_le_self _ h0
    omega
  · have e : a.tdiv b = -((-a).tdiv b) := by rw [Int.neg_tdiv]; omega
    have h1 := Int.tdiv_nonneg (a := -a) (by omega) (Int.le_of_lt hb)
    have h2 : (-a).tdiv b ≤ -a := by rw [Int.tdiv_eq_ediv_of_nonneg (by omega)]; exact Int.ediv_le_self _ (by omega)
    omega

theorem down_any (a b : Int) (w : World) (ha : -4611686018427387904 ≤ a) (ha' : a ≤ 4611686018427387904) (hb : 0 < b) : Calls Tryd.prog 81 #[.int .i64 a, .int .i64 b] w fun e w' => e = .returned (.int .i64 (a / b)) ∧ w = w' := by
  have h := ediv_tmod (a := a) hb
  have H := Lib.hid h; clear h
  obtain ⟨h1, h2⟩ := tdiv_bd hb 4611686018427387904 ha ha'
  go_enter Tryd.func81, Tryd.ntmps81
  go_wp2
  · go_ret
    exact ⟨ret_int (H.out.1 ‹_›), rfl⟩
  · go_ret
    exact ⟨ret_int (H.out.2 ‹_›), rfl⟩

theorem rdown_any (a b : Int) (w : World) (ha : -4611686018427387904 ≤ a) (ha' : a ≤ 4611686018427387904) (hb : 0 < b) : Calls Tryd.prog 117 #[.int .i64 a, .int .i64 b] w fun e w' => e = .returned (.int .i64 (a / b)) ∧ w = w' := by
  have h := ediv_tmod (a := a) hb
  have H := Lib.hid h; clear h
  obtain ⟨h1, h2⟩ := tdiv_bd hb 4611686018427387904 ha ha'
  go_enter Tryd.func117, Tryd.ntmps117
  go_wp2
  · go_ret
    exact ⟨ret_int (H.out.1 ‹_›), rfl⟩
  · go_ret
    exact ⟨ret_int (H.out.2 ‹_›), rfl⟩

/-- Euclid's steps, as the code makes them; both numbers at least 0. -/
def gcdI (a b : Int) : Int := (Nat.gcd a.toNat b.toNat : Nat)
theorem gcdI_zero (a : Int) (h : 0 ≤ a) : gcdI a 0 = a := by simp only [gcdI, Int.toNat_zero, Nat.gcd_zero_right]; omega
theorem gcdI_step (a b : Int) (ha : 0 ≤ a) (hb : 0 < b) : gcdI b (a % b) = gcdI a b := by
  unfold gcdI
  rw [Int.toNat_emod ha (by omega), Nat.gcd_comm b.toNat, ← Nat.gcd_rec, Nat.gcd_comm]
def low1 (n d : Int) : Int := n / gcdI n d
def low2 (n d : Int) : Int := d / gcdI n d


set_option maxHeartbeats 400000 in
theorem lowest_any (n d : Int) (w : World) (hn : 0 ≤ n) (hn' : n ≤ 4611686018427387904) (hd : 0 < d) (hd' : d ≤ 4611686018427387904) : Calls Tryd.prog 74 #[.int .i64 n, .int .i64 d] w fun e w' => e = .returned (.agg #[.int .i64 (low1 n d), .int .i64 (low2 n d)]) ∧ Below w.heap.size w w' := by
  go_enter Tryd.func74, Tryd.ntmps74
  go_wp2
  go_loopw [5, 6] (fun a b wr => ∃ (x y : Int) (k : Nat), 0 ≤ x ∧ 0 ≤ y ∧ x ≤ 4611686018427387904 ∧ y ≤ 4611686018427387904 ∧ 0 < x + y ∧ a = .int .i64 x ∧ b = .int .i64 y ∧ gcdI x y = gcdI n d ∧ wr = (w.alloc (Obj.cells #[Value.int IntKind.i64 0, Value.int IntKind.i64 0] 31)).drewN k) (fun _ b _ => (intOf b).toNat)
  case atStart => exact ⟨n, d, 0, by omega, by omega, by omega, by omega, by omega, rfl, rfl, rfl, rfl⟩
  case round =>
    obtain ⟨x, y, k, hx, hy, hx', hy', hxy, rfl, rfl, hg, rfl⟩ := hrel
    have HG := Lib.hid hg; clear hg
    by_cases h : y = 0
    · subst h
      go_wp2
      go_region
      go_wp2
      refine bodyPost_ret (v := .agg #[.int .i64 (low1 n d), .int .i64 (low2 n d)]) ?_ rfl ⟨rfl, ?_⟩
      · have e : gcdI n d = x := by rw [← HG.out, gcdI_zero x hx]
        simp [results, Tryd.results74, go_sem, low1, low2, e]
      · exact (((below_drewN ((Below.refl _ _).alloc (Nat.le_refl _) _) _).setCell (by simp) _).setCell (by simp) _)
    · have hb : (y == 0) = false := by simpa using h
      go_wp2
      go_quiet (fail)
      go_wp2
      have h1 := Int.emod_nonneg x h
      have h2 := Int.emod_lt_of_pos x (b := y) (by omega)
      exact ⟨⟨y, x % y, k + nq, by omega, by omega, by omega, by omega, by omega, rfl, rfl, (gcdI_step x y hx (by omega)).trans HG.out, by rw [World.drewN_drewN]⟩, by simp [intOf]; omega⟩

set_option maxHeartbeats 400000 in
theorem rlowest_any (n d : Int) (w : World) (hn : 0 ≤ n) (hn' : n ≤ 4611686018427387904) (hd : 0 < d) (hd' : d ≤ 4611686018427387904) : Calls Tryd.prog 75 #[.int .i64 n, .int .i64 d] w fun e w' => e = .returned (.agg #[.int .i64 (low1 n d), .int .i64 (low2 n d)]) ∧ Below w.heap.size w w' := by
  go_enter Tryd.func75, Tryd.ntmps75
  go_wp2
  go_loopw [5, 6, 7] (fun a b _ wr => ∃ (x y : Int) (k : Nat), 0 ≤ x ∧ 0 ≤ y ∧ x ≤ 4611686018427387904 ∧ y ≤ 4611686018427387904 ∧ 0 < x + y ∧ a = .int .i64 x ∧ b = .int .i64 y ∧ gcdI x y = gcdI n d ∧ wr = (w.alloc (Obj.cells #[Value.int IntKind.i64 0, Value.int IntKind.i64 0] 31)).drewN k) (fun _ b _ _ => (intOf b).toNat)
  case atStart => exact ⟨n, d, 0, by omega, by omega, by omega, by omega, by omega, rfl, rfl, rfl, rfl⟩
  case round =>
    obtain ⟨x, y, k, hx, hy, hx', hy', hxy, rfl, rfl, hg, rfl⟩ := hrel
    have HG := Lib.hid hg; clear hg
    by_cases h : y = 0
    · subst h
      go_wp2
      go_region
      go_wp2
      refine bodyPost_ret (v := .agg #[.int .i64 (low1 n d), .int .i64 (low2 n d)]) ?_ rfl ⟨rfl, ?_⟩
      · have e : gcdI n d = x := by rw [← HG.out, gcdI_zero x hx]
        simp [results, Tryd.results75, go_sem, low1, low2, e]
      · exact (((below_drewN ((Below.refl _ _).alloc (Nat.le_refl _) _) _).setCell (by simp) _).setCell (by simp) _)
    · have hb : (y == 0) = false := by simpa using h
      go_wp2
      have h1 := Int.emod_nonneg x h
      have h2 := Int.emod_lt_of_pos x (b := y) (by omega)
      exact ⟨⟨y, x % y, k, by omega, by omega, by omega, by omega, by omega, rfl, rfl, (gcdI_step x y hx (by omega)).trans HG.out, rfl⟩, by simp [intOf]; omega⟩

theorem isDay_any (n : Int) (w : World) : Calls Tryd.prog 82 #[.int .i64 n] w fun e w' => e = .returned (.bool (inB n 0 11000)) ∧ w = w' := by
  go_enter Tryd.func82, Tryd.ntmps82
  go_wp2_with (go_at_call 77; (with_reducible refine (within_any _ _ _ _).mono ?_); rintro e w' ⟨rfl, rfl⟩)
  go_ret
  exact ⟨rfl, rfl⟩
theorem rDay_any (n : Int) (w : World) : Calls Tryd.prog 83 #[.int .i64 n] w fun e w' => e = .returned (.bool (inB n 0 11000)) ∧ w = w' := by
  go_enter Tryd.func83, Tryd.ntmps83
  go_wp2_with (go_at_call 79; (with_reducible refine (rwithin_any _ _ _ _).mono ?_); rintro e w' ⟨rfl, rfl⟩)
  go_ret
  exact ⟨rfl, rfl⟩

def okH (h p : Int) : Bool := inB h 0 11 && inB p 0 59
theorem isHour_any (nt : Bool) (h p : Int) (w : World) : Calls Tryd.prog 102 #[.agg #[.bool nt, .int .i64 h, .int .i64 p]] w fun e w' => e = .returned (.bool (okH h p)) ∧ Below w.heap.size w w' := by
  cases h1 : inB h 0 11
  all_goals
    go_enter Tryd.func102, Tryd.ntmps102
    go_wp2_with (go_at_call 77; (with_reducible refine (within_any _ _ _ _).mono ?_); rintro e w' ⟨rfl, rfl⟩)
    go_ret
    exact ⟨by simp [okH, h1], (Below.refl _ _).alloc (Nat.le_refl _) _⟩
theorem rHour_any (nt : Bool) (h p : Int) (w : World) : Calls Tryd.prog 49 #[.agg #[.bool nt, .int .i64 h, .int .i64 p]] w fun e w' => e = .returned (.bool (okH h p)) ∧ Below w.heap.size w w' := by
  cases h1 : inB h 0 11
  all_goals
    go_enter Tryd.func49, Tryd.ntmps49
    go_wp2_with (go_at_call 79; (with_reducible refine (rwithin_any _ _ _ _).mono ?_); rintro e w' ⟨rfl, rfl⟩)
    go_ret
    exact ⟨by simp [okH, h1], (Below.refl _ _).alloc (Nat.le_refl _) _⟩

theorem rup_any (n : Int) (w : World) (h : 0 ≤ n) (h' : n ≤ 4611686018427387904) : Calls Tryd.prog 87 #[.int .i64 n] w fun e w' => e = .returned (.int .i64 ((n + 719) / 720)) ∧ w = w' := by
  go_enter Tryd.func87, Tryd.ntmps87
  go_wp2
  go_ret
  exact ⟨rfl, rfl⟩

theorem rhour_any (n : Int) (w : World) (h : 0 ≤ n) (h' : n < 1440) : Calls Tryd.prog 84 #[.int .i64 n] w fun e w' => e = .returned (.agg #[.bool (decide (720 ≤ n)), .int .i64 (n / 60 % 12), .int .i64 (n % 60)]) ∧ Below w.heap.size w w' := by
  go_enter Tryd.func84, Tryd.ntmps84
  go_wp2
  refine bodyPost_ret (v := .agg #[.bool (decide (720 ≤ n)), .int .i64 (n / 60 % 12), .int .i64 (n % 60)]) (by simp [results, Tryd.results84, go_sem]) rfl ⟨rfl, ?_⟩
  exact (by repeat (first | exact Below.refl _ _ | assumption | refine bthen ?_ (by assumption) | refine Below.alloc ?_ (by first | exact Nat.le_refl _ | (simp; done) | (simp; omega) | omega) _ | refine Below.setCell ?_ (by first | exact Nat.le_refl _ | (simp; done) | (simp; omega) | omega) _ | refine below_drewN ?_ _ | refine Below.drew ?_))

/-- The number of an hour among all. -/
def ordr (day : Int) (nt : Bool) (h p : Int) : Int := day * 1440 + 60 * h + p + (if nt then 720 else 0)
theorem rOrder_any (day : Int) (nt : Bool) (h p : Int) (w : World) (hd : -1000000 ≤ day) (hd' : day ≤ 1000000) (h1 : 0 ≤ h) (h1' : h ≤ 11) (h2 : 0 ≤ p) (h2' : p ≤ 59) :
    Calls Tryd.prog 50 #[.int .i64 day, .agg #[.bool nt, .int .i64 h, .int .i64 p]] w fun e w' => e = .returned (.int .i64 (ordr day nt h p)) ∧ Below w.heap.size w w' := by
  cases nt
  all_goals
    go_enter Tryd.func50, Tryd.ntmps50
    go_wp2
    go_ret
    exact ⟨ret_int (by simp [ordr]), (Below.refl _ _).alloc (Nat.le_refl _) _⟩
end Go.Proofs.YtpjnlcdmbkbfcaaDoor
