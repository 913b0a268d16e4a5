/- Walks of common, months, start. -/
import Derived.Test.YtpjnlcdmbkbfcaaDoorC1
import Derived.Deep.RegionWith
namespace Go.Proofs.YtpjnlcdmbkbfcaaDoor
open Go.ChangeShapes Go.WideShapes Go.ChangeAt Go.RowKit Go.BigFrame

/-- The sum of the first k elements. -/
def smL (l : List Int) : Nat → Int
  | 0 => 0
  | k + 1 => smL l k + l[k]?.getD 0
theorem smL_bd {l : List Int} {M : Int} (_hM : 0 ≤ M) : ∀ k, k ≤ l.length → (∀ j, j < l.length → 0 ≤ l[j]?.getD 0 ∧ l[j]?.getD 0 ≤ M) → 0 ≤ smL l k ∧ smL l k ≤ M * k := by
  intro k hk h
  induction k with
  | zero => simp [smL]
  | succ k ih =>
    have := h k (by omega)
    have := ih (by omega)
    simp only [smL, Int.natCast_add, Int.mul_add]
    simp
    omega
theorem plnL_bd (mk : Bool) (j : Nat) (h : j < (plnL mk).length) : 0 ≤ (plnL mk)[j]?.getD 0 ∧ (plnL mk)[j]?.getD 0 ≤ 30 := by
  cases mk
  · have h : j < 13 := h
    rcases plE h with h1 | h1
    · rw [plnC j h1]; omega
    · rw [h1]; rcases Nat.lt_or_ge j 12 with h2 | h2
      · rw [← h1, plnC j h2]; omega
      · obtain rfl : j = 12 := by omega
        decide
  · have h : j < 12 := h
    rw [plnM j h]; omega
theorem com_sm (mk : Bool) : smL (plnL mk) (plnL mk).length = com mk := by cases mk <;> decide

set_option maxHeartbeats 400000 in
theorem com_c (w : World) : Calls Tryd.prog 109 #[.iface 100 (.agg #[])] w fun e w' => e = .returned (.int .i64 (com false)) ∧ Below w.heap.size w w' := by
  go_enter Tryd.func109, Tryd.ntmps109
  go_wp2_with fail
  refine (cplain_any w).mono ?_
  rintro e w1 ⟨v, b, rfl, R⟩
  have hv : v = .slice (some ⟨b, 0, none⟩) 13 13 := R.v
  subst hv
  have hC := Lib.hid R.c
  have hb1 := R.b
  have hn := R.n
  clear R
  go_wp2_with fail
  go_loop [3, 5, 9] (fun n _ i => ∃ k : Nat, k ≤ 13 ∧ i = .int .i64 (k : Int) ∧ n = .int .i64 (smL (plnL false) k)) (fun _ _ i => 13 - (intOf i).toNat)
  case atStart => exact ⟨0, by omega, rfl, rfl⟩
  case round =>
    obtain ⟨k, hk, rfl, rfl⟩ := hrel
    have hbd := smL_bd (l := plnL false) (M := 30) (by omega) k hk (plnL_bd false)
    rcases Nat.lt_or_ge k 13 with h9 | h9
    · have hc := hC.out k h9
      have hs : smL (plnL false) (k + 1) = smL (plnL false) k + (plnL false)[k]?.getD 0 := rfl
      have hx := plnL_bd false k h9
      generalize (plnL false)[k]?.getD 0 = x at hc hs hx
      have HS := Lib.hid hs; clear hs
      go_wp2_with fail
      exact ⟨⟨k + 1, by omega, by go_num, by rw [HS.out]⟩, by simp [intOf]; omega⟩
    · obtain rfl : k = 13 := by omega
      go_wp2_with fail
      go_ret
      exact ⟨ret_int (com_sm false), (by repeat (first | exact Below.refl _ _ | assumption | refine bthen ?_ (by assumption) | refine Below.alloc ?_ (by first | exact Nat.le_refl _ | (simp; done) | (simp; omega) | omega) _ | refine Below.setCell ?_ (by first | exact Nat.le_refl _ | (simp; done) | (simp; omega) | omega) _ | refine below_drewN ?_ _ | refine Below.drew ?_))⟩
set_option maxHeartbeats 400000 in
theorem com_m (w : World) : Calls Tryd.prog 109 #[.iface 101 (.agg #[])] w fun e w' => e = .returned (.int .i64 (com true)) ∧ Below w.heap.size w w' := by
  go_enter Tryd.func109, Tryd.ntmps109
  go_wp2_with fail
  refine (mplain_any w).mono ?_
  rintro e w1 ⟨v, b, rfl, R⟩
  have hv : v = .slice (some ⟨b, 0, none⟩) 12 12 := R.v
  subst hv
  have hC := Lib.hid R.c
  have hb1 := R.b
  have hn := R.n
  clear R
  go_wp2_with fail
  go_loop [3, 5, 9] (fun n _ i => ∃ k : Nat, k ≤ 12 ∧ i = .int .i64 (k : Int) ∧ n = .int .i64 (smL (plnL true) k)) (fun _ _ i => 12 - (intOf i).toNat)
  case atStart => exact ⟨0, by omega, rfl, rfl⟩
  case round =>
    obtain ⟨k, hk, rfl, rfl⟩ := hrel
    have hbd := smL_bd (l := plnL true) (M := 30) (by omega) k hk (plnL_bd true)
    rcases Nat.lt_or_ge k 12 with h9 | h9
    · have hc := hC.out k h9
      have hs : smL (plnL true) (k + 1) = smL (plnL true) k + (plnL true)[k]?.getD 0 := rfl
      have hx := plnL_bd true k h9
      generalize (plnL true)[k]?.getD 0 = x at hc hs hx
      have HS := Lib.hid hs; clear hs
      go_wp2_with fail
      exact ⟨⟨k + 1, by omega, by go_num, by rw [HS.out]⟩, by simp [intOf]; omega⟩
    · obtain rfl : k = 12 := by omega
      go_wp2_with fail
      go_ret
      exact ⟨ret_int (com_sm true), (by repeat (first | exact Below.refl _ _ | assumption | refine bthen ?_ (by assumption) | refine Below.alloc ?_ (by first | exact Nat.le_refl _ | (simp; done) | (simp; omega) | omega) _ | refine Below.setCell ?_ (by first | exact Nat.le_refl _ | (simp; done) | (simp; omega) | omega) _ | refine below_drewN ?_ _ | refine Below.drew ?_))⟩

/-- The lengths of the months of a year. -/
def mlL (mk : Bool) (y : Int) : List Int := (plnL mk).set ((plnL mk).length - 1) ((plnL mk)[(plnL mk).length - 1]?.getD 0 + lpy mk y)
theorem mlL_len (mk : Bool) (y : Int) : (mlL mk y).length = (plnL mk).length := by simp [mlL]
theorem row_last {w w1 w2 : World} {mk : Bool} {y : Int} {b : Nat} (hC : ∀ j, j < (plnL mk).length → w1.cell? ⟨b, j, none⟩ = some (.int .i64 ((plnL mk)[j]?.getD 0))) (hF : ∀ j, w1.frozen? ⟨b, j, none⟩ = false)
    (hb1 : Below w.heap.size w w1) (hn : w.heap.size ≤ b) (hlt : b < w1.heap.size) (hacc : Below w1.drew.heap.size w1.drew w2) {n q : Nat} (hN : (plnL mk).length = n) (hq : q + 1 = n) {x d : Int} (hx : (plnL mk)[q]?.getD 0 = x) (hd : d = lpy mk y) :
    Row w (w2.setCell ⟨b, q, none⟩ (.int .i64 (x + d))) (.slice (some ⟨b, 0, none⟩) n n) b (mlL mk y) := by
  have hB : Below w1.heap.size w1 w2 := ((Below.refl _ w1).drew).trans hacc
  have hcc := (bcell hB).1
  have hff := (bcell hB).2
  refine ⟨by rw [mlL_len, hN], hn, ?_, ?_, ?_, ?_⟩
  · have := hB.size
    simp; omega
  · intro j hj
    rw [mlL_len, hN] at hj
    by_cases h : j = q
    · subst h
      rw [World.cell?_setCell_same' _ _ _ (by rw [hcc _ _ hlt, hC _ (by omega)]; rfl)]
      simp only [mlL, hN, show n - 1 = j by omega, hx, hd]
      rw [List.getElem?_set_self (by omega)]
      rfl
    · rw [World.cell?_setCell_other _ _ _ _ (fun e => h (congrArg Addr.off e).symm), hcc _ _ hlt, hC _ (by omega)]
      simp only [mlL, hN, show n - 1 = q by omega]
      rw [List.getElem?_set_ne (fun e => h e.symm)]
  · intro j
    rw [World.frozen?_setCell, hff _ _ hlt]
    exact hF j
  · exact (bthen hb1 hB).setCell hn _
set_option maxHeartbeats 1000000 in
theorem months_c (y : Int) (w : World) (hy : 1 ≤ y) (hy' : y ≤ 10000) : Calls Tryd.prog 110 #[.iface 100 (.agg #[]), .int .i64 y] w fun e w' => ∃ v b, e = .returned v ∧ Row w w' v b (mlL false y) := by
  go_enter Tryd.func110, Tryd.ntmps110
  go_wp2_with fail
  refine (cplain_any w).mono ?_
  rintro e w1 ⟨v, b, rfl, R⟩
  have hv : v = .slice (some ⟨b, 0, none⟩) 13 13 := R.v
  subst hv
  have hC := Lib.hid R.c
  have hF := Lib.hid R.f
  have hb1 := R.b
  have hn := R.n
  have hlt := R.lt
  clear R
  have hc : w1.cell? ⟨b, 12, none⟩ = some (.int .i64 5) := hC.out 12 (by decide)
  have hf := hF.out 12
  have l1 := lps_bd false (y := y) (by omega)
  have l2 := lps_bd false (y := y - 1) (by omega)
  go_wp2_with fail
  have q1 : IntKind.i64.wrap (y - 1) = y - 1 := IntWalk.i64_in _ (by omega)
  have q2 : IntKind.i64.wrap 12 = 12 := IntWalk.i64_in _ (by omega)
  have q3 : IntKind.i64.wrap (lps false y - lps false (y - 1)) = lps false y - lps false (y - 1) := IntWalk.i64_in _ (by omega)
  have q4 : IntKind.i64.wrap (5 + (lps false y - lps false (y - 1))) = 5 + (lps false y - lps false (y - 1)) := IntWalk.i64_in _ (by omega)
  have hltd : b < w1.drew.heap.size := hlt
  have hacc : Below w1.drew.heap.size w1.drew w1.drew := Below.refl _ _
  go_region_with (go_at_call 162; with_reducible refine (cleaps_any _ _ (by omega) (by omega)).mono ?_; rintro e w2 ⟨rfl, hb2⟩; have hx1 := (bcell hb2).1 b 12 hltd; have hx2 := (bcell hb2).2 b 12 hltd; have hltd := Nat.lt_of_lt_of_le hltd hb2.size; have hacc := bthen hacc hb2)
  all_goals
    go_wp2_with fail
    go_ret
    exact ⟨_, _, rfl, row_last hC.out hF.out hb1 hn hlt hacc (n := 13) (q := 12) rfl rfl rfl rfl⟩
set_option maxHeartbeats 1000000 in
theorem months_m (y : Int) (w : World) (hy : 1 ≤ y) (hy' : y ≤ 10000) : Calls Tryd.prog 110 #[.iface 101 (.agg #[]), .int .i64 y] w fun e w' => ∃ v b, e = .returned v ∧ Row w w' v b (mlL true y) := by
  go_enter Tryd.func110, Tryd.ntmps110
  go_wp2_with fail
  refine (mplain_any w).mono ?_
  rintro e w1 ⟨v, b, rfl, R⟩
  have hv : v = .slice (some ⟨b, 0, none⟩) 12 12 := R.v
  subst hv
  have hC := Lib.hid R.c
  have hF := Lib.hid R.f
  have hb1 := R.b
  have hn := R.n
  have hlt := R.lt
  clear R
  have hc : w1.cell? ⟨b, 11, none⟩ = some (.int .i64 29) := hC.out 11 (by decide)
  have hf := hF.out 11
  have l1 := lps_bd true (y := y) (by omega)
  have l2 := lps_bd true (y := y - 1) (by omega)
  go_wp2_with fail
  have q1 : IntKind.i64.wrap (y - 1) = y - 1 := IntWalk.i64_in _ (by omega)
  have q2 : IntKind.i64.wrap 11 = 11 := IntWalk.i64_in _ (by omega)
  have q3 : IntKind.i64.wrap (lps true y - lps true (y - 1)) = lps true y - lps true (y - 1) := IntWalk.i64_in _ (by omega)
  have q4 : IntKind.i64.wrap (29 + (lps true y - lps true (y - 1))) = 29 + (lps true y - lps true (y - 1)) := IntWalk.i64_in _ (by omega)
  have hltd : b < w1.drew.heap.size := hlt
  have hacc : Below w1.drew.heap.size w1.drew w1.drew := Below.refl _ _
  go_region_with (go_at_call 164; with_reducible refine (mleaps_any _ _ (by omega) (by omega)).mono ?_; rintro e w2 ⟨rfl, hb2⟩; have hx1 := (bcell hb2).1 b 11 hltd; have hx2 := (bcell hb2).2 b 11 hltd; have hltd := Nat.lt_of_lt_of_le hltd hb2.size; have hacc := bthen hacc hb2)
  all_goals
    go_wp2_with fail
    go_ret
    exact ⟨_, _, rfl, row_last hC.out hF.out hb1 hn hlt hacc (n := 12) (q := 11) rfl rfl rfl rfl⟩
end Go.Proofs.YtpjnlcdmbkbfcaaDoor
