/- Walks of the calendars' own methods: leap years, lengths of months. -/
import Derived.Test.YtpjnlcdmbkbfcaaDoorRF
import Derived.Test.YtpjnlcdmbkbfcaaDoorCS2
namespace Go.Proofs.YtpjnlcdmbkbfcaaDoor
open Go.ChangeShapes Go.WideShapes Go.ChangeAt Go.RowKit Go.BigFrame

theorem cleaps_any (y : Int) (w : World) (h : 0 ≤ y) (h' : y ≤ 20000) : Calls Tryd.prog 162 #[.agg #[], .int .i64 y] w fun e w' => e = .returned (.int .i64 (lps false y)) ∧ Below w.heap.size w w' := by
  go_enter Tryd.func162, Tryd.ntmps162
  go_wp2
  go_ret
  exact ⟨ret_int (by simp [lps]), (by repeat (first | exact Below.refl _ _ | assumption | refine bthen ?_ (by assumption) | refine Below.alloc ?_ (by first | exact Nat.le_refl _ | (simp; done) | (simp; omega) | omega) _ | refine Below.setCell ?_ (by first | exact Nat.le_refl _ | (simp; done) | (simp; omega) | omega) _ | refine below_drewN ?_ _ | refine Below.drew ?_))⟩

theorem cl_succ (r : Int) (k : Nat) : cl r (k + 1) = cl r k + (if tab[k]?.getD 0 ≤ r then 1 else 0) := rfl
set_option maxHeartbeats 1000000 in
theorem mleaps_any (y : Int) (w : World) (h : 0 ≤ y) (h' : y ≤ 20000) : Calls Tryd.prog 164 #[.agg #[], .int .i64 y] w fun e w' => e = .returned (.int .i64 (lps true y)) ∧ Below w.heap.size w w' := by
  have e0 : lps true y = y / 30 * 11 + cl (y % 30) 11 := rfl
  rw [e0]
  clear e0
  go_enter Tryd.func164, Tryd.ntmps164
  go_wp2_with fail
  go_loop [5, 7, 12] (fun n _ i => ∃ k : Nat, k ≤ 11 ∧ i = .int .i64 (k : Int) ∧ n = .int .i64 (y / 30 * 11 + cl (y % 30) k)) (fun _ _ i => 11 - (intOf i).toNat)
  case atStart => exact ⟨0, by omega, rfl, by simp [cl]⟩
  case round =>
    obtain ⟨k, hk, rfl, rfl⟩ := hrel
    have hb := cl_bd (y % 30) k
    rcases Nat.lt_or_ge k 11 with h9 | h9
    · have hs := cl_succ (y % 30) k
      obtain ⟨t, ht⟩ : ∃ t, tab[k]?.getD 0 = t := ⟨_, rfl⟩
      have hidx : ∀ w, (Instr.index 177 (.agg #[.int .i64 2, .int .i64 5, .int .i64 7, .int .i64 10, .int .i64 13, .int .i64 16, .int .i64 18, .int .i64 21, .int .i64 24, .int .i64 26, .int .i64 29]) (.int .i64 (k : Int))).run Tryd.prog w = .ok (.int .i64 t) w := by
        subst ht
        have : k = 0 ∨ k = 1 ∨ k = 2 ∨ k = 3 ∨ k = 4 ∨ k = 5 ∨ k = 6 ∨ k = 7 ∨ k = 8 ∨ k = 9 ∨ k = 10 := by omega
        rcases this with rfl | rfl | rfl | rfl | rfl | rfl | rfl | rfl | rfl | rfl | rfl <;> (intro w; kernel_rfl)
      rw [ht] at hs
      by_cases hle : t ≤ y % 30
      · rw [if_pos hle] at hs
        have HS := Lib.hid hs; clear hs
        go_wp2_with fail
        exact ⟨⟨k + 1, by omega, by go_num, by congr 1; rw [HS.out]; omega⟩, by simp [intOf]; omega⟩
      · rw [if_neg hle] at hs
        have HS := Lib.hid hs; clear hs
        go_wp2_with fail
        exact ⟨⟨k + 1, by omega, by go_num, by congr 1; rw [HS.out]; omega⟩, by simp [intOf]; omega⟩
    · obtain rfl : k = 11 := by omega
      go_wp2_with fail
      go_ret
      exact ⟨rfl, (by repeat (first | exact Below.refl _ _ | assumption | refine bthen ?_ (by assumption) | refine Below.alloc ?_ (by first | exact Nat.le_refl _ | (simp; done) | (simp; omega) | omega) _ | refine Below.setCell ?_ (by first | exact Nat.le_refl _ | (simp; done) | (simp; omega) | omega) _ | refine below_drewN ?_ _ | refine Below.drew ?_))⟩

/-- The lengths of the months of a year that is no leap year. -/
def plnL (mk : Bool) : List Int := if mk then [30, 29, 30, 29, 30, 29, 30, 29, 30, 29, 30, 29] else [30, 30, 30, 30, 30, 30, 30, 30, 30, 30, 30, 30, 5]
/-- A new row of ints that may be written. -/
structure Row (w w' : World) (v : Value) (b : Nat) (l : List Int) : Prop where
  v : v = .slice (some ⟨b, 0, none⟩) l.length l.length
  n : w.heap.size ≤ b
  lt : b < w'.heap.size
  c : ∀ j, j < l.length → w'.cell? ⟨b, j, none⟩ = some (.int .i64 (l[j]?.getD 0))
  f : ∀ j, w'.frozen? ⟨b, j, none⟩ = false
  b : Below w.heap.size w w'
/-- A row whose first k elements have been written. -/
def mixL (l d : List Int) (k j : Nat) : Int := if j < k then l[j]?.getD 0 else d[j]?.getD 0
theorem cell_new_row (w : World) (l : List Int) (t : TypeId) (j : Nat) (hj : j < l.length) : (w.alloc (.cells (l.map (Value.int .i64)).toArray t)).cell? ⟨w.heap.size, j, none⟩ = some (.int .i64 (l[j]?.getD 0)) := by
  simp only [World.cell?, World.alloc_heap_new]
  simp [hj]
theorem frozen_new_row (w : World) (A : Array Value) (t : TypeId) (j : Nat) : (w.alloc (.cells A t)).frozen? ⟨w.heap.size, j, none⟩ = false := by
  simp only [World.frozen?, World.alloc_heap_new]
  simp
theorem set_row {w : World} {b n k : Nat} {l d : List Int} {v : Int} (hc : ∀ j, j < n → w.cell? ⟨b, j, none⟩ = some (.int .i64 (mixL l d k j))) (hk : k < n) (hv : l[k]?.getD 0 = v) :
    ∀ j, j < n → (w.setCell ⟨b, k, none⟩ (.int .i64 v)).cell? ⟨b, j, none⟩ = some (.int .i64 (mixL l d (k + 1) j)) := by
  intro j hj
  by_cases h : j = k
  · subst h
    rw [World.cell?_setCell_same' _ _ _ (by rw [hc j hj]; rfl)]
    simp [mixL, hv]
  · rw [World.cell?_setCell_other _ _ _ _ (fun e => h (congrArg Addr.off e).symm), hc j hj]
    congr 2
    unfold mixL
    by_cases h1 : j < k
    · rw [if_pos h1, if_pos (by omega)]
    · rw [if_neg h1, if_neg (by omega)]
theorem mix_end {l d : List Int} {k j : Nat} (h : j < k ∨ l[j]?.getD 0 = d[j]?.getD 0) : mixL l d k j = l[j]?.getD 0 := by
  unfold mixL
  rcases h with h | h
  · rw [if_pos h]
  · split
    · rfl
    · exact h.symm
theorem plnC (k : Nat) (h : k < 12) : (plnL false)[k]?.getD 0 = 30 := by
  have : k = 0 ∨ k = 1 ∨ k = 2 ∨ k = 3 ∨ k = 4 ∨ k = 5 ∨ k = 6 ∨ k = 7 ∨ k = 8 ∨ k = 9 ∨ k = 10 ∨ k = 11 := by omega
  rcases this with rfl | rfl | rfl | rfl | rfl | rfl | rfl | rfl | rfl | rfl | rfl | rfl <;> rfl
theorem plnM (k : Nat) (h : k < 12) : (plnL true)[k]?.getD 0 = 30 - (k : Int) % 2 := by
  have : k = 0 ∨ k = 1 ∨ k = 2 ∨ k = 3 ∨ k = 4 ∨ k = 5 ∨ k = 6 ∨ k = 7 ∨ k = 8 ∨ k = 9 ∨ k = 10 ∨ k = 11 := by omega
  rcases this with rfl | rfl | rfl | rfl | rfl | rfl | rfl | rfl | rfl | rfl | rfl | rfl <;> rfl
theorem plE {j : Nat} (h : j < 13) : j < 12 ∨ (plnL false)[j]?.getD 0 = ([0, 0, 0, 0, 0, 0, 0, 0, 0, 0, 0, 0, 5] : List Int)[j]?.getD 0 := by
  rcases Nat.lt_or_ge j 12 with h1 | h1
  · exact .inl h1
  · obtain rfl : j = 12 := by omega
    exact .inr rfl
set_option maxHeartbeats 1000000 in
theorem cplain_any (w : World) : Calls Tryd.prog 163 #[.agg #[]] w fun e w' => ∃ v b, e = .returned v ∧ Row w w' v b (plnL false) := by
  go_enter Tryd.func163, Tryd.ntmps163
  go_wp2_with fail
  go_loopw [4, 6] (fun _ i wr => ∃ k : Nat, k ≤ 12 ∧ i = .int .i64 (k : Int) ∧ Hid (∀ j, j < 13 → wr.cell? ⟨w.heap.size + 1, j, none⟩ = some (.int .i64 (mixL (plnL false) [0, 0, 0, 0, 0, 0, 0, 0, 0, 0, 0, 0, 5] k j))) ∧ Hid (∀ j, wr.frozen? ⟨w.heap.size + 1, j, none⟩ = false) ∧ Below w.heap.size w wr ∧ w.heap.size + 1 < wr.heap.size) (fun _ i _ => 12 - (intOf i).toNat)
  case atStart =>
    refine ⟨0, by omega, rfl, Lib.hid ?_, Lib.hid ?_, (by repeat (first | exact Below.refl _ _ | assumption | refine bthen ?_ (by assumption) | refine Below.alloc ?_ (by first | exact Nat.le_refl _ | (simp; done) | (simp; omega) | omega) _ | refine Below.setCell ?_ (by first | exact Nat.le_refl _ | (simp; done) | (simp; omega) | omega) _ | refine below_drewN ?_ _ | refine Below.drew ?_)), by simp⟩
    · intro j hj
      have h := cell_new_row (w.alloc (Obj.cells #[] 100)) [0, 0, 0, 0, 0, 0, 0, 0, 0, 0, 0, 0, 5] 176 j hj
      rw [World.size_alloc] at h
      exact h
    · intro j
      have h := frozen_new_row (w.alloc (Obj.cells #[] 100)) ([0, 0, 0, 0, 0, 0, 0, 0, 0, 0, 0, 0, 5].map (Value.int .i64)).toArray 176 j
      rw [World.size_alloc] at h
      exact h
  case round =>
    obtain ⟨k, hk, rfl, hcl, hfr, hbr, hlt⟩ := hrel
    rcases Nat.lt_or_ge k 12 with h9 | h9
    · have hck := hcl.out k (by omega)
      have hfk := hfr.out k
      go_wp2_with fail
      exact ⟨⟨k + 1, by omega, by go_num, Lib.hid (set_row hcl.out (by omega) (plnC k h9)), Lib.hid (fun j => by rw [World.frozen?_setCell]; exact hfr.out j), hbr.setCell (by dsimp only; omega) _, by simpa using hlt⟩, by simp [intOf]; omega⟩
    · obtain rfl : k = 12 := by omega
      go_wp2_with fail
      go_ret
      refine ⟨_, _, rfl, ⟨rfl, by omega, hlt, fun j hj => ?_, hfr.out, hbr⟩⟩
      rw [hcl.out j hj]
      congr 2
      apply mix_end
      have hj' : j < 13 := hj
      exact plE hj'
set_option maxHeartbeats 1000000 in
theorem mplain_any (w : World) : Calls Tryd.prog 165 #[.agg #[]] w fun e w' => ∃ v b, e = .returned v ∧ Row w w' v b (plnL true) := by
  go_enter Tryd.func165, Tryd.ntmps165
  go_wp2_with fail
  go_loopw [4, 5] (fun _ i wr => ∃ k : Nat, k ≤ 12 ∧ i = .int .i64 (k : Int) ∧ Hid (∀ j, j < 12 → wr.cell? ⟨w.heap.size + 1, j, none⟩ = some (.int .i64 (mixL (plnL true) [0, 0, 0, 0, 0, 0, 0, 0, 0, 0, 0, 0] k j))) ∧ Hid (∀ j, wr.frozen? ⟨w.heap.size + 1, j, none⟩ = false) ∧ Below w.heap.size w wr ∧ w.heap.size + 1 < wr.heap.size) (fun _ i _ => 12 - (intOf i).toNat)
  case atStart =>
    refine ⟨0, by omega, rfl, Lib.hid ?_, Lib.hid ?_, (by repeat (first | exact Below.refl _ _ | assumption | refine bthen ?_ (by assumption) | refine Below.alloc ?_ (by first | exact Nat.le_refl _ | (simp; done) | (simp; omega) | omega) _ | refine Below.setCell ?_ (by first | exact Nat.le_refl _ | (simp; done) | (simp; omega) | omega) _ | refine below_drewN ?_ _ | refine Below.drew ?_)), by simp⟩
    · intro j hj
      have h := cell_new_row (w.alloc (Obj.cells #[] 101)) [0, 0, 0, 0, 0, 0, 0, 0, 0, 0, 0, 0] 178 j hj
      rw [World.size_alloc] at h
      exact h
    · intro j
      have h := frozen_new_row (w.alloc (Obj.cells #[] 101)) ([0, 0, 0, 0, 0, 0, 0, 0, 0, 0, 0, 0].map (Value.int .i64)).toArray 178 j
      rw [World.size_alloc] at h
      exact h
  case round =>
    obtain ⟨k, hk, rfl, hcl, hfr, hbr, hlt⟩ := hrel
    rcases Nat.lt_or_ge k 12 with h9 | h9
    · have hck := hcl.out k (by omega)
      have hfk := hfr.out k
      go_wp2_with fail
      exact ⟨⟨k + 1, by omega, by go_num, Lib.hid (set_row hcl.out (by omega) (plnM k h9)), Lib.hid (fun j => by rw [World.frozen?_setCell]; exact hfr.out j), hbr.setCell (by dsimp only; omega) _, by simpa using hlt⟩, by simp [intOf]; omega⟩
    · obtain rfl : k = 12 := by omega
      go_wp2_with fail
      go_ret
      refine ⟨_, _, rfl, ⟨rfl, by omega, hlt, fun j hj => ?_, hfr.out, hbr⟩⟩
      rw [hcl.out j hj]
      congr 2
      apply mix_end
      have hj' : j < 12 := hj
      exact .inl hj'
end Go.Proofs.YtpjnlcdmbkbfcaaDoor
