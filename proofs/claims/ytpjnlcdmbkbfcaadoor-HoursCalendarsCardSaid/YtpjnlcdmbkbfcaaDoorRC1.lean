/- Walks of the reference's calendars: lengths of months, first days of years, the year of a day. -/
import Derived.Test.YtpjnlcdmbkbfcaaDoorCS3
import Derived.Test.YtpjnlcdmbkbfcaaDoorH9
namespace Go.Proofs.YtpjnlcdmbkbfcaaDoor
open Go.ChangeShapes Go.WideShapes Go.ChangeAt Go.RowKit Go.BigFrame

theorem rwithin_c (n lo hi : Int) (k : Bool) (w : World) (he : inB n lo hi = k) : Calls Tryd.prog 79 #[.int .i64 n, .int .i64 lo, .int .i64 hi] w fun e w' => e = .returned (.bool k) ∧ w = w' := by
  rw [← he]; exact rwithin_any n lo hi w
theorem rcY_any (y : Int) (w : World) (hy : 1 ≤ y) (hy' : y ≤ 20000) : Calls Tryd.prog 91 #[.int .i64 y] w fun e w' => e = .returned (.int .i64 (sta false y)) ∧ w = w' := by
  have h := Lib.hid (sta_court y)
  go_enter Tryd.func91, Tryd.ntmps91
  go_wp2
  go_ret
  exact ⟨ret_int (by rw [h.out]), rfl⟩
theorem rleap_any (y : Int) (w : World) (hy : 0 ≤ y) : Calls Tryd.prog 111 #[.int .i64 y] w fun e w' => e = .returned (.bool (lpB (y % 30))) ∧ w = w' := by
  have h1 := Int.emod_nonneg y (b := 30) (by omega)
  have h2 := Int.emod_lt_of_pos y (b := 30) (by omega)
  go_enter Tryd.func111, Tryd.ntmps111
  go_wp2
  all_goals
    go_ret
    exact ⟨ret_bool (by simp [lpB, *]), rfl⟩
theorem rmY_any (y : Int) (w : World) (hy : 1 ≤ y) (hy' : y ≤ 20000) : Calls Tryd.prog 95 #[.int .i64 y] w fun e w' => e = .returned (.int .i64 (sta true y)) ∧ w = w' := by
  have h := Lib.hid (sta_market hy)
  go_enter Tryd.func95, Tryd.ntmps95
  go_wp2_with fail
  go_loop [4, 5] (fun n i => ∃ k : Nat, (k : Int) ≤ (y - 1) % 30 ∧ i = .int .i64 ((k : Int) + 1) ∧ n = .int .i64 (354 * (y - 1) + 11 * ((y - 1) / 30) + rl k)) (fun _ i => (31 - intOf i).toNat)
  case atStart => exact ⟨0, by omega, rfl, by simp [rl]⟩
  case round =>
    obtain ⟨k, hk, rfl, rfl⟩ := hrel
    have hb := rl_bd k
    by_cases h9 : (k : Int) + 1 ≤ (y - 1) % 30
    · have hs := rl_succ k
      rcases bool_ft (lpB ((k : Int) + 1)) with hl | hl
      · have HL := Lib.hid hl; clear hl
        have HS := Lib.hid hs; clear hs
        go_wp2_with fail
        refine (rleap_any _ _ (by omega)).mono ?_
        rintro e w1 ⟨rfl, rfl⟩
        rw [Int.emod_eq_of_lt (by omega) (by omega), HL.out]
        go_wp2_with fail
        exact ⟨⟨k + 1, by omega, by go_num, by rw [HS.out, HL.out]; simp⟩, by simp [intOf]; omega⟩
      · have HL := Lib.hid hl; clear hl
        have HS := Lib.hid hs; clear hs
        go_wp2_with fail
        refine (rleap_any _ _ (by omega)).mono ?_
        rintro e w1 ⟨rfl, rfl⟩
        rw [Int.emod_eq_of_lt (by omega) (by omega), HL.out]
        go_wp2_with fail
        exact ⟨⟨k + 1, by omega, by go_num, by rw [HS.out, HL.out]; simp; omega⟩, by simp [intOf]; omega⟩
    · go_wp2_with fail
      go_ret
      exact ⟨ret_int (by rw [h.out, show ((y - 1) % 30).toNat = k by omega]), rfl⟩

theorem rcM_any (y m : Int) (w : World) : Calls Tryd.prog 94 #[.int .i64 y, .int .i64 m] w fun e w' => e = .returned (.int .i64 (mmo false y m)) ∧ w = w' := by
  rcases bool_ft (inB y 1 9999) with hy | hy
  · have hf := inB_f hy
    have H := Lib.hid (mmo_no (mk := false) (y := y) (m := m) (by omega))
    clear hf
    go_enter Tryd.func94, Tryd.ntmps94
    go_wp2_with (go_at_call 79; (with_reducible refine (rwithin_c _ _ _ _ _ hy).mono ?_); rintro e w' ⟨rfl, rfl⟩)
    go_ret
    exact ⟨ret_int H.out.symm, rfl⟩
  obtain ⟨y1, y2⟩ := inB_t hy
  rcases bool_ft (inB m 1 13) with hm | hm
  · have hf := inB_f hm
    have H := Lib.hid (mmo_no (mk := false) (y := y) (m := m) (by have : nmo false = 13 := rfl; omega))
    clear hf
    go_enter Tryd.func94, Tryd.ntmps94
    go_wp2_with (first | (go_at_call 79; (with_reducible refine (rwithin_c _ _ _ _ _ hy).mono ?_); rintro e w' ⟨rfl, rfl⟩) | (go_at_call 79; (with_reducible refine (rwithin_c _ _ _ _ _ hm).mono ?_); rintro e w' ⟨rfl, rfl⟩))
    go_ret
    exact ⟨ret_int H.out.symm, rfl⟩
  obtain ⟨m1, m2⟩ := inB_t hm
  have hnm : nmo false = 13 := rfl
  have H := Lib.hid (mmo_ok (mk := false) y1 y2 m1 (by omega))
  clear hnm
  by_cases h13 : m < 13
  · have K : Hid (mln false y m = 30) := by
      simp only [Hid, mln, pln, nmo, Bool.false_eq_true, if_false]
      rw [if_neg (by omega), if_neg (by omega)]; omega
    go_enter Tryd.func94, Tryd.ntmps94
    go_wp2_with (first | (go_at_call 79; (with_reducible refine (rwithin_c _ _ _ _ _ hy).mono ?_); rintro e w' ⟨rfl, rfl⟩) | (go_at_call 79; (with_reducible refine (rwithin_c _ _ _ _ _ hm).mono ?_); rintro e w' ⟨rfl, rfl⟩))
    go_ret
    exact ⟨ret_int (by rw [H.out, K.out]), rfl⟩
  · obtain rfl : m = 13 := by omega
    have K : Hid (mln false y 13 = 5 + lpy false y) := by
      simp only [Hid, mln, pln, nmo, Bool.false_eq_true, if_false, if_true]
    have L := Lib.hid (lpy_c y)
    go_enter Tryd.func94, Tryd.ntmps94
    go_wp2_with (first | (go_at_call 79; (with_reducible refine (rwithin_c _ _ _ _ _ hy).mono ?_); rintro e w' ⟨rfl, rfl⟩) | (go_at_call 79; (with_reducible refine (rwithin_c _ _ _ _ _ hm).mono ?_); rintro e w' ⟨rfl, rfl⟩))
    all_goals
      go_ret
      exact ⟨ret_int (by rw [H.out, K.out, L.out]; simp_all; done), rfl⟩
theorem rmM_any (y m : Int) (w : World) : Calls Tryd.prog 96 #[.int .i64 y, .int .i64 m] w fun e w' => e = .returned (.int .i64 (mmo true y m)) ∧ w = w' := by
  rcases bool_ft (inB y 1 9999) with hy | hy
  · have hf := inB_f hy
    have H := Lib.hid (mmo_no (mk := true) (y := y) (m := m) (by omega))
    clear hf
    go_enter Tryd.func96, Tryd.ntmps96
    go_wp2_with (go_at_call 79; (with_reducible refine (rwithin_c _ _ _ _ _ hy).mono ?_); rintro e w' ⟨rfl, rfl⟩)
    go_ret
    exact ⟨ret_int H.out.symm, rfl⟩
  obtain ⟨y1, y2⟩ := inB_t hy
  rcases bool_ft (inB m 1 12) with hm | hm
  · have hf := inB_f hm
    have H := Lib.hid (mmo_no (mk := true) (y := y) (m := m) (by have : nmo true = 12 := rfl; omega))
    clear hf
    go_enter Tryd.func96, Tryd.ntmps96
    go_wp2_with (first | (go_at_call 79; (with_reducible refine (rwithin_c _ _ _ _ _ hy).mono ?_); rintro e w' ⟨rfl, rfl⟩) | (go_at_call 79; (with_reducible refine (rwithin_c _ _ _ _ _ hm).mono ?_); rintro e w' ⟨rfl, rfl⟩))
    go_ret
    exact ⟨ret_int H.out.symm, rfl⟩
  obtain ⟨m1, m2⟩ := inB_t hm
  have hnm : nmo true = 12 := rfl
  have H := Lib.hid (mmo_ok (mk := true) y1 y2 m1 (by omega))
  clear hnm
  rcases bool_ft (m % 2 == 1) with hod | hod
  · by_cases h12 : m = 12
    · subst h12
      have K : Hid (mln true y 12 = 29 + lpy true y) := by
        simp only [Hid, mln, pln, nmo, if_true]; omega
      have L := Lib.hid (lpy_m y y1)
      rcases bool_ft (lpB (y % 30)) with hl | hl
      all_goals
        have HL := Lib.hid hl; clear hl
        go_enter Tryd.func96, Tryd.ntmps96
        go_wp2_with (first | (go_at_call 79; (with_reducible refine (rwithin_c _ _ _ _ _ hy).mono ?_); rintro e w' ⟨rfl, rfl⟩) | (go_at_call 79; (with_reducible refine (rwithin_c _ _ _ _ _ hm).mono ?_); rintro e w' ⟨rfl, rfl⟩))
        refine (rleap_any y _ (by omega)).mono ?_
        rintro e w1 ⟨rfl, rfl⟩
        rw [HL.out]
        go_wp2_with fail
        go_ret
        exact ⟨ret_int (by rw [H.out, K.out, L.out, HL.out]; simp), rfl⟩
    · have h12b : (m == 12) = false := by simpa using h12
      have K : Hid (mln true y m = 29) := by
        simp only [Hid, mln, pln, nmo, if_true]; rw [if_neg (by omega)]
        have : m % 2 ≠ 1 := by simpa using hod
        omega
      go_enter Tryd.func96, Tryd.ntmps96
      go_wp2_with (first | (go_at_call 79; (with_reducible refine (rwithin_c _ _ _ _ _ hy).mono ?_); rintro e w' ⟨rfl, rfl⟩) | (go_at_call 79; (with_reducible refine (rwithin_c _ _ _ _ _ hm).mono ?_); rintro e w' ⟨rfl, rfl⟩))
      go_ret
      exact ⟨ret_int (by rw [H.out, K.out]), rfl⟩
  · have K : Hid (mln true y m = 30) := by
      have : m % 2 = 1 := by simpa using hod
      simp only [Hid, mln, pln, nmo, if_true]; rw [if_neg (by omega)]
      omega
    go_enter Tryd.func96, Tryd.ntmps96
    go_wp2_with (first | (go_at_call 79; (with_reducible refine (rwithin_c _ _ _ _ _ hy).mono ?_); rintro e w' ⟨rfl, rfl⟩) | (go_at_call 79; (with_reducible refine (rwithin_c _ _ _ _ _ hm).mono ?_); rintro e w' ⟨rfl, rfl⟩))
    go_ret
    exact ⟨ret_int (by rw [H.out, K.out]), rfl⟩

theorem rY_c (day : Int) (w : World) (h0 : 0 ≤ day) (h1 : day < dMax false) : Calls Tryd.prog 92 #[.int .i64 day, .bool false] w fun e w' => e = .returned (.int .i64 (dat false day).1) ∧ w = w' := by
  have HM := Lib.hid (show sta false 10000 = dMax false from rfl)
  have HD := Lib.hid (fun (y : Int) (hy : 1 ≤ y) (h2 : sta false y ≤ day) (h3 : day < sta false (y + 1)) => dat_year h0 h1 hy h2 h3)
  have s1 := sta_1 false
  have HS := Lib.hid s1; clear s1
  go_enter Tryd.func92, Tryd.ntmps92
  go_wp2_with fail
  go_loop [5, 6] (fun a b => ∃ lo hi : Int, 1 ≤ lo ∧ lo ≤ hi ∧ hi ≤ 9999 ∧ a = .int .i64 lo ∧ b = .int .i64 hi ∧ sta false lo ≤ day ∧ day < sta false (hi + 1)) (fun a b => (intOf b - intOf a).toNat)
  case atStart => exact ⟨1, 9999, by omega, by omega, by omega, rfl, rfl, by rw [HS.out]; exact h0, by rw [show (9999 : Int) + 1 = 10000 by omega, HM.out]; exact h1⟩
  case round =>
    obtain ⟨lo, hi, l1, l2, l3, rfl, rfl, g1, g2⟩ := hrel
    by_cases hlt : lo < hi
    · by_cases hd : sta false ((lo + hi + 1) / 2) ≤ day
      · go_wp2_with (first | (go_at_call 91; (with_reducible refine (rcY_any _ _ (by omega) (by omega)).mono ?_); rintro e w' ⟨rfl, rfl⟩) | (go_at_call 95; (with_reducible refine (rmY_any _ _ (by omega) (by omega)).mono ?_); rintro e w' ⟨rfl, rfl⟩))
        exact ⟨⟨(lo + hi + 1) / 2, hi, by omega, by omega, by omega, rfl, rfl, hd, g2⟩, by simp [intOf]; omega⟩
      · go_wp2_with (first | (go_at_call 91; (with_reducible refine (rcY_any _ _ (by omega) (by omega)).mono ?_); rintro e w' ⟨rfl, rfl⟩) | (go_at_call 95; (with_reducible refine (rmY_any _ _ (by omega) (by omega)).mono ?_); rintro e w' ⟨rfl, rfl⟩))
        exact ⟨⟨lo, (lo + hi + 1) / 2 - 1, by omega, by omega, by omega, rfl, rfl, g1, by rw [show (lo + hi + 1) / 2 - 1 + 1 = (lo + hi + 1) / 2 by omega]; omega⟩, by simp [intOf]; omega⟩
    · obtain rfl : lo = hi := by omega
      go_wp2_with fail
      go_ret
      exact ⟨ret_int (HD.out lo l1 g1 g2).symm, rfl⟩
theorem rY_m (day : Int) (w : World) (h0 : 0 ≤ day) (h1 : day < dMax true) : Calls Tryd.prog 92 #[.int .i64 day, .bool true] w fun e w' => e = .returned (.int .i64 (dat true day).1) ∧ w = w' := by
  have HM := Lib.hid (show sta true 10000 = dMax true from rfl)
  have HD := Lib.hid (fun (y : Int) (hy : 1 ≤ y) (h2 : sta true y ≤ day) (h3 : day < sta true (y + 1)) => dat_year h0 h1 hy h2 h3)
  have s1 := sta_1 true
  have HS := Lib.hid s1; clear s1
  go_enter Tryd.func92, Tryd.ntmps92
  go_wp2_with fail
  go_loop [5, 6] (fun a b => ∃ lo hi : Int, 1 ≤ lo ∧ lo ≤ hi ∧ hi ≤ 9999 ∧ a = .int .i64 lo ∧ b = .int .i64 hi ∧ sta true lo ≤ day ∧ day < sta true (hi + 1)) (fun a b => (intOf b - intOf a).toNat)
  case atStart => exact ⟨1, 9999, by omega, by omega, by omega, rfl, rfl, by rw [HS.out]; exact h0, by rw [show (9999 : Int) + 1 = 10000 by omega, HM.out]; exact h1⟩
  case round =>
    obtain ⟨lo, hi, l1, l2, l3, rfl, rfl, g1, g2⟩ := hrel
    by_cases hlt : lo < hi
    · by_cases hd : sta true ((lo + hi + 1) / 2) ≤ day
      · go_wp2_with (first | (go_at_call 91; (with_reducible refine (rcY_any _ _ (by omega) (by omega)).mono ?_); rintro e w' ⟨rfl, rfl⟩) | (go_at_call 95; (with_reducible refine (rmY_any _ _ (by omega) (by omega)).mono ?_); rintro e w' ⟨rfl, rfl⟩))
        exact ⟨⟨(lo + hi + 1) / 2, hi, by omega, by omega, by omega, rfl, rfl, hd, g2⟩, by simp [intOf]; omega⟩
      · go_wp2_with (first | (go_at_call 91; (with_reducible refine (rcY_any _ _ (by omega) (by omega)).mono ?_); rintro e w' ⟨rfl, rfl⟩) | (go_at_call 95; (with_reducible refine (rmY_any _ _ (by omega) (by omega)).mono ?_); rintro e w' ⟨rfl, rfl⟩))
        exact ⟨⟨lo, (lo + hi + 1) / 2 - 1, by omega, by omega, by omega, rfl, rfl, g1, by rw [show (lo + hi + 1) / 2 - 1 + 1 = (lo + hi + 1) / 2 by omega]; omega⟩, by simp [intOf]; omega⟩
    · obtain rfl : lo = hi := by omega
      go_wp2_with fail
      go_ret
      exact ⟨ret_int (HD.out lo l1 g1 g2).symm, rfl⟩
end Go.Proofs.YtpjnlcdmbkbfcaaDoor
