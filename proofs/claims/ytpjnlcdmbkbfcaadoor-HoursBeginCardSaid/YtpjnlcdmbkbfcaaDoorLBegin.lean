/- The walk of HoursBegin. -/
import Derived.Test.YtpjnlcdmbkbfcaaDoorLCycles
namespace Go.Proofs.YtpjnlcdmbkbfcaaDoor
open Go.ChangeShapes Go.WideShapes Go.ChangeAt Go.RowKit Go.BigFrame

theorem bgn_dat (mk : Bool) (n : Int) : bgn mk n = (decide (datE mk n = 0) && decide ((dat mk n).2.2 = 1)) := by
  rw [Bool.eq_iff_iff, bgn_iff]
  simp only [Bool.and_eq_true, decide_eq_true_eq]
  unfold datE
  split <;> rename_i h <;> simp [h]
theorem both_fun (n : Int) (b : Bool) (w : World) (hb : both n = b) : Calls Tryd.prog 52 #[.int .i64 n] w fun e w' => e = .returned (.bool b) ∧ Below w.heap.size w w' := by
  rw [both, bgn_dat, bgn_dat] at hb
  obtain ⟨y1, m1, d1, e1⟩ : ∃ y m d, dat false n = (y, m, d) := ⟨_, _, _, rfl⟩
  obtain ⟨y2, m2, d2, e2⟩ : ∃ y m d, dat true n = (y, m, d) := ⟨_, _, _, rfl⟩
  obtain ⟨c1, hc1⟩ : ∃ c, datE false n = c := ⟨_, rfl⟩
  obtain ⟨c2, hc2⟩ : ∃ c, datE true n = c := ⟨_, rfl⟩
  rw [e1, e2, hc1, hc2] at hb
  have E1 := Lib.hid e1
  have E2 := Lib.hid e2
  have C1 := Lib.hid hc1
  have C2 := Lib.hid hc2
  have HB := Lib.hid hb
  clear e1 e2 hc1 hc2 hb
  go_enter Tryd.func52, Tryd.ntmps52
  go_wp2_with fail
  refine (Court_c n _ _ _ _ _ E1.out C1.out).mono ?_
  rintro e w1 ⟨rfl, hb1⟩
  go_wp2_with fail
  refine (Market_c n _ _ _ _ _ E2.out C2.out).mono ?_
  rintro e w2 ⟨rfl, hb2⟩
  have hB2 := bnextA hb1 hb2
  obtain ⟨hc4, _⟩ := bcell hb2
  have hs4 := hb2.size
  simp only [World.size_alloc] at hs4
  have hlt4 : w1.heap.size < w2.heap.size := hs4
  have ca2 := hc4 w1.heap.size 2 (by simp)
  simp [go_sem] at ca2
  clear hc4 hs4 hb2

  by_cases q1 : c1 = 0
  · by_cases q2 : c2 = 0
    · by_cases q3 : d1 = 1
      · go_wp2_with fail
        go_ret
        exact ⟨ret_bool (by rw [← HB.out]; simp [q1, q2, q3]; rfl), bthen hB2 (ballo _ _)⟩
      · go_wp2_with fail
        go_ret
        exact ⟨ret_bool (by rw [← HB.out]; simp [q1, q2, q3]), bthen hB2 (ballo _ _)⟩
    · go_wp2_with fail
      go_ret
      exact ⟨ret_bool (by rw [← HB.out]; simp [q1, q2]), bthen hB2 (ballo _ _)⟩
  · go_wp2_with fail
    go_ret
    exact ⟨ret_bool (by rw [← HB.out]; simp [q1]), bthen hB2 (ballo _ _)⟩

/-- What Feast answers, as the law asks for it: the last day that is told, the days ahead of it. -/
theorem fea_cases {day : Int} (h0 : 0 ≤ day) (h1 : day ≤ 3000000) : (∃ n, feaV day = n ∧ feaE 4 day = 0 ∧ (day ≤ n ∧ n ≤ 3500000) ∧ both n = true ∧ ∀ i, day ≤ i → i < n → both i = false) ∨ (feaV day = 0 ∧ feaE 4 day = 4 ∧ ∀ i, day ≤ i → i < 3500001 → both i = false) := by
  cases hf : fea day with
  | some n =>
    have hf' := hf
    unfold fea at hf'
    obtain ⟨a, b, c, d⟩ := fnd_some hf'
    exact .inl ⟨n, by unfold feaV; rw [if_pos ⟨h0, h1⟩, hf]; rfl, by unfold feaE; rw [if_pos ⟨h0, h1⟩, hf]; rfl, by omega, c, d⟩
  | none =>
    have hf' := hf
    unfold fea at hf'
    exact .inr ⟨by unfold feaV; rw [if_pos ⟨h0, h1⟩, hf]; rfl, by unfold feaE; rw [if_pos ⟨h0, h1⟩, hf]; rfl, fun i a b => fnd_no hf' i a (by omega)⟩
theorem Feast_c (day x c : Int) (w : World) (hx : feaV day = x) (hc : feaE 4 day = c) : Calls Tryd.prog 42 #[.int .i64 day] w fun e w' => e = .returned (.tuple #[.int .i64 x, .int .i64 c]) ∧ Below w.heap.size w w' := by
  rw [← hx, ← hc]; exact Feast_any day w
theorem Months_c (year x c : Int) (w : World) (hx : moV year = x) (hc : moE year = c) : Calls Tryd.prog 44 #[.int .i64 year] w fun e w' => e = .returned (.tuple #[.int .i64 x, .int .i64 c]) ∧ Below w.heap.size w w' := by
  rw [← hx, ← hc]; exact Months_any year w
set_option maxRecDepth 100000 in
set_option maxHeartbeats 4000000 in
theorem law_begin (day year between : Int) (w : World) (_ : -9223372036854775808 ≤ day) (_ : day ≤ 9223372036854775807) (_ : -9223372036854775808 ≤ year) (_ : year ≤ 9223372036854775807) (_ : -9223372036854775808 ≤ between) (_ : between ≤ 9223372036854775807) :
    Calls Tryd.prog 13 #[.int .i64 day, .int .i64 year, .int .i64 between] w fun e w' => e = .returned (.bool true) ∧ Below w.heap.size w w' := by
  obtain ⟨x, hx⟩ : ∃ x, moV year = x := ⟨_, rfl⟩
  obtain ⟨c, hc⟩ : ∃ x, moE year = x := ⟨_, rfl⟩
  have HX := Lib.hid hx
  have HC := Lib.hid hc
  have hcx : 1 ≤ year → year ≤ 9000 → c = 0 ∧ 12 ≤ x ∧ x ≤ 13 := fun h1 h2 => by
    rw [← hx, ← hc]
    unfold moV moE
    rw [if_pos ⟨h1, h2⟩, if_pos ⟨h1, h2⟩]
    exact ⟨rfl, mo_12_13 h1 h2⟩
  clear hx hc
  have hyr : (1 ≤ year ∧ year ≤ 9000 ∧ c = 0 ∧ 12 ≤ x ∧ x ≤ 13) ∨ year < 1 ∨ 1 ≤ year ∧ 9000 < year := by
    by_cases h1 : 1 ≤ year
    · by_cases h2 : year ≤ 9000
      · exact .inl ⟨h1, h2, hcx h1 h2⟩
      · omega
    · omega
  clear hcx
  obtain ⟨t, hT⟩ : ∃ t, Int.tmod (max between 0) 3500001 = t := ⟨_, rfl⟩
  have ht1 : 0 ≤ t := by rw [← hT, Int.tmod_eq_emod_of_nonneg (by omega)]; omega
  have ht2 : t ≤ 3500000 := by rw [← hT, Int.tmod_eq_emod_of_nonneg (by omega)]; omega
  rcases hyr with ⟨y1, y2, rfl, x1, x2⟩ | hy | ⟨y1, hy⟩
  all_goals
    by_cases hd : 0 ≤ day ∧ day ≤ 3000000
    case neg =>
      have hd2 : day < 0 ∨ ¬ day < 0 ∧ 3000000 < day := by omega
      clear hd hT ht1 ht2
      rcases hd2 with hd | ⟨hd0, hd⟩
      all_goals
        go_enter Tryd.func13, Tryd.ntmps13
        go_wp2_with fail
        refine (sane_any _).mono ?_
        rintro e w1 ⟨rfl, hb⟩
        have hB1 := bnext (Below.refl w.heap.size w) hb
        go_wp2_with fail
        refine (Months_c year _ _ _ HX.out HC.out).mono ?_
        rintro e w2 ⟨rfl, hb⟩
        have hB2 := bnext hB1 hb
        go_wp2_with fail
        go_ret
        exact ⟨rfl, hB2⟩
    case pos =>
      obtain ⟨d1, d2⟩ := hd
      rcases fea_cases d1 d2 with ⟨n, hfv, hfe, ⟨n1, n2⟩, hbn, hn⟩ | ⟨hfv, hfe, hn⟩
      · have HV := Lib.hid hfv
        have HE := Lib.hid hfe
        have HN := Lib.hid hn
        have HB := Lib.hid hbn
        clear hfv hfe hn hbn
        go_enter Tryd.func13, Tryd.ntmps13
        go_wp2_with fail
        refine (sane_any _).mono ?_
        rintro e w1 ⟨rfl, hb⟩
        have hB1 := bnext (Below.refl w.heap.size w) hb
        go_wp2_with fail
        refine (Months_c year _ _ _ HX.out HC.out).mono ?_
        rintro e w2 ⟨rfl, hb⟩
        have hB2 := bnext hB1 hb
        go_wp2_with fail
        refine (Feast_c day _ _ _ HV.out HE.out).mono ?_
        rintro e w3 ⟨rfl, hb⟩
        have hB3 := bnext hB2 hb
        go_wp2_with fail
        refine (both_fun n _ _ HB.out).mono ?_
        rintro e w4 ⟨rfl, hb⟩
        have hB4 := bnext hB3 hb
        go_wp2_with fail
        go_loopw [13, 14, 15, 70] (fun _ _ _ i wr => ∃ k : Nat, k ≤ 2000 ∧ i = .int .i64 (k : Int) ∧ Below w.heap.size w wr) (fun _ _ _ i _ => (2000 - intOf i).toNat)
        case atStart => exact ⟨0, by omega, rfl, hB4⟩
        case round =>
          obtain ⟨k, hk, rfl, hBr⟩ := hrel
          by_cases hlt : k < 2000
          · by_cases hx : day + (k : Int) < n
            · by_cases ht : day + t + (k : Int) < n
              · go_wp2_with fail
                refine (both_fun (day + (k : Int)) false _ (HN.out _ (by omega) hx)).mono ?_
                rintro e w5 ⟨rfl, hb⟩
                replace hBr := bnext hBr hb
                go_wp2_with fail
                refine (both_fun (day + t + (k : Int)) false _ (HN.out _ (by omega) ht)).mono ?_
                rintro e w6 ⟨rfl, hb⟩
                replace hBr := bnext hBr hb
                go_wp2_with fail
                exact ⟨⟨k + 1, by omega, by go_num, hBr⟩, by simp [intOf]; omega⟩
              · go_wp2_with fail
                refine (both_fun (day + (k : Int)) false _ (HN.out _ (by omega) hx)).mono ?_
                rintro e w5 ⟨rfl, hb⟩
                replace hBr := bnext hBr hb
                go_wp2_with fail
                exact ⟨⟨k + 1, by omega, by go_num, hBr⟩, by simp [intOf]; omega⟩
            · have ht : ¬ day + t + (k : Int) < n := by omega
              go_wp2_with fail
              all_goals exact ⟨⟨k + 1, by omega, by go_num, hBr⟩, by simp [intOf]; omega⟩
          · obtain rfl : k = 2000 := by omega
            go_wp2_with fail
            go_ret
            exact ⟨rfl, hBr⟩
      · have HV := Lib.hid hfv
        have HE := Lib.hid hfe
        have HN := Lib.hid hn
        clear hfv hfe hn
        go_enter Tryd.func13, Tryd.ntmps13
        go_wp2_with fail
        refine (sane_any _).mono ?_
        rintro e w1 ⟨rfl, hb⟩
        have hB1 := bnext (Below.refl w.heap.size w) hb
        go_wp2_with fail
        refine (Months_c year _ _ _ HX.out HC.out).mono ?_
        rintro e w2 ⟨rfl, hb⟩
        have hB2 := bnext hB1 hb
        go_wp2_with fail
        refine (Feast_c day _ _ _ HV.out HE.out).mono ?_
        rintro e w3 ⟨rfl, hb⟩
        have hB3 := bnext hB2 hb
        go_wp2_with fail
        go_loopw [13, 14, 15, 70] (fun _ _ _ i wr => ∃ k : Nat, k ≤ 2000 ∧ i = .int .i64 (k : Int) ∧ Below w.heap.size w wr) (fun _ _ _ i _ => (2000 - intOf i).toNat)
        case atStart => exact ⟨0, by omega, rfl, hB3⟩
        case round =>
          obtain ⟨k, hk, rfl, hBr⟩ := hrel
          by_cases hlt : k < 2000
          · by_cases hx : day + (k : Int) < 3500001
            · by_cases ht : day + t + (k : Int) < 3500001
              · go_wp2_with fail
                refine (both_fun (day + (k : Int)) false _ (HN.out _ (by omega) hx)).mono ?_
                rintro e w5 ⟨rfl, hb⟩
                replace hBr := bnext hBr hb
                go_wp2_with fail
                refine (both_fun (day + t + (k : Int)) false _ (HN.out _ (by omega) ht)).mono ?_
                rintro e w6 ⟨rfl, hb⟩
                replace hBr := bnext hBr hb
                go_wp2_with fail
                exact ⟨⟨k + 1, by omega, by go_num, hBr⟩, by simp [intOf]; omega⟩
              · go_wp2_with fail
                refine (both_fun (day + (k : Int)) false _ (HN.out _ (by omega) hx)).mono ?_
                rintro e w5 ⟨rfl, hb⟩
                replace hBr := bnext hBr hb
                go_wp2_with fail
                exact ⟨⟨k + 1, by omega, by go_num, hBr⟩, by simp [intOf]; omega⟩
            · have ht : ¬ day + t + (k : Int) < 3500001 := by omega
              go_wp2_with fail
              all_goals exact ⟨⟨k + 1, by omega, by go_num, hBr⟩, by simp [intOf]; omega⟩
          · obtain rfl : k = 2000 := by omega
            go_wp2_with fail
            go_ret
            exact ⟨rfl, hBr⟩
end Go.Proofs.YtpjnlcdmbkbfcaaDoor
