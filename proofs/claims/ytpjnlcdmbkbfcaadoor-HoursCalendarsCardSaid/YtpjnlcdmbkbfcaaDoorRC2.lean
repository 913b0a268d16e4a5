/- Walks of the reference's dates and numbers of days. -/
import Derived.Test.YtpjnlcdmbkbfcaaDoorRC1
import Derived.Test.YtpjnlcdmbkbfcaaDoorC4
namespace Go.Proofs.YtpjnlcdmbkbfcaaDoor
open Go.ChangeShapes Go.WideShapes Go.ChangeAt Go.RowKit Go.BigFrame

theorem rcM_c (y m x : Int) (w : World) (h : mmo false y m = x) : Calls Tryd.prog 94 #[.int .i64 y, .int .i64 m] w fun e w' => e = .returned (.int .i64 x) ∧ w = w' := by rw [← h]; exact rcM_any y m w
theorem rmM_c (y m x : Int) (w : World) (h : mmo true y m = x) : Calls Tryd.prog 96 #[.int .i64 y, .int .i64 m] w fun e w' => e = .returned (.int .i64 x) ∧ w = w' := by rw [← h]; exact rmM_any y m w
theorem okD_in (mk : Bool) (y m d : Int) : inB d 1 (mmo mk y m) = okD mk y m d := by rw [okD_mmo]; rfl
theorem dat_in_year {mk : Bool} {day : Int} (h0 : 0 ≤ day) (h1 : day < dMax mk) : ∃ Y M D, dat mk day = (Y, M, D) ∧ (1 ≤ Y ∧ Y ≤ 9999) ∧ (1 ≤ M ∧ M ≤ nmo mk) ∧ (1 ≤ D ∧ D ≤ mln mk Y M) ∧ sta mk Y ≤ day ∧ day < sta mk (Y + 1) ∧ day = sta mk Y + pre mk M + D - 1 := by
  obtain ⟨hok, hnum⟩ := dat_ok (mk := mk) h0 h1
  obtain ⟨a, b, c⟩ := okD_iff.1 hok
  obtain ⟨_, s2, s3, _⟩ := num_in hok
  rw [hnum] at s2 s3
  exact ⟨_, _, _, rfl, a, b, c, s2, s3, hnum.symm⟩

set_option maxHeartbeats 400000 in
theorem rCourt_any (day : Int) (w : World) : Calls Tryd.prog 36 #[.int .i64 day] w fun e w' => DatPost false day w e w' := by
  have dm := dMax_lt false
  have hM : sta false 10000 = dMax false := rfl
  rcases bool_ft (inB day 0 (dMax false - 1)) with hin | hin
  · have hf := inB_f hin
    have hD := Lib.hid (dat_no (mk := false) (day := day) (by omega))
    have hE := Lib.hid (show datE false day = 1 by unfold datE; rw [if_neg (by omega)])
    go_enter Tryd.func36, Tryd.ntmps36
    go_wp2_with fail
    refine (rcY_any 10000 _ (by omega) (by omega)).mono ?_
    rintro e w1 ⟨rfl, rfl⟩
    go_wp2_with fail
    refine (rwithin_c day 0 _ _ _ hin).mono ?_
    rintro e w1 ⟨rfl, rfl⟩
    go_wp2_with fail
    refine bodyPost_ret (v := .tuple #[.agg #[.int .i64 0, .int .i64 0, .int .i64 0], .int .i64 1]) (by simp [results, Tryd.results36, go_sem]) rfl ⟨ret_dat (by rw [hD.out]) (by rw [hD.out]) (by rw [hD.out]) hE.out.symm, ?_⟩
    exact (by repeat (first | exact Below.refl _ _ | assumption | refine bthen ?_ (by assumption) | refine Below.alloc ?_ (by first | exact Nat.le_refl _ | (simp; done) | (simp; omega) | omega) _ | refine Below.setCell ?_ (by first | exact Nat.le_refl _ | (simp; done) | (simp; omega) | omega) _ | refine below_drewN ?_ _ | refine Below.drew ?_))
  obtain ⟨d0, d1⟩ := inB_t hin
  have hE := Lib.hid (show datE false day = 0 by unfold datE; rw [if_pos (by omega)])
  obtain ⟨Y, M, D, hdat, ⟨y1, y2⟩, ⟨m1, m2⟩, ⟨e1, e2⟩, s2, s3, hr⟩ := dat_in_year (mk := false) (day := day) d0 (by omega)
  have HY := Lib.hid (show (dat false day).1 = Y by rw [hdat])
  have HD := Lib.hid (dat_court d0 (by omega) y1 s2 s3)
  have sb := sta_bd false y1
  clear hdat hr m1 m2 e1 e2
  go_enter Tryd.func36, Tryd.ntmps36
  go_wp2_with fail
  refine (rcY_any 10000 _ (by omega) (by omega)).mono ?_
  rintro e w1 ⟨rfl, rfl⟩
  go_wp2_with fail
  refine (rwithin_c day 0 _ _ _ hin).mono ?_
  rintro e w1 ⟨rfl, rfl⟩
  go_wp2_with fail
  refine (rY_c day _ (by omega) (by omega)).mono ?_
  rintro e w1 ⟨rfl, rfl⟩
  rw [HY.out]
  go_wp2_with fail
  refine (rcY_any Y _ (by omega) (by omega)).mono ?_
  rintro e w1 ⟨rfl, rfl⟩
  go_wp2_with fail
  refine bodyPost_ret (v := .tuple #[.agg #[.int .i64 Y, .int .i64 (1 + (day - sta false Y) / 30), .int .i64 (1 + (day - sta false Y) % 30)], .int .i64 0]) (by simp [results, Tryd.results36, go_sem]) rfl ⟨ret_dat (by rw [HD.out]) (by rw [HD.out]) (by rw [HD.out]) hE.out.symm, ?_⟩
  exact (by repeat (first | exact Below.refl _ _ | assumption | refine bthen ?_ (by assumption) | refine Below.alloc ?_ (by first | exact Nat.le_refl _ | (simp; done) | (simp; omega) | omega) _ | refine Below.setCell ?_ (by first | exact Nat.le_refl _ | (simp; done) | (simp; omega) | omega) _ | refine below_drewN ?_ _ | refine Below.drew ?_))

set_option maxHeartbeats 1000000 in
theorem rMarket_any (day : Int) (w : World) : Calls Tryd.prog 39 #[.int .i64 day] w fun e w' => DatPost true day w e w' := by
  have dm := dMax_lt true
  have hM : sta true 10000 = dMax true := rfl
  rcases bool_ft (inB day 0 (dMax true - 1)) with hin | hin
  · have hf := inB_f hin
    have hD := Lib.hid (dat_no (mk := true) (day := day) (by omega))
    have hE := Lib.hid (show datE true day = 1 by unfold datE; rw [if_neg (by omega)])
    go_enter Tryd.func39, Tryd.ntmps39
    go_wp2_with fail
    refine (rmY_any 10000 _ (by omega) (by omega)).mono ?_
    rintro e w1 ⟨rfl, rfl⟩
    go_wp2_with fail
    refine (rwithin_c day 0 _ _ _ hin).mono ?_
    rintro e w1 ⟨rfl, rfl⟩
    go_wp2_with fail
    refine bodyPost_ret (v := .tuple #[.agg #[.int .i64 0, .int .i64 0, .int .i64 0], .int .i64 1]) (by simp [results, Tryd.results39, go_sem]) rfl ⟨ret_dat (by rw [hD.out]) (by rw [hD.out]) (by rw [hD.out]) hE.out.symm, ?_⟩
    exact (by repeat (first | exact Below.refl _ _ | assumption | refine bthen ?_ (by assumption) | refine Below.alloc ?_ (by first | exact Nat.le_refl _ | (simp; done) | (simp; omega) | omega) _ | refine Below.setCell ?_ (by first | exact Nat.le_refl _ | (simp; done) | (simp; omega) | omega) _ | refine below_drewN ?_ _ | refine Below.drew ?_))
  obtain ⟨d0, d1⟩ := inB_t hin
  have hE := Lib.hid (show datE true day = 0 by unfold datE; rw [if_pos (by omega)])
  obtain ⟨Y, M, D, hdat, ⟨y1, y2⟩, ⟨m1, m2⟩, ⟨e1, e2⟩, s2, s3, hr⟩ := dat_in_year (mk := true) (day := day) d0 (by omega)
  have HY := Lib.hid (show (dat true day).1 = Y by rw [hdat])
  have sb := sta_bd true y1
  have HD := Lib.hid hdat
  have hn : nmo true = 12 := rfl
  rw [hn] at m2
  have p1 := pre_1 true
  have HP1 := Lib.hid p1
  obtain ⟨rem, hrem⟩ : ∃ rem, day - sta true Y = rem := ⟨_, rfl⟩
  have HR := Lib.hid (show rem = pre true M + D - 1 by omega)
  have HREM := Lib.hid hrem
  have r0 : 0 ≤ rem := by omega
  have r1 : rem ≤ 4000000 := by omega
  clear hdat hr hn p1
  go_enter Tryd.func39, Tryd.ntmps39
  go_wp2_with fail
  refine (rmY_any 10000 _ (by omega) (by omega)).mono ?_
  rintro e w1 ⟨rfl, rfl⟩
  go_wp2_with fail
  refine (rwithin_c day 0 _ _ _ hin).mono ?_
  rintro e w1 ⟨rfl, rfl⟩
  go_wp2_with fail
  refine (rY_m day _ (by omega) (by omega)).mono ?_
  rintro e w1 ⟨rfl, rfl⟩
  rw [HY.out]
  go_wp2_with fail
  refine (rmY_any Y _ (by omega) (by omega)).mono ?_
  rintro e w1 ⟨rfl, rfl⟩
  go_wp2_with fail
  clear hrem
  go_loop [5, 6] (fun n i => ∃ m : Int, 1 ≤ m ∧ m ≤ M ∧ i = .int .i64 m ∧ n = .int .i64 (rem - pre true m)) (fun _ i => (13 - intOf i).toNat)
  case atStart => exact ⟨1, by omega, by omega, rfl, by rw [HP1.out]; congr 1; have := HREM.out; omega⟩
  case round =>
    obtain ⟨m, n1, n2, rfl, rfl⟩ := hrel
    have pb : 0 ≤ pre true m ∧ pre true m ≤ 1000 := by simp only [pre, if_true]; omega
    have hmo := mmo_ok (mk := true) (y := Y) (m := m) y1 y2 n1 (by show m ≤ 12; omega)
    have mb := mln_bd true (y := Y) (m := m) y1 n1 (by show m ≤ 12; omega)
    have HMO := Lib.hid hmo
    rcases Int.lt_or_le m M with hm | hm
    · have hs := pre_step true Y (m := m) n1 (by show m < 12; omega)
      have hm2 := pre_mono true (m := m + 1) (n := M) (by omega) (by omega)
      have hge : mln true Y m ≤ rem - pre true m := by have := HR.out; omega
      have HS := Lib.hid hs
      clear hs hm2 hmo
      generalize mln true Y m = x at *
      go_wp2_with fail
      refine (rmM_c Y m x _ HMO.out).mono ?_
      rintro e w1 ⟨rfl, rfl⟩
      go_wp2_with fail
      refine (rmM_c Y m x _ HMO.out).mono ?_
      rintro e w1 ⟨rfl, rfl⟩
      go_wp2_with fail
      exact ⟨⟨m + 1, by omega, by omega, rfl, by rw [HS.out, Int.sub_sub]⟩, by simp [intOf]; omega⟩
    · obtain rfl : m = M := by omega
      have hlt : ¬ mln true Y m ≤ rem - pre true m := by have := HR.out; omega
      have HDD := Lib.hid (show rem - pre true m + 1 = D by have := HR.out; omega)
      clear hmo
      generalize mln true Y m = x at *
      go_wp2_with fail
      refine (rmM_c Y m x _ HMO.out).mono ?_
      rintro e w1 ⟨rfl, rfl⟩
      go_wp2_with fail
      refine bodyPost_ret (v := .tuple #[.agg #[.int .i64 Y, .int .i64 m, .int .i64 (1 + (rem - pre true m))], .int .i64 0]) (by simp [results, Tryd.results39, go_sem]) rfl ⟨ret_dat (by rw [HD.out]) (by rw [HD.out]) (by rw [HD.out]; show 1 + (rem - pre true m) = D; have := HDD.out; omega) hE.out.symm, ?_⟩
      exact (by repeat (first | exact Below.refl _ _ | assumption | refine bthen ?_ (by assumption) | refine Below.alloc ?_ (by first | exact Nat.le_refl _ | (simp; done) | (simp; omega) | omega) _ | refine Below.setCell ?_ (by first | exact Nat.le_refl _ | (simp; done) | (simp; omega) | omega) _ | refine below_drewN ?_ _ | refine Below.drew ?_))

set_option maxHeartbeats 400000 in
theorem rCourtDay_any (y m d : Int) (w : World) : Calls Tryd.prog 38 #[.agg #[.int .i64 y, .int .i64 m, .int .i64 d]] w fun e w' => NumPost false y m d w e w' := by
  obtain ⟨x, hx⟩ : ∃ x, mmo false y m = x := ⟨_, rfl⟩
  have hok := okD_in false y m d
  rw [hx] at hok
  have xb := mmo_bd false y m
  rw [hx] at xb
  have HX := Lib.hid hx
  clear hx
  rcases bool_ft (inB d 1 x) with hd | hd
  · obtain ⟨hV, hE⟩ := num_no (hok.symm.trans hd)
    have HV := Lib.hid hV
    have HE := Lib.hid hE
    clear hV hE hok
    go_enter Tryd.func38, Tryd.ntmps38
    go_wp2_with fail
    go_quiet ((first | (go_at_call 94; exact quiet_left (rcM_c _ _ x _ HX.out)) | (go_at_call 79; exact quiet_left (rwithin_c _ _ _ _ _ hd))))
    go_wp2_with fail
    go_ret2
    exact ⟨ret_two HV.out.symm HE.out.symm, (by repeat (first | exact Below.refl _ _ | assumption | refine bthen ?_ (by assumption) | refine Below.alloc ?_ (by first | exact Nat.le_refl _ | (simp; done) | (simp; omega) | omega) _ | refine Below.setCell ?_ (by first | exact Nat.le_refl _ | (simp; done) | (simp; omega) | omega) _ | refine below_drewN ?_ _ | refine Below.drew ?_))⟩
  obtain ⟨⟨y1, y2⟩, ⟨m1, m2⟩, e1, e2⟩ := okD_iff.1 (hok.symm.trans hd)
  obtain ⟨hV, hE⟩ := num_yes (hok.symm.trans hd)
  have HV := Lib.hid hV
  have HE := Lib.hid hE
  have sb := sta_bd false y1
  have hn : nmo false = 13 := rfl
  rw [hn] at m2
  clear hV hE hok hn e2
  have HN := Lib.hid (num_court y m d)
  have d2 := inB_t hd
  go_enter Tryd.func38, Tryd.ntmps38
  go_wp2_with fail
  go_quiet ((first | (go_at_call 94; exact quiet_left (rcM_c _ _ x _ HX.out)) | (go_at_call 79; exact quiet_left (rwithin_c _ _ _ _ _ hd))))
  go_wp2_with fail
  go_quiet ((go_at_call 91; exact quiet_add_left (rcY_any _ _ (by omega) (by omega))))
  go_wp2_with fail
  go_ret2
  exact ⟨ret_two (by rw [HV.out, HN.out]) HE.out.symm, (by repeat (first | exact Below.refl _ _ | assumption | refine bthen ?_ (by assumption) | refine Below.alloc ?_ (by first | exact Nat.le_refl _ | (simp; done) | (simp; omega) | omega) _ | refine Below.setCell ?_ (by first | exact Nat.le_refl _ | (simp; done) | (simp; omega) | omega) _ | refine below_drewN ?_ _ | refine Below.drew ?_))⟩

set_option maxHeartbeats 1000000 in
theorem rMarketDay_any (y m d : Int) (w : World) : Calls Tryd.prog 41 #[.agg #[.int .i64 y, .int .i64 m, .int .i64 d]] w fun e w' => NumPost true y m d w e w' := by
  obtain ⟨x, hx⟩ : ∃ x, mmo true y m = x := ⟨_, rfl⟩
  have hok := okD_in true y m d
  rw [hx] at hok
  have xb := mmo_bd true y m
  rw [hx] at xb
  have HX := Lib.hid hx
  clear hx
  rcases bool_ft (inB d 1 x) with hd | hd
  · obtain ⟨hV, hE⟩ := num_no (hok.symm.trans hd)
    have HV := Lib.hid hV
    have HE := Lib.hid hE
    clear hV hE hok
    go_enter Tryd.func41, Tryd.ntmps41
    go_wp2_with fail
    go_quiet ((first | (go_at_call 96; exact quiet_left (rmM_c _ _ x _ HX.out)) | (go_at_call 79; exact quiet_left (rwithin_c _ _ _ _ _ hd))))
    go_wp2_with fail
    go_ret2
    exact ⟨ret_two HV.out.symm HE.out.symm, (by repeat (first | exact Below.refl _ _ | assumption | refine bthen ?_ (by assumption) | refine Below.alloc ?_ (by first | exact Nat.le_refl _ | (simp; done) | (simp; omega) | omega) _ | refine Below.setCell ?_ (by first | exact Nat.le_refl _ | (simp; done) | (simp; omega) | omega) _ | refine below_drewN ?_ _ | refine Below.drew ?_))⟩
  obtain ⟨⟨y1, y2⟩, ⟨m1, m2⟩, e1, e2⟩ := okD_iff.1 (hok.symm.trans hd)
  obtain ⟨hV, hE⟩ := num_yes (hok.symm.trans hd)
  have HV := Lib.hid hV
  have HE := Lib.hid hE
  have sb := sta_bd true y1
  have hn : nmo true = 12 := rfl
  rw [hn] at m2
  clear hV hE hok hn e2
  have d2 := inB_t hd
  have HP1 := Lib.hid (pre_1 true)
  go_enter Tryd.func41, Tryd.ntmps41
  go_wp2_with fail
  go_quiet ((first | (go_at_call 96; exact quiet_left (rmM_c _ _ x _ HX.out)) | (go_at_call 79; exact quiet_left (rwithin_c _ _ _ _ _ hd))))
  go_wp2_with fail
  go_quiet ((go_at_call 95; exact quiet_add_left (rmY_any _ _ (by omega) (by omega))))
  go_wp2_with fail
  go_loopw [4, 5] (fun n i wr => ∃ (k : Int) (q : Nat), 1 ≤ k ∧ k ≤ m ∧ i = .int .i64 k ∧ n = .int .i64 (sta true y + d - 1 + pre true k) ∧ wr = (w.alloc (dO y m d)).drewN q) (fun _ i _ => (13 - intOf i).toNat)
  case atStart => exact ⟨1, _, by omega, by omega, rfl, by rw [HP1.out]; simp, by rw [World.drewN_drewN]⟩
  case round =>
    obtain ⟨k, q, n1, n2, rfl, rfl, rfl⟩ := hrel
    have pb : 0 ≤ pre true k ∧ pre true k ≤ 1000 := by simp only [pre, if_true]; omega
    by_cases hk : k < m
    · have hmo := mmo_ok (mk := true) (y := y) (m := k) y1 y2 n1 (by show k ≤ 12; omega)
      have mb := mln_bd true (y := y) (m := k) y1 n1 (by show k ≤ 12; omega)
      have hs := pre_step true y (m := k) n1 (by show k < 12; omega)
      have HMO := Lib.hid hmo
      have HS := Lib.hid hs
      clear hmo hs
      generalize mln true y k = z at *
      go_wp2_with fail
      refine (rmM_c y k z _ HMO.out).mono ?_
      rintro e w1 ⟨rfl, rfl⟩
      go_wp2_with fail
      exact ⟨⟨k + 1, _, by omega, by omega, rfl, by rw [HS.out]; congr 1; omega, rfl⟩, by simp [intOf]; omega⟩
    · obtain rfl : k = m := by omega
      go_wp2_with fail
      go_ret2
      exact ⟨ret_two (by rw [HV.out]; unfold num; omega) HE.out.symm, (by repeat (first | exact Below.refl _ _ | assumption | refine bthen ?_ (by assumption) | refine Below.alloc ?_ (by first | exact Nat.le_refl _ | (simp; done) | (simp; omega) | omega) _ | refine Below.setCell ?_ (by first | exact Nat.le_refl _ | (simp; done) | (simp; omega) | omega) _ | refine below_drewN ?_ _ | refine Below.drew ?_))⟩
end Go.Proofs.YtpjnlcdmbkbfcaaDoor
