/- Walks of the reference's Feast and Months. -/
import Derived.Test.YtpjnlcdmbkbfcaaDoorRC2
import Derived.Test.YtpjnlcdmbkbfcaaDoorC5
namespace Go.Proofs.YtpjnlcdmbkbfcaaDoor
open Go.ChangeShapes Go.WideShapes Go.ChangeAt Go.RowKit Go.BigFrame

theorem rMarket_c (day y m d e : Int) (w : World) (h : dat true day = (y, m, d)) (he : datE true day = e) : Calls Tryd.prog 39 #[.int .i64 day] w fun r w' => r = .returned (.tuple #[.agg #[.int .i64 y, .int .i64 m, .int .i64 d], .int .i64 e]) ∧ Below w.heap.size w w' := by
  have := rMarket_any day w
  unfold DatPost at this
  rw [h, he] at this
  exact this
theorem rCourt_c (day y m d e : Int) (w : World) (h : dat false day = (y, m, d)) (he : datE false day = e) : Calls Tryd.prog 36 #[.int .i64 day] w fun r w' => r = .returned (.tuple #[.agg #[.int .i64 y, .int .i64 m, .int .i64 d], .int .i64 e]) ∧ Below w.heap.size w w' := by
  have := rCourt_any day w
  unfold DatPost at this
  rw [h, he] at this
  exact this
theorem datE_ok {mk : Bool} {day : Int} (h0 : 0 ≤ day) (h1 : day < dMax mk) : datE mk day = 0 := by unfold datE; rw [if_pos ⟨h0, h1⟩]
theorem bgn_eq {mk : Bool} {day y m d : Int} (h0 : 0 ≤ day) (h1 : day < dMax mk) (e : dat mk day = (y, m, d)) : bgn mk day = (d == 1) := by
  rw [bgn_here h0 h1 e]; rfl

set_option maxHeartbeats 1000000 in
theorem rMonths_any (year : Int) (w : World) : Calls Tryd.prog 45 #[.int .i64 year] w fun e w' => e = .returned (.tuple #[.int .i64 (moV year), .int .i64 (moE year)]) ∧ Below w.heap.size w w' := by
  rcases bool_ft (inB year 1 9000) with hy | hy
  · have hf := inB_f hy
    have HV := Lib.hid (show moV year = 0 by unfold moV; rw [if_neg (by omega)])
    have HE := Lib.hid (show moE year = 1 by unfold moE; rw [if_neg (by omega)])
    go_enter Tryd.func45, Tryd.ntmps45
    go_wp2_with fail
    refine (rwithin_c year 1 9000 _ _ hy).mono ?_
    rintro e w2 ⟨rfl, rfl⟩
    go_wp2_with fail
    go_ret2
    exact ⟨ret_two HV.out.symm HE.out.symm, (by repeat (first | exact Below.refl _ _ | assumption | refine bthen ?_ (by assumption) | refine Below.alloc ?_ (by first | exact Nat.le_refl _ | (simp; done) | (simp; omega) | omega) _ | refine Below.setCell ?_ (by first | exact Nat.le_refl _ | (simp; done) | (simp; omega) | omega) _ | refine below_drewN ?_ _ | refine Below.drew ?_))⟩
  · obtain ⟨y1, y2⟩ := inB_t hy
    have HV := Lib.hid (show moV year = cnt (bgn true) (sta false year) (moK year) by unfold moV; rw [if_pos (by omega)])
    have HE := Lib.hid (show moE year = 0 by unfold moE; rw [if_pos (by omega)])
    have s0 := sta_bd false y1
    have s1 := sta_step false year
    have s3 := sta_mono false (y := year + 1) (z := 9001) (by omega) (by omega)
    rw [sta_c9] at s3
    have s2 := lpy_bd false year y1
    have hcom : com false = 365 := rfl
    rw [hcom] at s1
    have hm := dMax_m
    have HK := Lib.hid (show (moK year : Int) = sta false (year + 1) - sta false year by unfold moK; omega)
    have hK1 : moK year ≤ 366 := by have := HK.out; omega
    have HM := Lib.hid hm
    clear hcom hm
    go_enter Tryd.func45, Tryd.ntmps45
    go_wp2_with fail
    refine (rwithin_c year 1 9000 _ _ hy).mono ?_
    rintro e w2 ⟨rfl, rfl⟩
    go_wp2_with fail
    refine (rcY_any year _ (by omega) (by omega)).mono ?_
    rintro e w2 ⟨rfl, rfl⟩
    go_wp2_with fail
    have S1 := Lib.hid s1
    clear s1
    go_loopw [4, 5] (fun n i wr => ∃ k : Nat, k ≤ moK year ∧ i = .int .i64 (sta false year + k) ∧ n = .int .i64 (cnt (bgn true) (sta false year) k) ∧ Below w.heap.size w wr) (fun _ i _ => (sta false (year + 1) - intOf i).toNat)
    case atStart => exact ⟨0, by omega, by simp, rfl, (by repeat (first | exact Below.refl _ _ | assumption | refine bthen ?_ (by assumption) | refine Below.alloc ?_ (by first | exact Nat.le_refl _ | (simp; done) | (simp; omega) | omega) _ | refine Below.setCell ?_ (by first | exact Nat.le_refl _ | (simp; done) | (simp; omega) | omega) _ | refine below_drewN ?_ _ | refine Below.drew ?_))⟩
    case round =>
      obtain ⟨k, hk, rfl, rfl, hB⟩ := hrel
      have cb := cnt_bd (bgn true) (sta false year) k
      by_cases hlt : k < moK year
      · have hd : sta false year + k < sta false (year + 1) := by have := HK.out; omega
        have hdm : sta false year + k < dMax true := by rw [HM.out]; omega
        obtain ⟨Y, M, D, hdat, _, _, ⟨e1, e2⟩, _, _, hr⟩ := dat_in_year (mk := true) (day := sta false year + k) (by omega) hdm
        clear hr
        have HD := Lib.hid hdat
        have HE0 := Lib.hid (datE_ok (mk := true) (day := sta false year + k) (by omega) hdm)
        have hcs : cnt (bgn true) (sta false year) (k + 1) = cnt (bgn true) (sta false year) k + (if bgn true (sta false year + k) then 1 else 0) := rfl
        rw [bgn_eq (by omega) hdm hdat] at hcs
        have HC := Lib.hid hcs
        clear hcs hdat hdm
        rcases bool_ft (D == 1) with h1 | h1
        · go_wp2_with fail
          refine (rcY_any (year + 1) _ (by omega) (by omega)).mono ?_
          rintro e w2 ⟨rfl, rfl⟩
          go_wp2_with fail
          refine (rMarket_c (sta false year + k) Y M D 0 _ HD.out HE0.out).mono ?_
          rintro e w2 ⟨rfl, hb2⟩
          go_wp2_with fail
          exact ⟨⟨k + 1, by omega, by congr 1; omega, by rw [HC.out, h1]; simp, by first | exact (hB.trans (hb2.mono hB.size)).alloc (by have := hb2.size; have := hB.size; omega) _ | exact (by repeat (first | exact Below.refl _ _ | assumption | refine bthen ?_ (by assumption) | refine Below.alloc ?_ (by first | exact Nat.le_refl _ | (simp; done) | (simp; omega) | omega) _ | refine Below.setCell ?_ (by first | exact Nat.le_refl _ | (simp; done) | (simp; omega) | omega) _ | refine below_drewN ?_ _ | refine Below.drew ?_))⟩, by simp [intOf]; omega⟩
        · go_wp2_with fail
          refine (rcY_any (year + 1) _ (by omega) (by omega)).mono ?_
          rintro e w2 ⟨rfl, rfl⟩
          go_wp2_with fail
          refine (rMarket_c (sta false year + k) Y M D 0 _ HD.out HE0.out).mono ?_
          rintro e w2 ⟨rfl, hb2⟩
          go_wp2_with fail
          exact ⟨⟨k + 1, by omega, by congr 1; omega, by rw [HC.out, h1]; simp, by first | exact (hB.trans (hb2.mono hB.size)).alloc (by have := hb2.size; have := hB.size; omega) _ | exact (by repeat (first | exact Below.refl _ _ | assumption | refine bthen ?_ (by assumption) | refine Below.alloc ?_ (by first | exact Nat.le_refl _ | (simp; done) | (simp; omega) | omega) _ | refine Below.setCell ?_ (by first | exact Nat.le_refl _ | (simp; done) | (simp; omega) | omega) _ | refine below_drewN ?_ _ | refine Below.drew ?_))⟩, by simp [intOf]; omega⟩
      · obtain rfl : k = moK year := by omega
        have hd : ¬ sta false year + (moK year : Int) < sta false (year + 1) := by have := HK.out; omega
        go_wp2_with fail
        refine (rcY_any (year + 1) _ (by omega) (by omega)).mono ?_
        rintro e w2 ⟨rfl, rfl⟩
        go_wp2_with fail
        go_ret2
        exact ⟨ret_two HV.out.symm HE.out.symm, hB⟩

theorem both_no {i : Int} (h : bgn true i = false) : both i = false := by unfold both; rw [h, Bool.and_false]
theorem both_noc {i : Int} (h : bgn false i = false) : both i = false := by unfold both; rw [h, Bool.false_and]
theorem mk_d1 {day Y M D : Int} (h0 : 0 ≤ day) (h1 : day ≤ 3500000) (e : dat true day = (Y, M, D)) : bgn true (day + (mln true Y M - D + 1)) = true ∧ ∀ i, day < i → i < day + (mln true Y M - D + 1) → both i = false := by
  have dm := dMax_lt true
  obtain ⟨hok, hnum⟩ := dat_bd (mk := true) h0 (by omega) e
  obtain ⟨⟨a1, a2⟩, ⟨b1, b2⟩, c1, c2⟩ := okD_iff.1 hok
  have mb := mln_bd true a1 b1 b2
  have hb := bgn_behind (mk := true) h0 (by omega) e (by omega)
  rw [show day + mln true Y M - D + 1 = day + (mln true Y M - D + 1) by omega] at hb
  exact ⟨hb, fun i hi hi' => both_no (bgn_false h0 (by omega) e hi (by omega))⟩

set_option maxHeartbeats 2000000 in
theorem rFeast_any (day : Int) (w : World) : Calls Tryd.prog 43 #[.int .i64 day] w fun e w' => e = .returned (.tuple #[.int .i64 (feaV day), .int .i64 (feaE 4 day)]) ∧ Below w.heap.size w w' := by
  rcases bool_ft (inB day 0 3000000) with hy | hy
  · have hf := inB_f hy
    have HV := Lib.hid (show feaV day = 0 by unfold feaV; rw [if_neg (by omega)])
    have HE := Lib.hid (show feaE 4 day = 1 by unfold feaE; rw [if_neg (by omega)])
    go_enter Tryd.func43, Tryd.ntmps43
    go_wp2_with fail
    refine (rwithin_c day 0 3000000 _ _ hy).mono ?_
    rintro e w2 ⟨rfl, rfl⟩
    go_wp2_with fail
    go_ret2
    exact ⟨ret_two HV.out.symm HE.out.symm, (by repeat (first | exact Below.refl _ _ | assumption | refine bthen ?_ (by assumption) | refine Below.alloc ?_ (by first | exact Nat.le_refl _ | (simp; done) | (simp; omega) | omega) _ | refine Below.setCell ?_ (by first | exact Nat.le_refl _ | (simp; done) | (simp; omega) | omega) _ | refine below_drewN ?_ _ | refine Below.drew ?_))⟩
  · obtain ⟨y1, y2⟩ := inB_t hy
    have HV := Lib.hid (show feaV day = (fea day).getD 0 by unfold feaV; rw [if_pos (by omega)])
    have HE := Lib.hid (show feaE 4 day = if (fea day).isSome then 0 else 4 by unfold feaE; rw [if_pos (by omega)])
    have dmc := (dMax_lt false).2
    have dmm := (dMax_lt true).2
    obtain ⟨Y, M, D, hdat, ⟨g1, g2⟩, ⟨m1, m2⟩, ⟨e1, e2⟩, _, _, hr⟩ := dat_in_year (mk := true) (day := day) (by omega) (by omega)
    have hbe := bgn_eq (mk := true) (day := day) (by omega) (by omega) hdat
    have hmb := mln_bd true (y := Y) (m := M) g1 m1 m2
    have hnx := mk_d1 (day := day) (by omega) (by omega) hdat
    have HD := Lib.hid hdat
    have HDE := Lib.hid (datE_ok (mk := true) (day := day) (by omega) (by omega))
    have HMO0 := Lib.hid (mmo_ok (mk := true) g1 g2 m1 m2)
    have HBE := Lib.hid hbe
    have HNX0 := Lib.hid hnx
    clear hdat hr hbe hnx
    generalize mln true Y M = x at *
    by_cases hD1 : 1 < D
    · have HN : Hid (bgn true (day + (x - D + 1)) = true ∧ ∀ i, day ≤ i → i < day + (x - D + 1) → both i = false) := Lib.hid ⟨HNX0.out.1, fun i i1 i2 => by
        rcases Int.lt_or_le day i with h | h
        · exact HNX0.out.2 i h i2
        · obtain rfl : i = day := by omega
          exact both_no (by rw [HBE.out]; simp; omega)⟩
      go_enter Tryd.func43, Tryd.ntmps43
      go_wp2_with fail
      refine (rwithin_c day 0 3000000 _ _ hy).mono ?_
      rintro e w2 ⟨rfl, rfl⟩
      go_wp2_with fail
      refine (rMarket_c day Y M D 0 _ HD.out HDE.out).mono ?_
      rintro e w1 ⟨rfl, hb1⟩
      have hw1 := hb1.size
      go_wp2_with fail
      go_quiet ((go_at_call 96; exact quiet_left (rmM_c _ _ x _ HMO0.out)))
      go_wp2_with fail
      have hD0 : Dt ((w1.alloc (dO Y M D)).drewN nq) w1.heap.size Y M D := ⟨by simp [go_sem], by simp [go_sem], by simp [go_sem], fun j => frozen_new_row _ _ _ j, by simp⟩
      have hB0 : Below w.heap.size w ((w1.alloc (dO Y M D)).drewN nq) := (by repeat (first | exact Below.refl _ _ | assumption | refine bthen ?_ (by assumption) | refine Below.alloc ?_ (by first | exact Nat.le_refl _ | (simp; done) | (simp; omega) | omega) _ | refine Below.setCell ?_ (by first | exact Nat.le_refl _ | (simp; done) | (simp; omega) | omega) _ | refine below_drewN ?_ _ | refine Below.drew ?_))
      generalize ((w1.alloc (dO Y M D)).drewN nq) = W0 at *
      clear hb1
      go_loopw [6, 7, 8] (fun n _ _ wr => ∃ n' y' m' d' : Int, day ≤ n' ∧ n' ≤ 3500030 ∧ n = .int .i64 n' ∧ Dt wr w1.heap.size y' m' d' ∧ Below w.heap.size w wr ∧ Hid (bgn true n' = true ∧ ∀ i, day ≤ i → i < n' → both i = false)) (fun n _ _ _ => (3600000 - intOf n).toNat)
      case atStart => exact ⟨day + (x - D + 1), Y, M, D, by omega, by omega, rfl, hD0, hB0, HN⟩
      case round =>
        obtain ⟨n, y', m', d', n1, n2, rfl, hDt, hB, HI⟩ := hrel
        by_cases hle : n ≤ 3500000
        · obtain ⟨cy, cm, cd, hcd, _, _, ⟨c1, c2⟩, _, _, hcr⟩ := dat_in_year (mk := false) (day := n) (by omega) (by have := dmc; omega)
          obtain ⟨ty, tm, td, htd, ⟨ty1, ty2⟩, ⟨tm1, tm2⟩, ⟨t1, t2⟩, _, _, htr⟩ := dat_in_year (mk := true) (day := n) (by omega) (by have := dmm; omega)
          have hc1 := bgn_eq (mk := false) (day := n) (by omega) (by have := dmc; omega) hcd
          have ht1 := bgn_eq (mk := true) (day := n) (by omega) (by have := dmm; omega) htd
          have hmb := mln_bd true (y := ty) (m := tm) ty1 tm1 tm2
          have hnx := mk_d1 (day := n) (by omega) hle htd
          have htd1 : td = 1 := by have h := HI.out.1; rw [ht1] at h; simpa using h
          have HC := Lib.hid hcd
          have HCE := Lib.hid (datE_ok (mk := false) (day := n) (by omega) (by have := dmc; omega))
          have HT := Lib.hid htd
          have HTE := Lib.hid (datE_ok (mk := true) (day := n) (by omega) (by have := dmm; omega))
          have HMO := Lib.hid (mmo_ok (mk := true) ty1 ty2 tm1 tm2)
          have HC1 := Lib.hid hc1
          have HNX := Lib.hid hnx
          have HTD1 := Lib.hid htd1
          clear hcr htr hcd htd hc1 ht1 hnx htd1
          rcases bool_ft (cd == 1) with h1 | h1
          · go_wp2_with fail
            refine (rCourt_c n cy cm cd 0 _ HC.out HCE.out).mono ?_
            rintro e w2 ⟨rfl, hb2⟩
            have hB2 := hB.trans (hb2.mono hB.size)
            have hz2 := hB2.size
            have hD2 := hDt.below hb2
            go_wp2_with fail
            have hB3 : Below w.heap.size w (w2.alloc (dO cy cm cd)) := hB2.alloc hz2 _
            have hD3 := hD2.below (ballo w2 (dO cy cm cd))
            refine (rMarket_c n ty tm td 0 _ HT.out HTE.out).mono ?_
            rintro e w3 ⟨rfl, hb3⟩
            have hB4 := hB3.trans (hb3.mono hB3.size)
            have hD4 := hD3.below hb3
            have hDy := hD4.y
            have hDm := hD4.m
            have hDd := hD4.d
            have hDf0 := hD4.f 0
            have hDf1 := hD4.f 1
            have hDf2 := hD4.f 2
            go_wp2_with fail
            have hD5 := ((hD4.setY ty).setM tm).setD td
            have hB5 := ((hB4.setCell (p := ⟨w1.heap.size, 0, none⟩) hw1 (.int .i64 ty)).setCell (p := ⟨w1.heap.size, 1, none⟩) hw1 (.int .i64 tm)).setCell (p := ⟨w1.heap.size, 2, none⟩) hw1 (.int .i64 td)
            have HX2 := HMO.out
            refine (rmM_c ty tm _ _ HX2).mono ?_
            rintro e w4 ⟨rfl, rfl⟩
            clear HX2
            have ht9 := HTD1.out
            have hnb : day ≤ n + mln true ty tm ∧ n + mln true ty tm ≤ 3500030 := by omega
            have HNI : Hid (bgn true (n + mln true ty tm) = true ∧ ∀ i, day ≤ i → i < n + mln true ty tm → both i = false) := by
              have hx := HNX.out
              rw [ht9, show n + (mln true ty tm - 1 + 1) = n + mln true ty tm by omega] at hx
              refine Lib.hid ⟨hx.1, fun i i1 i2 => ?_⟩
              rcases Int.lt_trichotomy i n with h | h | h
              · exact HI.out.2 i i1 h
              · rw [h]; exact both_noc (HC1.out.trans h1)
              · exact hx.2 i h i2
            clear ht9
            generalize mln true ty tm = z at *
            go_wp2_with fail
            exact ⟨⟨n + z, _, _, _, by omega, by omega, rfl, hD5, hB5, HNI⟩, by simp [intOf]; omega⟩
          · have hfe : fea day = some n := fea_at n1 hle (by unfold both; rw [HC1.out, h1, HI.out.1]; rfl) HI.out.2
            have HFE := Lib.hid hfe
            clear hfe
            go_wp2_with fail
            refine (rCourt_c n cy cm cd 0 _ HC.out HCE.out).mono ?_
            rintro e w2 ⟨rfl, hb2⟩
            have hB2 := hB.trans (hb2.mono hB.size)
            have hz2 := hB2.size
            go_wp2_with fail
            go_ret2
            exact ⟨ret_two (by rw [HV.out, HFE.out]; rfl) (by rw [HE.out, HFE.out]; rfl), hB2.alloc hz2 _⟩
        · have hno : fea day = none := fea_no (fun i i1 i2 => HI.out.2 i i1 (by omega))
          have HNO := Lib.hid hno
          clear hno
          go_wp2_with fail
          go_ret2
          exact ⟨ret_two (by rw [HV.out, HNO.out]; rfl) (by rw [HE.out, HNO.out]; rfl), hB⟩
    · obtain rfl : D = 1 := by omega
      have HN : Hid (bgn true day = true ∧ ∀ i, day ≤ i → i < day → both i = false) := Lib.hid ⟨by rw [HBE.out]; rfl, fun i i1 i2 => by omega⟩
      have hD1' : ¬ (1 : Int) < 1 := by omega
      go_enter Tryd.func43, Tryd.ntmps43
      go_wp2_with fail
      refine (rwithin_c day 0 3000000 _ _ hy).mono ?_
      rintro e w2 ⟨rfl, rfl⟩
      go_wp2_with fail
      refine (rMarket_c day Y M 1 0 _ HD.out HDE.out).mono ?_
      rintro e w1 ⟨rfl, hb1⟩
      have hw1 := hb1.size
      go_wp2_with fail
      have hD0 : Dt (w1.alloc (dO Y M 1)) w1.heap.size Y M 1 := ⟨by simp [go_sem], by simp [go_sem], by simp [go_sem], fun j => frozen_new_row _ _ _ j, by simp⟩
      have hB0 : Below w.heap.size w (w1.alloc (dO Y M 1)) := (by repeat (first | exact Below.refl _ _ | assumption | refine bthen ?_ (by assumption) | refine Below.alloc ?_ (by first | exact Nat.le_refl _ | (simp; done) | (simp; omega) | omega) _ | refine Below.setCell ?_ (by first | exact Nat.le_refl _ | (simp; done) | (simp; omega) | omega) _ | refine below_drewN ?_ _ | refine Below.drew ?_))
      generalize (w1.alloc (dO Y M 1)) = W0 at *
      clear hb1
      go_loopw [6, 7, 8] (fun n _ _ wr => ∃ n' y' m' d' : Int, day ≤ n' ∧ n' ≤ 3500030 ∧ n = .int .i64 n' ∧ Dt wr w1.heap.size y' m' d' ∧ Below w.heap.size w wr ∧ Hid (bgn true n' = true ∧ ∀ i, day ≤ i → i < n' → both i = false)) (fun n _ _ _ => (3600000 - intOf n).toNat)
      case atStart => exact ⟨day, Y, M, 1, by omega, by omega, rfl, hD0, hB0, HN⟩
      case round =>
        obtain ⟨n, y', m', d', n1, n2, rfl, hDt, hB, HI⟩ := hrel
        by_cases hle : n ≤ 3500000
        · obtain ⟨cy, cm, cd, hcd, _, _, ⟨c1, c2⟩, _, _, hcr⟩ := dat_in_year (mk := false) (day := n) (by omega) (by have := dmc; omega)
          obtain ⟨ty, tm, td, htd, ⟨ty1, ty2⟩, ⟨tm1, tm2⟩, ⟨t1, t2⟩, _, _, htr⟩ := dat_in_year (mk := true) (day := n) (by omega) (by have := dmm; omega)
          have hc1 := bgn_eq (mk := false) (day := n) (by omega) (by have := dmc; omega) hcd
          have ht1 := bgn_eq (mk := true) (day := n) (by omega) (by have := dmm; omega) htd
          have hmb := mln_bd true (y := ty) (m := tm) ty1 tm1 tm2
          have hnx := mk_d1 (day := n) (by omega) hle htd
          have htd1 : td = 1 := by have h := HI.out.1; rw [ht1] at h; simpa using h
          have HC := Lib.hid hcd
          have HCE := Lib.hid (datE_ok (mk := false) (day := n) (by omega) (by have := dmc; omega))
          have HT := Lib.hid htd
          have HTE := Lib.hid (datE_ok (mk := true) (day := n) (by omega) (by have := dmm; omega))
          have HMO := Lib.hid (mmo_ok (mk := true) ty1 ty2 tm1 tm2)
          have HC1 := Lib.hid hc1
          have HNX := Lib.hid hnx
          have HTD1 := Lib.hid htd1
          clear hcr htr hcd htd hc1 ht1 hnx htd1
          rcases bool_ft (cd == 1) with h1 | h1
          · go_wp2_with fail
            refine (rCourt_c n cy cm cd 0 _ HC.out HCE.out).mono ?_
            rintro e w2 ⟨rfl, hb2⟩
            have hB2 := hB.trans (hb2.mono hB.size)
            have hz2 := hB2.size
            have hD2 := hDt.below hb2
            go_wp2_with fail
            have hB3 : Below w.heap.size w (w2.alloc (dO cy cm cd)) := hB2.alloc hz2 _
            have hD3 := hD2.below (ballo w2 (dO cy cm cd))
            refine (rMarket_c n ty tm td 0 _ HT.out HTE.out).mono ?_
            rintro e w3 ⟨rfl, hb3⟩
            have hB4 := hB3.trans (hb3.mono hB3.size)
            have hD4 := hD3.below hb3
            have hDy := hD4.y
            have hDm := hD4.m
            have hDd := hD4.d
            have hDf0 := hD4.f 0
            have hDf1 := hD4.f 1
            have hDf2 := hD4.f 2
            go_wp2_with fail
            have hD5 := ((hD4.setY ty).setM tm).setD td
            have hB5 := ((hB4.setCell (p := ⟨w1.heap.size, 0, none⟩) hw1 (.int .i64 ty)).setCell (p := ⟨w1.heap.size, 1, none⟩) hw1 (.int .i64 tm)).setCell (p := ⟨w1.heap.size, 2, none⟩) hw1 (.int .i64 td)
            have HX2 := HMO.out
            refine (rmM_c ty tm _ _ HX2).mono ?_
            rintro e w4 ⟨rfl, rfl⟩
            clear HX2
            have ht9 := HTD1.out
            have hnb : day ≤ n + mln true ty tm ∧ n + mln true ty tm ≤ 3500030 := by omega
            have HNI : Hid (bgn true (n + mln true ty tm) = true ∧ ∀ i, day ≤ i → i < n + mln true ty tm → both i = false) := by
              have hx := HNX.out
              rw [ht9, show n + (mln true ty tm - 1 + 1) = n + mln true ty tm by omega] at hx
              refine Lib.hid ⟨hx.1, fun i i1 i2 => ?_⟩
              rcases Int.lt_trichotomy i n with h | h | h
              · exact HI.out.2 i i1 h
              · rw [h]; exact both_noc (HC1.out.trans h1)
              · exact hx.2 i h i2
            clear ht9
            generalize mln true ty tm = z at *
            go_wp2_with fail
            exact ⟨⟨n + z, _, _, _, by omega, by omega, rfl, hD5, hB5, HNI⟩, by simp [intOf]; omega⟩
          · have hfe : fea day = some n := fea_at n1 hle (by unfold both; rw [HC1.out, h1, HI.out.1]; rfl) HI.out.2
            have HFE := Lib.hid hfe
            clear hfe
            go_wp2_with fail
            refine (rCourt_c n cy cm cd 0 _ HC.out HCE.out).mono ?_
            rintro e w2 ⟨rfl, hb2⟩
            have hB2 := hB.trans (hb2.mono hB.size)
            have hz2 := hB2.size
            go_wp2_with fail
            go_ret2
            exact ⟨ret_two (by rw [HV.out, HFE.out]; rfl) (by rw [HE.out, HFE.out]; rfl), hB2.alloc hz2 _⟩
        · have hno : fea day = none := fea_no (fun i i1 i2 => HI.out.2 i i1 (by omega))
          have HNO := Lib.hid hno
          clear hno
          go_wp2_with fail
          go_ret2
          exact ⟨ret_two (by rw [HV.out, HNO.out]; rfl) (by rw [HE.out, HNO.out]; rfl), hB⟩
end Go.Proofs.YtpjnlcdmbkbfcaaDoor
