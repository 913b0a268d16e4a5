/- The walk of HoursAdd. -/
import Derived.Test.YtpjnlcdmbkbfcaaDoorLLines
namespace Go.Proofs.YtpjnlcdmbkbfcaaDoor
open Go.ChangeShapes Go.WideShapes Go.ChangeAt Go.RowKit Go.BigFrame

theorem inB_hi {x : Int} (h : 11000 < x) : inB x 0 11000 = false := by
  have : decide (x ≤ 11000) = false := by simp; omega
  simp [inB, this]
theorem add_no {m n : Int} (h : ¬ (-100000 ≤ m ∧ m ≤ 100000 ∧ -100000 ≤ n ∧ n ≤ 100000)) : m < -100000 ∨ ¬ m < -100000 ∧ (100000 < m ∨ ¬ 100000 < m ∧ (n < -100000 ∨ ¬ n < -100000 ∧ 100000 < n)) := by omega
/-- Some hours later: the hour, its day; none. -/
theorem later_cases (g k : Int) : ∃ d nt h p, okH h p = true ∧ ordr d nt h p = g + 60 * k ∧ d = (g + 60 * k) / 1440 :=
  ⟨_, _, _, _, okH_dec (g + 60 * k), ordr_dec (g + 60 * k), rfl⟩
set_option maxRecDepth 100000 in
set_option maxHeartbeats 8000000 in
theorem law_add (S : Sea) (vd vr vs : Value) (day : Int) (nt : Bool) (h p : Int) (m n : Int) (w : World) (hI : SeaIn w vd vr vs S)
    (_ : -9223372036854775808 ≤ day) (_ : day ≤ 9223372036854775807) (_ : -9223372036854775808 ≤ m) (_ : m ≤ 9223372036854775807) (_ : -9223372036854775808 ≤ n) (_ : n ≤ 9223372036854775807) :
    Calls Tryd.prog 11 #[.agg #[.int .i64 S.L, vd, vr, vs], .int .i64 day, .agg #[.bool nt, .int .i64 h, .int .i64 p], .int .i64 m, .int .i64 n] w fun e w' => e = .returned (.bool true) ∧ Below w.heap.size w w' := by
  have hI0 := (hI.alloc (seaO S vd vr vs)).alloc (hrO nt h p)
  have hL0 := ((Bx.none w).cons [.int .i64 S.L, vd, vr, vs] 24).cons [.bool nt, .int .i64 h, .int .i64 p] 37
  simp only [World.size_alloc] at hL0
  have hB0 : Below w.heap.size w ((w.alloc (seaO S vd vr vs)).alloc (hrO nt h p)) := (by repeat (first | exact Below.refl _ _ | assumption | refine bthen ?_ (by assumption) | refine Below.alloc ?_ (by first | exact Nat.le_refl _ | (simp; done) | (simp; omega) | omega) _ | refine Below.setCell ?_ (by first | exact Nat.le_refl _ | (simp; done) | (simp; omega) | omega) _ | refine below_drewN ?_ _ | refine Below.drew ?_))
  have hC := True.intro
  rcases bool_ft (rgt S [day] (okH h p)) with hr | hr
  · have HR := Lib.hid hr
    clear hr
    go_enter Tryd.func11, Tryd.ntmps11
    go_wp2_with fail
    clear hC
    refine (sane_any _).mono ?_
    rintro e w1 ⟨rfl, hb⟩
    have hI1 := hI0.below hb
    have hL1 := hL0.below hb
    have hB1 := bnext hB0 hb
    have hC := hL1.facts
    simp only [AllC, RowC, Nat.zero_add, Nat.reduceAdd] at hC
    go_wp2_with fail
    clear hC
    refine (right_d S vd vr vs day nt h p _ _ hI1 HR.out).mono ?_
    rintro e w2 ⟨rfl, hb⟩
    have hI2 := hI1.below hb
    have hL2 := hL1.below hb
    have hB2 := bnext hB1 hb
    have hC := hL2.facts
    simp only [AllC, RowC, Nat.zero_add, Nat.reduceAdd] at hC
    go_wp2_with fail
    go_ret
    exact ⟨rfl, hB2⟩
  by_cases hmn : -100000 ≤ m ∧ m ≤ 100000 ∧ -100000 ≤ n ∧ n ≤ 100000
  case neg =>
    have HR := Lib.hid hr
    rcases add_no hmn with hq | ⟨hq0, hq | ⟨hq1, hq | ⟨hq2, hq⟩⟩⟩
    all_goals
      clear hr hmn
      go_enter Tryd.func11, Tryd.ntmps11
      go_wp2_with fail
      clear hC
      refine (sane_any _).mono ?_
      rintro e w1 ⟨rfl, hb⟩
      have hI1 := hI0.below hb
      have hL1 := hL0.below hb
      have hB1 := bnext hB0 hb
      have hC := hL1.facts
      simp only [AllC, RowC, Nat.zero_add, Nat.reduceAdd] at hC
      go_wp2_with fail
      clear hC
      refine (right_d S vd vr vs day nt h p _ _ hI1 HR.out).mono ?_
      rintro e w2 ⟨rfl, hb⟩
      have hI2 := hI1.below hb
      have hL2 := hL1.below hb
      have hB2 := bnext hB1 hb
      have hC := hL2.facts
      simp only [AllC, RowC, Nat.zero_add, Nat.reduceAdd] at hC
      go_wp2_with fail
      go_ret
      exact ⟨rfl, hB2⟩
  obtain ⟨m1, m2, n1, n2⟩ := hmn
  obtain ⟨hv, ⟨da, db⟩, hk⟩ := rgt_t hr
  obtain ⟨⟨k1, k2⟩, q1, q2⟩ := okH_bd hk
  obtain ⟨A1, A2⟩ := mom_bd hv da (by omega) nt k1 k2 q1 q2
  have gA := gm_ordr S day nt hk
  obtain ⟨d1, nt1, h1, p1, ok1, or1, e1⟩ := later_cases (ordr day nt h p) m
  have HR := Lib.hid hr
  have HV := Lib.hid hv
  have HK := Lib.hid hk
  have K1 := Lib.hid ok1
  have O1 := Lib.hid or1
  rcases bool_ft (inB d1 0 11000) with hd1 | hd1
  · have N0 := Lib.hid (show inB (ltN day nt h p m / 1440) 0 11000 = false by rw [ltN, ← e1]; exact hd1)
    clear hr hv hk ok1 or1 e1 hd1 gA
    go_enter Tryd.func11, Tryd.ntmps11
    go_wp2_with fail
    clear hC
    refine (sane_any _).mono ?_
    rintro e w1 ⟨rfl, hb⟩
    have hI1 := hI0.below hb
    have hL1 := hL0.below hb
    have hB1 := bnext hB0 hb
    have hC := hL1.facts
    simp only [AllC, RowC, Nat.zero_add, Nat.reduceAdd] at hC
    go_wp2_with fail
    clear hC
    refine (right_d S vd vr vs day nt h p _ _ hI1 HR.out).mono ?_
    rintro e w2 ⟨rfl, hb⟩
    have hI2 := hI1.below hb
    have hL2 := hL1.below hb
    have hB2 := bnext hB1 hb
    have hC := hL2.facts
    simp only [AllC, RowC, Nat.zero_add, Nat.reduceAdd] at hC
    go_wp2_with fail
    clear hC
    refine (Later_no S _ _ _ day nt h p m _ hI2 HV.out da db HK.out (by omega) (by omega) N0.out).mono ?_
    rintro e w3 ⟨rfl, hb⟩
    have hI3 := hI2.below hb
    have hL3 := hL2.below hb
    have hB3 := bnext hB2 hb
    have hC := hL3.facts
    simp only [AllC, RowC, Nat.zero_add, Nat.reduceAdd] at hC
    go_wp2_with fail
    go_ret
    exact ⟨rfl, (by repeat (first | exact Below.refl _ _ | assumption | refine bthen ?_ (by assumption) | refine Below.alloc ?_ (by first | exact Nat.le_refl _ | (simp; done) | (simp; omega) | omega) _ | refine Below.setCell ?_ (by first | exact Nat.le_refl _ | (simp; done) | (simp; omega) | omega) _ | refine below_drewN ?_ _ | refine Below.drew ?_))⟩
  obtain ⟨d1a, d1b⟩ := inB_t hd1
  obtain ⟨⟨k1a, k1b⟩, q1a, q1b⟩ := okH_bd ok1
  obtain ⟨B1, B2⟩ := mom_bd hv d1a (by omega) nt1 k1a k1b q1a q1b
  have gB := gm_ordr S d1 nt1 ok1
  have lt1 := gm_lt hv (a := ordr day nt h p) (b := ordr d1 nt1 h1 p1)
  have lt2 := gm_lt hv (a := ordr d1 nt1 h1 p1) (b := ordr day nt h p)
  rw [← gA, ← gB] at lt1 lt2
  obtain ⟨d2, nt2, h2, p2, ok2, or2, e2⟩ := later_cases (ordr d1 nt1 h1 p1) n
  obtain ⟨A, hA⟩ : ∃ x, mom S day nt h p = x := ⟨_, rfl⟩
  obtain ⟨B, hB⟩ : ∃ x, mom S d1 nt1 h1 p1 = x := ⟨_, rfl⟩
  have HA := Lib.hid hA
  have HB := Lib.hid hB
  rw [hA] at A1 A2 lt1 lt2
  rw [hB] at B1 B2 lt1 lt2
  rw [or1] at lt1 lt2
  have s1 : 0 < m → A < B := fun h => lt1.2 (by omega)
  have s2 : m < 0 → B < A := fun h => lt2.2 (by omega)
  have s3 : m = 0 → A = B := fun h => by
    have := mt lt1.1 (by omega)
    have := mt lt2.1 (by omega)
    omega
  have O4 := Lib.hid (show ordr (day + 1) nt h p = ordr day nt h p + 60 * 24 by unfold ordr; omega)
  have e24 : (ordr day nt h p + 60 * 24) / 1440 = day + 1 := by
    have := (ordr_parts day nt hk).1
    omega
  have N3 : day + 1 ≤ 11000 ∨ 11000 ≤ day ∧ Hid (inB (ltN day nt h p 24 / 1440) 0 11000 = false) := by
    by_cases hq : day + 1 ≤ 11000
    · exact .inl hq
    · exact .inr ⟨by omega, by rw [ltN, e24]; exact inB_hi (by omega)⟩
  have hT : Int.tdiv (B - A) 720 = (B - A) / 720 ∨ B < A := by
    by_cases hq : B < A
    · exact .inr hq
    · exact .inl (Int.tdiv_eq_ediv_of_nonneg (by omega))
  rcases bool_ft (inB d2 0 11000) with hd2 | hd2
  · have N1 := Lib.hid (show inB (ltN d1 nt1 h1 p1 n / 1440) 0 11000 = false by rw [ltN, ← e2]; exact hd2)
    have N2 := Lib.hid (show inB (ltN day nt h p (m + n) / 1440) 0 11000 = false by rw [ltN, show ordr day nt h p + 60 * (m + n) = ordr d1 nt1 h1 p1 + 60 * n by rw [or1]; omega, ← e2]; exact hd2)
    clear hr hv hk ok1 or1 e1 hd1 gA gB lt1 lt2 e2 or2 ok2 hd2 hA hB e24 hT
    rcases N3 with hq | ⟨hq, N3⟩
    · go_enter Tryd.func11, Tryd.ntmps11
      go_wp2_with fail
      clear hC
      refine (sane_any _).mono ?_
      rintro e w1 ⟨rfl, hb⟩
      have hI1 := hI0.below hb
      have hL1 := hL0.below hb
      have hB1 := bnext hB0 hb
      have hC := hL1.facts
      simp only [AllC, RowC, Nat.zero_add, Nat.reduceAdd] at hC
      go_wp2_with fail
      clear hC
      refine (right_d S vd vr vs day nt h p _ _ hI1 HR.out).mono ?_
      rintro e w2 ⟨rfl, hb⟩
      have hI2 := hI1.below hb
      have hL2 := hL1.below hb
      have hB2 := bnext hB1 hb
      have hC := hL2.facts
      simp only [AllC, RowC, Nat.zero_add, Nat.reduceAdd] at hC
      go_wp2_with fail
      clear hC
      refine (Later_ok S _ _ _ day nt h p m d1 nt1 h1 p1 _ hI2 HV.out da db HK.out (by omega) (by omega) d1a d1b K1.out O1.out).mono ?_
      rintro e w3 ⟨rfl, hb⟩
      have hI3 := hI2.below hb
      have hL3 := hL2.below hb
      have hB3 := bnext hB2 hb
      have hC := hL3.facts
      simp only [AllC, RowC, Nat.zero_add, Nat.reduceAdd] at hC
      go_wp2_with fail
      clear hC
      refine (Later_no S _ _ _ d1 nt1 h1 p1 n _ (hI3.alloc _) HV.out d1a d1b K1.out (by omega) (by omega) N1.out).mono ?_
      rintro e w4 ⟨rfl, hb⟩
      have hI4 := (hI3.alloc _).below hb
      have hL4 := (hL3.cons _ _).below hb
      have hB4 := bnextA hB3 hb
      have hC := hL4.facts
      simp only [AllC, RowC, Nat.zero_add, Nat.reduceAdd] at hC
      go_wp2_with fail
      clear hC
      refine (Later_no S _ _ _ day nt h p (m + n) _ (hI4.alloc _) HV.out da db HK.out (by omega) (by omega) N2.out).mono ?_
      rintro e w5 ⟨rfl, hb⟩
      have hI5 := (hI4.alloc _).below hb
      have hL5 := (hL4.cons _ _).below hb
      have hB5 := bnextA hB4 hb
      have hC := hL5.facts
      simp only [AllC, RowC, Nat.zero_add, Nat.reduceAdd] at hC
      go_wp2_with fail
      clear hC
      refine (Later_ok S _ _ _ day nt h p 24 (day + 1) nt h p _ (hI5.alloc _) HV.out da db HK.out (by omega) (by omega) (by omega) (by omega) HK.out O4.out).mono ?_
      rintro e w6 ⟨rfl, hb⟩
      have hI6 := (hI5.alloc _).below hb
      have hL6 := (hL5.cons _ _).below hb
      have hB6 := bnextA hB5 hb
      have hC := hL6.facts
      simp only [AllC, RowC, Nat.zero_add, Nat.reduceAdd] at hC
      go_wp2_with fail
      have hI6 := hI6.alloc (hrO nt h p)
      have hL6 := hL6.cons [.bool nt, .int .i64 h, .int .i64 p] 37
      have hB6 : Below w.heap.size w (w6.alloc (hrO nt h p)) := bthen hB6 (ballo _ _)
      have hC := hL6.facts
      simp only [AllC, RowC, Nat.zero_add, Nat.reduceAdd] at hC
      have cE : ∀ i : More (w6.alloc (hrO nt h p)), _ := fun i => more_call (exact_ok S _ _ _ day nt h p _ i.x (hI6.below i.h) HV.out da db HK.out HA.out)
      have cF : ∀ i : More (w6.alloc (hrO nt h p)), _ := fun i => more_call (exact_ok S _ _ _ d1 nt1 h1 p1 _ i.x (hI6.below i.h) HV.out d1a d1b K1.out HB.out)
      have CE := Lib.hid cE; clear cE
      have CF := Lib.hid cF; clear cF
      have mc := fun (i : More (w6.alloc (hrO nt h p))) => (bcell i.h).1
      refine wp_region_more (by kernel_rfl) (by kernel_rfl) ?_
      iterate 8 (try (first | go_big_quiet_step ((first | with_reducible exact CE.out _ | with_reducible exact CF.out _)) | quiet_step ((first | with_reducible exact CE.out _ | with_reducible exact CF.out _))))
      iterate 8 (try (first | go_big_quiet_step ((first | with_reducible exact CE.out _ | with_reducible exact CF.out _)) | quiet_step ((first | with_reducible exact CE.out _ | with_reducible exact CF.out _))))
      iterate 8 (try (first | go_big_quiet_step ((first | with_reducible exact CE.out _ | with_reducible exact CF.out _)) | quiet_step ((first | with_reducible exact CE.out _ | with_reducible exact CF.out _))))
      iterate 8 (try (first | go_big_quiet_step ((first | with_reducible exact CE.out _ | with_reducible exact CF.out _)) | quiet_step ((first | with_reducible exact CE.out _ | with_reducible exact CF.out _))))
      iterate 8 (try (first | go_big_quiet_step ((first | with_reducible exact CE.out _ | with_reducible exact CF.out _)) | quiet_step ((first | with_reducible exact CE.out _ | with_reducible exact CF.out _))))
      refine wpQuiet_nil ?_
      rintro ⟨wm, hbm⟩
      dsimp only
      have hI7 := hI6.below hbm
      have hL7 := hL6.below hbm
      have hB7 := bnext hB6 hbm
      have hC := hL7.facts
      simp only [AllC, RowC, Nat.zero_add, Nat.reduceAdd] at hC
      clear mc CE CF hbm
      generalize hwn : wm = w7 at *
      clear hwn
      go_wp2_with fail
      all_goals first | (exfalso; omega) | (go_ret; exact ⟨ret_bool (by first | rfl | (simp; done) | (simp; omega)), (by repeat (first | exact Below.refl _ _ | assumption | refine bthen ?_ (by assumption) | refine Below.alloc ?_ (by first | exact Nat.le_refl _ | (simp; done) | (simp; omega) | omega) _ | refine Below.setCell ?_ (by first | exact Nat.le_refl _ | (simp; done) | (simp; omega) | omega) _ | refine below_drewN ?_ _ | refine Below.drew ?_))⟩)
    · go_enter Tryd.func11, Tryd.ntmps11
      go_wp2_with fail
      clear hC
      refine (sane_any _).mono ?_
      rintro e w1 ⟨rfl, hb⟩
      have hI1 := hI0.below hb
      have hL1 := hL0.below hb
      have hB1 := bnext hB0 hb
      have hC := hL1.facts
      simp only [AllC, RowC, Nat.zero_add, Nat.reduceAdd] at hC
      go_wp2_with fail
      clear hC
      refine (right_d S vd vr vs day nt h p _ _ hI1 HR.out).mono ?_
      rintro e w2 ⟨rfl, hb⟩
      have hI2 := hI1.below hb
      have hL2 := hL1.below hb
      have hB2 := bnext hB1 hb
      have hC := hL2.facts
      simp only [AllC, RowC, Nat.zero_add, Nat.reduceAdd] at hC
      go_wp2_with fail
      clear hC
      refine (Later_ok S _ _ _ day nt h p m d1 nt1 h1 p1 _ hI2 HV.out da db HK.out (by omega) (by omega) d1a d1b K1.out O1.out).mono ?_
      rintro e w3 ⟨rfl, hb⟩
      have hI3 := hI2.below hb
      have hL3 := hL2.below hb
      have hB3 := bnext hB2 hb
      have hC := hL3.facts
      simp only [AllC, RowC, Nat.zero_add, Nat.reduceAdd] at hC
      go_wp2_with fail
      clear hC
      refine (Later_no S _ _ _ d1 nt1 h1 p1 n _ (hI3.alloc _) HV.out d1a d1b K1.out (by omega) (by omega) N1.out).mono ?_
      rintro e w4 ⟨rfl, hb⟩
      have hI4 := (hI3.alloc _).below hb
      have hL4 := (hL3.cons _ _).below hb
      have hB4 := bnextA hB3 hb
      have hC := hL4.facts
      simp only [AllC, RowC, Nat.zero_add, Nat.reduceAdd] at hC
      go_wp2_with fail
      clear hC
      refine (Later_no S _ _ _ day nt h p (m + n) _ (hI4.alloc _) HV.out da db HK.out (by omega) (by omega) N2.out).mono ?_
      rintro e w5 ⟨rfl, hb⟩
      have hI5 := (hI4.alloc _).below hb
      have hL5 := (hL4.cons _ _).below hb
      have hB5 := bnextA hB4 hb
      have hC := hL5.facts
      simp only [AllC, RowC, Nat.zero_add, Nat.reduceAdd] at hC
      go_wp2_with fail
      clear hC
      refine (Later_no S _ _ _ day nt h p 24 _ (hI5.alloc _) HV.out da db HK.out (by omega) (by omega) N3.out).mono ?_
      rintro e w6 ⟨rfl, hb⟩
      have hI6 := (hI5.alloc _).below hb
      have hL6 := (hL5.cons _ _).below hb
      have hB6 := bnextA hB5 hb
      have hC := hL6.facts
      simp only [AllC, RowC, Nat.zero_add, Nat.reduceAdd] at hC
      go_wp2_with fail
      have hI6 := hI6.alloc (hrO false 0 0)
      have hL6 := hL6.cons [.bool false, .int .i64 0, .int .i64 0] 37
      have hB6 : Below w.heap.size w (w6.alloc (hrO false 0 0)) := bthen hB6 (ballo _ _)
      have hC := hL6.facts
      simp only [AllC, RowC, Nat.zero_add, Nat.reduceAdd] at hC
      have cE : ∀ i : More (w6.alloc (hrO false 0 0)), _ := fun i => more_call (exact_ok S _ _ _ day nt h p _ i.x (hI6.below i.h) HV.out da db HK.out HA.out)
      have cF : ∀ i : More (w6.alloc (hrO false 0 0)), _ := fun i => more_call (exact_ok S _ _ _ d1 nt1 h1 p1 _ i.x (hI6.below i.h) HV.out d1a d1b K1.out HB.out)
      have CE := Lib.hid cE; clear cE
      have CF := Lib.hid cF; clear cF
      have mc := fun (i : More (w6.alloc (hrO false 0 0))) => (bcell i.h).1
      refine wp_region_more (by kernel_rfl) (by kernel_rfl) ?_
      iterate 8 (try (first | go_big_quiet_step ((first | with_reducible exact CE.out _ | with_reducible exact CF.out _)) | quiet_step ((first | with_reducible exact CE.out _ | with_reducible exact CF.out _))))
      iterate 8 (try (first | go_big_quiet_step ((first | with_reducible exact CE.out _ | with_reducible exact CF.out _)) | quiet_step ((first | with_reducible exact CE.out _ | with_reducible exact CF.out _))))
      iterate 8 (try (first | go_big_quiet_step ((first | with_reducible exact CE.out _ | with_reducible exact CF.out _)) | quiet_step ((first | with_reducible exact CE.out _ | with_reducible exact CF.out _))))
      iterate 8 (try (first | go_big_quiet_step ((first | with_reducible exact CE.out _ | with_reducible exact CF.out _)) | quiet_step ((first | with_reducible exact CE.out _ | with_reducible exact CF.out _))))
      iterate 8 (try (first | go_big_quiet_step ((first | with_reducible exact CE.out _ | with_reducible exact CF.out _)) | quiet_step ((first | with_reducible exact CE.out _ | with_reducible exact CF.out _))))
      refine wpQuiet_nil ?_
      rintro ⟨wm, hbm⟩
      dsimp only
      have hI7 := hI6.below hbm
      have hL7 := hL6.below hbm
      have hB7 := bnext hB6 hbm
      have hC := hL7.facts
      simp only [AllC, RowC, Nat.zero_add, Nat.reduceAdd] at hC
      clear mc CE CF hbm
      generalize hwn : wm = w7 at *
      clear hwn
      go_wp2_with fail
      all_goals first | (exfalso; omega) | (go_ret; exact ⟨ret_bool (by first | rfl | (simp; done) | (simp; omega)), (by repeat (first | exact Below.refl _ _ | assumption | refine bthen ?_ (by assumption) | refine Below.alloc ?_ (by first | exact Nat.le_refl _ | (simp; done) | (simp; omega) | omega) _ | refine Below.setCell ?_ (by first | exact Nat.le_refl _ | (simp; done) | (simp; omega) | omega) _ | refine below_drewN ?_ _ | refine Below.drew ?_))⟩)
  · obtain ⟨d2a, d2b⟩ := inB_t hd2
    obtain ⟨⟨k2a, k2b⟩, q2a, q2b⟩ := okH_bd ok2
    obtain ⟨C1, C2⟩ := mom_bd hv d2a (by omega) nt2 k2a k2b q2a q2b
    have gC := gm_ordr S d2 nt2 ok2
    have le1 := gm_le hv (a := ordr d1 nt1 h1 p1) (b := ordr d2 nt2 h2 p2)
    rw [← gB, ← gC] at le1
    obtain ⟨C, hCC⟩ : ∃ x, mom S d2 nt2 h2 p2 = x := ⟨_, rfl⟩
    rw [hCC] at C1 C2 le1
    rw [hB] at le1
    have s4 : 0 ≤ n → B ≤ C := fun h => le1.2 (by omega)
    have K2 := Lib.hid ok2
    have O2 := Lib.hid or2
    have O3 := Lib.hid (show ordr d2 nt2 h2 p2 = ordr day nt h p + 60 * (m + n) by rw [or2, or1]; omega)
    have s5 : 0 ≤ m → A ≤ B := by omega
    obtain ⟨U, hU⟩ : ∃ x, B - A = x := ⟨_, rfl⟩
    obtain ⟨V, hV⟩ : ∃ x, C - B = x := ⟨_, rfl⟩
    obtain ⟨W, hW⟩ : ∃ x, C - A = x := ⟨_, rfl⟩
    have PU := Lib.hid (show mom S d1 nt1 h1 p1 - mom S day nt h p = U by rw [hA, hB]; exact hU)
    have PV := Lib.hid (show mom S d2 nt2 h2 p2 - mom S d1 nt1 h1 p1 = V by rw [hCC, hB]; exact hV)
    have PW := Lib.hid (show mom S d2 nt2 h2 p2 - mom S day nt h p = W by rw [hCC, hA]; exact hW)
    clear hr hv hk ok1 or1 e1 hd1 gA gB lt1 lt2 e2 or2 ok2 hd2 hA hB e24 gC le1 hCC
    rcases N3 with hq | ⟨hq, N3⟩
    · go_enter Tryd.func11, Tryd.ntmps11
      go_wp2_with fail
      clear hC
      refine (sane_any _).mono ?_
      rintro e w1 ⟨rfl, hb⟩
      have hI1 := hI0.below hb
      have hL1 := hL0.below hb
      have hB1 := bnext hB0 hb
      have hC := hL1.facts
      simp only [AllC, RowC, Nat.zero_add, Nat.reduceAdd] at hC
      go_wp2_with fail
      clear hC
      refine (right_d S vd vr vs day nt h p _ _ hI1 HR.out).mono ?_
      rintro e w2 ⟨rfl, hb⟩
      have hI2 := hI1.below hb
      have hL2 := hL1.below hb
      have hB2 := bnext hB1 hb
      have hC := hL2.facts
      simp only [AllC, RowC, Nat.zero_add, Nat.reduceAdd] at hC
      go_wp2_with fail
      clear hC
      refine (Later_ok S _ _ _ day nt h p m d1 nt1 h1 p1 _ hI2 HV.out da db HK.out (by omega) (by omega) d1a d1b K1.out O1.out).mono ?_
      rintro e w3 ⟨rfl, hb⟩
      have hI3 := hI2.below hb
      have hL3 := hL2.below hb
      have hB3 := bnext hB2 hb
      have hC := hL3.facts
      simp only [AllC, RowC, Nat.zero_add, Nat.reduceAdd] at hC
      go_wp2_with fail
      clear hC
      refine (Later_ok S _ _ _ d1 nt1 h1 p1 n d2 nt2 h2 p2 _ (hI3.alloc _) HV.out d1a d1b K1.out (by omega) (by omega) d2a d2b K2.out O2.out).mono ?_
      rintro e w4 ⟨rfl, hb⟩
      have hI4 := (hI3.alloc _).below hb
      have hL4 := (hL3.cons _ _).below hb
      have hB4 := bnextA hB3 hb
      have hC := hL4.facts
      simp only [AllC, RowC, Nat.zero_add, Nat.reduceAdd] at hC
      go_wp2_with fail
      clear hC
      refine (Later_ok S _ _ _ day nt h p (m + n) d2 nt2 h2 p2 _ (hI4.alloc _) HV.out da db HK.out (by omega) (by omega) d2a d2b K2.out O3.out).mono ?_
      rintro e w5 ⟨rfl, hb⟩
      have hI5 := (hI4.alloc _).below hb
      have hL5 := (hL4.cons _ _).below hb
      have hB5 := bnextA hB4 hb
      have hC := hL5.facts
      simp only [AllC, RowC, Nat.zero_add, Nat.reduceAdd] at hC
      go_wp2_with fail
      clear hC
      refine (Later_ok S _ _ _ day nt h p 24 (day + 1) nt h p _ (hI5.alloc _) HV.out da db HK.out (by omega) (by omega) (by omega) (by omega) HK.out O4.out).mono ?_
      rintro e w6 ⟨rfl, hb⟩
      have hI6 := (hI5.alloc _).below hb
      have hL6 := (hL5.cons _ _).below hb
      have hB6 := bnextA hB5 hb
      have hC := hL6.facts
      simp only [AllC, RowC, Nat.zero_add, Nat.reduceAdd] at hC
      go_wp2_with fail
      have hI6 := hI6.alloc (hrO nt h p)
      have hL6 := hL6.cons [.bool nt, .int .i64 h, .int .i64 p] 37
      have hB6 : Below w.heap.size w (w6.alloc (hrO nt h p)) := bthen hB6 (ballo _ _)
      have hC := hL6.facts
      simp only [AllC, RowC, Nat.zero_add, Nat.reduceAdd] at hC
      have cE : ∀ i : More (w6.alloc (hrO nt h p)), _ := fun i => more_call (exact_ok S _ _ _ day nt h p _ i.x (hI6.below i.h) HV.out da db HK.out HA.out)
      have cF : ∀ i : More (w6.alloc (hrO nt h p)), _ := fun i => more_call (exact_ok S _ _ _ d1 nt1 h1 p1 _ i.x (hI6.below i.h) HV.out d1a d1b K1.out HB.out)
      have CE := Lib.hid cE; clear cE
      have CF := Lib.hid cF; clear cF
      have mc := fun (i : More (w6.alloc (hrO nt h p))) => (bcell i.h).1
      refine wp_region_more (by kernel_rfl) (by kernel_rfl) ?_
      iterate 8 (try (first | go_big_quiet_step ((first | with_reducible exact CE.out _ | with_reducible exact CF.out _)) | quiet_step ((first | with_reducible exact CE.out _ | with_reducible exact CF.out _))))
      iterate 8 (try (first | go_big_quiet_step ((first | with_reducible exact CE.out _ | with_reducible exact CF.out _)) | quiet_step ((first | with_reducible exact CE.out _ | with_reducible exact CF.out _))))
      iterate 8 (try (first | go_big_quiet_step ((first | with_reducible exact CE.out _ | with_reducible exact CF.out _)) | quiet_step ((first | with_reducible exact CE.out _ | with_reducible exact CF.out _))))
      iterate 8 (try (first | go_big_quiet_step ((first | with_reducible exact CE.out _ | with_reducible exact CF.out _)) | quiet_step ((first | with_reducible exact CE.out _ | with_reducible exact CF.out _))))
      iterate 8 (try (first | go_big_quiet_step ((first | with_reducible exact CE.out _ | with_reducible exact CF.out _)) | quiet_step ((first | with_reducible exact CE.out _ | with_reducible exact CF.out _))))
      refine wpQuiet_nil ?_
      rintro ⟨wm, hbm⟩
      dsimp only
      have hI7 := hI6.below hbm
      have hL7 := hL6.below hbm
      have hB7 := bnext hB6 hbm
      have hC := hL7.facts
      simp only [AllC, RowC, Nat.zero_add, Nat.reduceAdd] at hC
      clear mc CE CF hbm
      generalize hwn : wm = w7 at *
      clear hwn
      go_wp2_with fail
      all_goals try (exfalso; omega)
      all_goals try (go_ret; exact ⟨ret_bool (by first | rfl | (simp; done) | (simp; omega)), (by repeat (first | exact Below.refl _ _ | assumption | refine bthen ?_ (by assumption) | refine Below.alloc ?_ (by first | exact Nat.le_refl _ | (simp; done) | (simp; omega) | omega) _ | refine Below.setCell ?_ (by first | exact Nat.le_refl _ | (simp; done) | (simp; omega) | omega) _ | refine below_drewN ?_ _ | refine Below.drew ?_))⟩)
      all_goals
        clear hC
        refine (Passed_ok S _ _ _ day nt h p d1 nt1 h1 p1 U _ hI7 HV.out da db HK.out d1a d1b K1.out PU.out (by omega)).mono ?_
        rintro e w8 ⟨rfl, hb⟩
        have hI8 := hI7.below hb
        have hL8 := hL7.below hb
        have hB8 := bnext hB7 hb
        have hC := hL8.facts
        simp only [AllC, RowC, Nat.zero_add, Nat.reduceAdd] at hC
        go_wp2_with fail
        clear hC
        refine (Passed_ok S _ _ _ d1 nt1 h1 p1 d2 nt2 h2 p2 V _ (hI8.alloc _) HV.out d1a d1b K1.out d2a d2b K2.out PV.out (by omega)).mono ?_
        rintro e w9 ⟨rfl, hb⟩
        have hI9 := (hI8.alloc _).below hb
        have hL9 := (hL8.cons _ _).below hb
        have hB9 := bnextA hB8 hb
        have hC := hL9.facts
        simp only [AllC, RowC, Nat.zero_add, Nat.reduceAdd] at hC
        go_wp2_with fail
        clear hC
        refine (Passed_ok S _ _ _ day nt h p d2 nt2 h2 p2 W _ (hI9.alloc _) HV.out da db HK.out d2a d2b K2.out PW.out (by omega)).mono ?_
        rintro e w10 ⟨rfl, hb⟩
        have hI10 := (hI9.alloc _).below hb
        have hL10 := (hL9.cons _ _).below hb
        have hB10 := bnextA hB9 hb
        have hC := hL10.facts
        simp only [AllC, RowC, Nat.zero_add, Nat.reduceAdd] at hC
        go_wp2_with fail
        all_goals first | (exfalso; omega) | (go_ret; exact ⟨ret_bool (by first | rfl | (simp; done) | (simp; omega)), (by repeat (first | exact Below.refl _ _ | assumption | refine bthen ?_ (by assumption) | refine Below.alloc ?_ (by first | exact Nat.le_refl _ | (simp; done) | (simp; omega) | omega) _ | refine Below.setCell ?_ (by first | exact Nat.le_refl _ | (simp; done) | (simp; omega) | omega) _ | refine below_drewN ?_ _ | refine Below.drew ?_))⟩)
    · go_enter Tryd.func11, Tryd.ntmps11
      go_wp2_with fail
      clear hC
      refine (sane_any _).mono ?_
      rintro e w1 ⟨rfl, hb⟩
      have hI1 := hI0.below hb
      have hL1 := hL0.below hb
      have hB1 := bnext hB0 hb
      have hC := hL1.facts
      simp only [AllC, RowC, Nat.zero_add, Nat.reduceAdd] at hC
      go_wp2_with fail
      clear hC
      refine (right_d S vd vr vs day nt h p _ _ hI1 HR.out).mono ?_
      rintro e w2 ⟨rfl, hb⟩
      have hI2 := hI1.below hb
      have hL2 := hL1.below hb
      have hB2 := bnext hB1 hb
      have hC := hL2.facts
      simp only [AllC, RowC, Nat.zero_add, Nat.reduceAdd] at hC
      go_wp2_with fail
      clear hC
      refine (Later_ok S _ _ _ day nt h p m d1 nt1 h1 p1 _ hI2 HV.out da db HK.out (by omega) (by omega) d1a d1b K1.out O1.out).mono ?_
      rintro e w3 ⟨rfl, hb⟩
      have hI3 := hI2.below hb
      have hL3 := hL2.below hb
      have hB3 := bnext hB2 hb
      have hC := hL3.facts
      simp only [AllC, RowC, Nat.zero_add, Nat.reduceAdd] at hC
      go_wp2_with fail
      clear hC
      refine (Later_ok S _ _ _ d1 nt1 h1 p1 n d2 nt2 h2 p2 _ (hI3.alloc _) HV.out d1a d1b K1.out (by omega) (by omega) d2a d2b K2.out O2.out).mono ?_
      rintro e w4 ⟨rfl, hb⟩
      have hI4 := (hI3.alloc _).below hb
      have hL4 := (hL3.cons _ _).below hb
      have hB4 := bnextA hB3 hb
      have hC := hL4.facts
      simp only [AllC, RowC, Nat.zero_add, Nat.reduceAdd] at hC
      go_wp2_with fail
      clear hC
      refine (Later_ok S _ _ _ day nt h p (m + n) d2 nt2 h2 p2 _ (hI4.alloc _) HV.out da db HK.out (by omega) (by omega) d2a d2b K2.out O3.out).mono ?_
      rintro e w5 ⟨rfl, hb⟩
      have hI5 := (hI4.alloc _).below hb
      have hL5 := (hL4.cons _ _).below hb
      have hB5 := bnextA hB4 hb
      have hC := hL5.facts
      simp only [AllC, RowC, Nat.zero_add, Nat.reduceAdd] at hC
      go_wp2_with fail
      clear hC
      refine (Later_no S _ _ _ day nt h p 24 _ (hI5.alloc _) HV.out da db HK.out (by omega) (by omega) N3.out).mono ?_
      rintro e w6 ⟨rfl, hb⟩
      have hI6 := (hI5.alloc _).below hb
      have hL6 := (hL5.cons _ _).below hb
      have hB6 := bnextA hB5 hb
      have hC := hL6.facts
      simp only [AllC, RowC, Nat.zero_add, Nat.reduceAdd] at hC
      go_wp2_with fail
      have hI6 := hI6.alloc (hrO false 0 0)
      have hL6 := hL6.cons [.bool false, .int .i64 0, .int .i64 0] 37
      have hB6 : Below w.heap.size w (w6.alloc (hrO false 0 0)) := bthen hB6 (ballo _ _)
      have hC := hL6.facts
      simp only [AllC, RowC, Nat.zero_add, Nat.reduceAdd] at hC
      have cE : ∀ i : More (w6.alloc (hrO false 0 0)), _ := fun i => more_call (exact_ok S _ _ _ day nt h p _ i.x (hI6.below i.h) HV.out da db HK.out HA.out)
      have cF : ∀ i : More (w6.alloc (hrO false 0 0)), _ := fun i => more_call (exact_ok S _ _ _ d1 nt1 h1 p1 _ i.x (hI6.below i.h) HV.out d1a d1b K1.out HB.out)
      have CE := Lib.hid cE; clear cE
      have CF := Lib.hid cF; clear cF
      have mc := fun (i : More (w6.alloc (hrO false 0 0))) => (bcell i.h).1
      refine wp_region_more (by kernel_rfl) (by kernel_rfl) ?_
      iterate 8 (try (first | go_big_quiet_step ((first | with_reducible exact CE.out _ | with_reducible exact CF.out _)) | quiet_step ((first | with_reducible exact CE.out _ | with_reducible exact CF.out _))))
      iterate 8 (try (first | go_big_quiet_step ((first | with_reducible exact CE.out _ | with_reducible exact CF.out _)) | quiet_step ((first | with_reducible exact CE.out _ | with_reducible exact CF.out _))))
      iterate 8 (try (first | go_big_quiet_step ((first | with_reducible exact CE.out _ | with_reducible exact CF.out _)) | quiet_step ((first | with_reducible exact CE.out _ | with_reducible exact CF.out _))))
      iterate 8 (try (first | go_big_quiet_step ((first | with_reducible exact CE.out _ | with_reducible exact CF.out _)) | quiet_step ((first | with_reducible exact CE.out _ | with_reducible exact CF.out _))))
      iterate 8 (try (first | go_big_quiet_step ((first | with_reducible exact CE.out _ | with_reducible exact CF.out _)) | quiet_step ((first | with_reducible exact CE.out _ | with_reducible exact CF.out _))))
      refine wpQuiet_nil ?_
      rintro ⟨wm, hbm⟩
      dsimp only
      have hI7 := hI6.below hbm
      have hL7 := hL6.below hbm
      have hB7 := bnext hB6 hbm
      have hC := hL7.facts
      simp only [AllC, RowC, Nat.zero_add, Nat.reduceAdd] at hC
      clear mc CE CF hbm
      generalize hwn : wm = w7 at *
      clear hwn
      go_wp2_with fail
      all_goals try (exfalso; omega)
      all_goals try (go_ret; exact ⟨ret_bool (by first | rfl | (simp; done) | (simp; omega)), (by repeat (first | exact Below.refl _ _ | assumption | refine bthen ?_ (by assumption) | refine Below.alloc ?_ (by first | exact Nat.le_refl _ | (simp; done) | (simp; omega) | omega) _ | refine Below.setCell ?_ (by first | exact Nat.le_refl _ | (simp; done) | (simp; omega) | omega) _ | refine below_drewN ?_ _ | refine Below.drew ?_))⟩)
      all_goals
        clear hC
        refine (Passed_ok S _ _ _ day nt h p d1 nt1 h1 p1 U _ hI7 HV.out da db HK.out d1a d1b K1.out PU.out (by omega)).mono ?_
        rintro e w8 ⟨rfl, hb⟩
        have hI8 := hI7.below hb
        have hL8 := hL7.below hb
        have hB8 := bnext hB7 hb
        have hC := hL8.facts
        simp only [AllC, RowC, Nat.zero_add, Nat.reduceAdd] at hC
        go_wp2_with fail
        clear hC
        refine (Passed_ok S _ _ _ d1 nt1 h1 p1 d2 nt2 h2 p2 V _ (hI8.alloc _) HV.out d1a d1b K1.out d2a d2b K2.out PV.out (by omega)).mono ?_
        rintro e w9 ⟨rfl, hb⟩
        have hI9 := (hI8.alloc _).below hb
        have hL9 := (hL8.cons _ _).below hb
        have hB9 := bnextA hB8 hb
        have hC := hL9.facts
        simp only [AllC, RowC, Nat.zero_add, Nat.reduceAdd] at hC
        go_wp2_with fail
        clear hC
        refine (Passed_ok S _ _ _ day nt h p d2 nt2 h2 p2 W _ (hI9.alloc _) HV.out da db HK.out d2a d2b K2.out PW.out (by omega)).mono ?_
        rintro e w10 ⟨rfl, hb⟩
        have hI10 := (hI9.alloc _).below hb
        have hL10 := (hL9.cons _ _).below hb
        have hB10 := bnextA hB9 hb
        have hC := hL10.facts
        simp only [AllC, RowC, Nat.zero_add, Nat.reduceAdd] at hC
        go_wp2_with fail
        all_goals first | (exfalso; omega) | (go_ret; exact ⟨ret_bool (by first | rfl | (simp; done) | (simp; omega)), (by repeat (first | exact Below.refl _ _ | assumption | refine bthen ?_ (by assumption) | refine Below.alloc ?_ (by first | exact Nat.le_refl _ | (simp; done) | (simp; omega) | omega) _ | refine Below.setCell ?_ (by first | exact Nat.le_refl _ | (simp; done) | (simp; omega) | omega) _ | refine below_drewN ?_ _ | refine Below.drew ?_))⟩)
end Go.Proofs.YtpjnlcdmbkbfcaaDoor
