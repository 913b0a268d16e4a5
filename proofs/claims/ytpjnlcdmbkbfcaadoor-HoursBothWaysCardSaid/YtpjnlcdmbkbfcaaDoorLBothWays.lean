/- The walk of HoursBothWays. -/
import Derived.Test.YtpjnlcdmbkbfcaaDoorGd
namespace Go.Proofs.YtpjnlcdmbkbfcaaDoor
open Go.ChangeShapes Go.WideShapes Go.ChangeAt Go.RowKit Go.BigFrame

theorem rOrder_c (day : Int) (nt : Bool) (h p x : Int) (w : World) (hd : -1000000 ≤ day) (hd' : day ≤ 1000000) (h1 : 0 ≤ h) (h1' : h ≤ 11) (h2 : 0 ≤ p) (h2' : p ≤ 59) (hx : ordr day nt h p = x) :
    Calls Tryd.prog 50 #[.int .i64 day, .agg #[.bool nt, .int .i64 h, .int .i64 p]] w fun e w' => e = .returned (.int .i64 x) ∧ Below w.heap.size w w' := by rw [← hx]; exact rOrder_any day nt h p w hd hd' h1 h1' h2 h2'
set_option maxRecDepth 100000 in
set_option maxHeartbeats 4000000 in
theorem law_bothways (S : Sea) (vd vr vs : Value) (day : Int) (nt : Bool) (h p : Int) (m : Int) (w : World) (hI : SeaIn w vd vr vs S)
    (_ : -9223372036854775808 ≤ day) (_ : day ≤ 9223372036854775807) (_ : -9223372036854775808 ≤ m) (_ : m ≤ 9223372036854775807) :
    Calls Tryd.prog 9 #[.agg #[.int .i64 S.L, vd, vr, vs], .int .i64 day, .agg #[.bool nt, .int .i64 h, .int .i64 p], .int .i64 m] w fun e w' => e = .returned (.bool true) ∧ Below w.heap.size w w' := by
  have hI0 := (hI.alloc (seaO S vd vr vs)).alloc (hrO nt h p)
  have hL0 := ((Bx.none w).cons [.int .i64 S.L, vd, vr, vs] 24).cons [.bool nt, .int .i64 h, .int .i64 p] 37
  simp only [World.size_alloc] at hL0
  have hB0 : Below w.heap.size w ((w.alloc (seaO S vd vr vs)).alloc (hrO nt h p)) := (by repeat (first | exact Below.refl _ _ | assumption | refine bthen ?_ (by assumption) | refine Below.alloc ?_ (by first | exact Nat.le_refl _ | (simp; done) | (simp; omega) | omega) _ | refine Below.setCell ?_ (by first | exact Nat.le_refl _ | (simp; done) | (simp; omega) | omega) _ | refine below_drewN ?_ _ | refine Below.drew ?_))
  have hC := True.intro
  rcases bool_ft (rgt S [day] (okH h p)) with hr | hr
  · have HR := Lib.hid hr
    clear hr
    go_enter Tryd.func9, Tryd.ntmps9
    go_wp2_with fail
    clear hC
    refine (sane_any _).mono ?_
    rintro e w1 ⟨rfl, hb⟩
    have hI1 := hI0.below hb
    have hL1 := hL0.below hb
    have hB1 := bnext hB0 hb
    have hC := hL1.facts
    simp only [AllC, RowC, Nat.zero_add, Nat.reduceAdd] at hC
    go_wp2_with fail
    clear hC
    refine (right_d S vd vr vs day nt h p _ _ hI1 HR.out).mono ?_
    rintro e w2 ⟨rfl, hb⟩
    have hI2 := hI1.below hb
    have hL2 := hL1.below hb
    have hB2 := bnext hB1 hb
    have hC := hL2.facts
    simp only [AllC, RowC, Nat.zero_add, Nat.reduceAdd] at hC
    go_wp2_with fail
    go_ret
    exact ⟨rfl, hB2⟩
  by_cases m1 : m < 0
  · have HR := Lib.hid hr
    clear hr
    go_enter Tryd.func9, Tryd.ntmps9
    go_wp2_with fail
    clear hC
    refine (sane_any _).mono ?_
    rintro e w1 ⟨rfl, hb⟩
    have hI1 := hI0.below hb
    have hL1 := hL0.below hb
    have hB1 := bnext hB0 hb
    have hC := hL1.facts
    simp only [AllC, RowC, Nat.zero_add, Nat.reduceAdd] at hC
    go_wp2_with fail
    clear hC
    refine (right_d S vd vr vs day nt h p _ _ hI1 HR.out).mono ?_
    rintro e w2 ⟨rfl, hb⟩
    have hI2 := hI1.below hb
    have hL2 := hL1.below hb
    have hB2 := bnext hB1 hb
    have hC := hL2.facts
    simp only [AllC, RowC, Nat.zero_add, Nat.reduceAdd] at hC
    go_wp2_with fail
    go_ret
    exact ⟨rfl, hB2⟩
  by_cases m2 : 15840000 < m
  · have HR := Lib.hid hr
    clear hr
    go_enter Tryd.func9, Tryd.ntmps9
    go_wp2_with fail
    clear hC
    refine (sane_any _).mono ?_
    rintro e w1 ⟨rfl, hb⟩
    have hI1 := hI0.below hb
    have hL1 := hL0.below hb
    have hB1 := bnext hB0 hb
    have hC := hL1.facts
    simp only [AllC, RowC, Nat.zero_add, Nat.reduceAdd] at hC
    go_wp2_with fail
    clear hC
    refine (right_d S vd vr vs day nt h p _ _ hI1 HR.out).mono ?_
    rintro e w2 ⟨rfl, hb⟩
    have hI2 := hI1.below hb
    have hL2 := hL1.below hb
    have hB2 := bnext hB1 hb
    have hC := hL2.facts
    simp only [AllC, RowC, Nat.zero_add, Nat.reduceAdd] at hC
    go_wp2_with fail
    go_ret
    exact ⟨rfl, hB2⟩
  obtain ⟨hv, ⟨d1, d2⟩, hk⟩ := rgt_t hr
  have BW := both_ways hv day nt hk m
  obtain ⟨f, hf⟩ : ∃ f, fst S day nt h p = f := ⟨_, rfl⟩
  rw [hf] at BW
  obtain ⟨⟨k1, k2⟩, p1, p2⟩ := okH_bd hk
  have tl := tix_lo hv (m := m) (by omega)
  have hT := tD_of hv m
  have HR := Lib.hid hr
  have HV := Lib.hid hv
  have HK := Lib.hid hk
  have FF := Lib.hid hf
  clear hr hf
  by_cases q1 : tD S m < 0
  · have hf : m < f := by
      have : 0 ≤ ordr day nt h p := by unfold ordr; split <;> omega
      omega
    have Q1 := Lib.hid q1
    clear BW hT q1 hv hk
    go_enter Tryd.func9, Tryd.ntmps9
    go_wp2_with fail
    clear hC
    refine (sane_any _).mono ?_
    rintro e w1 ⟨rfl, hb⟩
    have hI1 := hI0.below hb
    have hL1 := hL0.below hb
    have hB1 := bnext hB0 hb
    have hC := hL1.facts
    simp only [AllC, RowC, Nat.zero_add, Nat.reduceAdd] at hC
    go_wp2_with fail
    clear hC
    refine (right_d S vd vr vs day nt h p _ _ hI1 HR.out).mono ?_
    rintro e w2 ⟨rfl, hb⟩
    have hI2 := hI1.below hb
    have hL2 := hL1.below hb
    have hB2 := bnext hB1 hb
    have hC := hL2.facts
    simp only [AllC, RowC, Nat.zero_add, Nat.reduceAdd] at hC
    go_wp2_with fail
    clear hC
    refine (First_ok S vd vr vs day nt h p _ _ hI2 HV.out d1 d2 HK.out FF.out).mono ?_
    rintro e w3 ⟨rfl, hb⟩
    have hI3 := hI2.below hb
    have hL3 := hL2.below hb
    have hB3 := bnext hB2 hb
    have hC := hL3.facts
    simp only [AllC, RowC, Nat.zero_add, Nat.reduceAdd] at hC
    go_wp2_with fail
    clear hC
    refine (Told_no S vd vr vs m _ hI3 HV.out (by omega) (by omega) Q1.out).mono ?_
    rintro e w4 ⟨rfl, hb⟩
    have hI4 := hI3.below hb
    have hL4 := hL3.below hb
    have hB4 := bnext hB3 hb
    have hC := hL4.facts
    simp only [AllC, RowC, Nat.zero_add, Nat.reduceAdd] at hC
    go_wp2_with fail
    go_ret
    exact ⟨rfl, (by repeat (first | exact Below.refl _ _ | assumption | refine bthen ?_ (by assumption) | refine Below.alloc ?_ (by first | exact Nat.le_refl _ | (simp; done) | (simp; omega) | omega) _ | refine Below.setCell ?_ (by first | exact Nat.le_refl _ | (simp; done) | (simp; omega) | omega) _ | refine below_drewN ?_ _ | refine Below.drew ?_))⟩
  · have OT := ordr_tix S m
    have KT := Lib.hid (okH_tP hv m)
    obtain ⟨d, hd⟩ : ∃ x, tD S m = x := ⟨_, rfl⟩
    obtain ⟨tn, htn⟩ : ∃ x, tN S m = x := ⟨_, rfl⟩
    obtain ⟨th, hth⟩ : ∃ x, tP S m / 60 = x := ⟨_, rfl⟩
    obtain ⟨tp, htp⟩ : ∃ x, tP S m % 60 = x := ⟨_, rfl⟩
    rw [hd, htn, hth, htp] at OT
    rw [hth, htp] at KT
    have D1 := Lib.hid hd
    have D2 := Lib.hid htn
    have D3 := Lib.hid hth
    have D4 := Lib.hid htp
    have h1 : 0 ≤ d := by omega
    have h2 : d ≤ 11000 := by rw [← hd]; unfold tD; split <;> omega
    rw [← OT] at BW
    obtain ⟨⟨e1, e2⟩, e3, e4⟩ := okH_bd KT.out
    obtain ⟨O1, ho1⟩ : ∃ x, ordr d tn th tp = x := ⟨_, rfl⟩
    obtain ⟨O2, ho2⟩ : ∃ x, ordr day nt h p = x := ⟨_, rfl⟩
    rw [ho1, ho2] at BW
    have HO1 := Lib.hid ho1
    have HO2 := Lib.hid ho2
    clear hT q1 hd htn hth htp ho1 ho2 OT hv hk tl
    by_cases hfm : f ≤ m
    · have hO : O2 ≤ O1 := BW.2 hfm
      clear BW
      go_enter Tryd.func9, Tryd.ntmps9
      go_wp2_with fail
      clear hC
      refine (sane_any _).mono ?_
      rintro e w1 ⟨rfl, hb⟩
      have hI1 := hI0.below hb
      have hL1 := hL0.below hb
      have hB1 := bnext hB0 hb
      have hC := hL1.facts
      simp only [AllC, RowC, Nat.zero_add, Nat.reduceAdd] at hC
      go_wp2_with fail
      clear hC
      refine (right_d S vd vr vs day nt h p _ _ hI1 HR.out).mono ?_
      rintro e w2 ⟨rfl, hb⟩
      have hI2 := hI1.below hb
      have hL2 := hL1.below hb
      have hB2 := bnext hB1 hb
      have hC := hL2.facts
      simp only [AllC, RowC, Nat.zero_add, Nat.reduceAdd] at hC
      go_wp2_with fail
      clear hC
      refine (First_ok S vd vr vs day nt h p _ _ hI2 HV.out d1 d2 HK.out FF.out).mono ?_
      rintro e w3 ⟨rfl, hb⟩
      have hI3 := hI2.below hb
      have hL3 := hL2.below hb
      have hB3 := bnext hB2 hb
      have hC := hL3.facts
      simp only [AllC, RowC, Nat.zero_add, Nat.reduceAdd] at hC
      go_wp2_with fail
      clear hC
      refine (Told_ok S vd vr vs m d tn th tp _ hI3 HV.out (by omega) (by omega) h1 D1.out D2.out D3.out D4.out).mono ?_
      rintro e w4 ⟨rfl, hb⟩
      have hI4 := hI3.below hb
      have hL4 := hL3.below hb
      have hB4 := bnext hB3 hb
      have hC := hL4.facts
      simp only [AllC, RowC, Nat.zero_add, Nat.reduceAdd] at hC
      have hB4 : Below w.heap.size w (w4.alloc (hrO tn th tp)) := bthen hB4 (ballo _ _)
      have hL4 := hL4.cons [.bool tn, .int .i64 th, .int .i64 tp] 37
      have hC := hL4.facts
      simp only [AllC, RowC, Nat.zero_add, Nat.reduceAdd] at hC
      go_wp2_with fail
      have cA : ∀ i : More (w4.alloc (hrO tn th tp)), _ := fun i => more_call (rHour_c tn th tp _ i.x KT.out)
      have cB : ∀ i : More (w4.alloc (hrO tn th tp)), _ := fun i => more_call (rOrder_c d tn th tp _ i.x (by omega) (by omega) e1 e2 e3 e4 HO1.out)
      have cC : ∀ i : More (w4.alloc (hrO tn th tp)), _ := fun i => more_call (rOrder_c day nt h p _ i.x (by omega) (by omega) k1 k2 p1 p2 HO2.out)
      have CA := Lib.hid cA; clear cA
      have CB := Lib.hid cB; clear cB
      have CC := Lib.hid cC; clear cC
      have mc := fun (i : More (w4.alloc (hrO tn th tp))) => (bcell i.h).1
      refine wp_region_more (by kernel_rfl) (by kernel_rfl) ?_
      iterate 8 (try (first | go_big_quiet_step ((first | with_reducible exact CA.out _ | with_reducible exact CB.out _ | with_reducible exact CC.out _)) | quiet_step ((first | with_reducible exact CA.out _ | with_reducible exact CB.out _ | with_reducible exact CC.out _))))
      iterate 8 (try (first | go_big_quiet_step ((first | with_reducible exact CA.out _ | with_reducible exact CB.out _ | with_reducible exact CC.out _)) | quiet_step ((first | with_reducible exact CA.out _ | with_reducible exact CB.out _ | with_reducible exact CC.out _))))
      iterate 8 (try (first | go_big_quiet_step ((first | with_reducible exact CA.out _ | with_reducible exact CB.out _ | with_reducible exact CC.out _)) | quiet_step ((first | with_reducible exact CA.out _ | with_reducible exact CB.out _ | with_reducible exact CC.out _))))
      iterate 8 (try (first | go_big_quiet_step ((first | with_reducible exact CA.out _ | with_reducible exact CB.out _ | with_reducible exact CC.out _)) | quiet_step ((first | with_reducible exact CA.out _ | with_reducible exact CB.out _ | with_reducible exact CC.out _))))
      iterate 8 (try (first | go_big_quiet_step ((first | with_reducible exact CA.out _ | with_reducible exact CB.out _ | with_reducible exact CC.out _)) | quiet_step ((first | with_reducible exact CA.out _ | with_reducible exact CB.out _ | with_reducible exact CC.out _))))
      refine wpQuiet_nil ?_
      rintro ⟨wm, hbm⟩
      dsimp only
      go_wp2_with fail
      all_goals first | (exfalso; omega) | (go_ret; exact ⟨ret_bool (by first | rfl | (rw [beq_iff_eq, decide_eq_decide]; omega)), bthen hB4 hbm⟩)
    · have hO : ¬ O2 ≤ O1 := fun h => hfm (BW.1 h)
      clear BW
      go_enter Tryd.func9, Tryd.ntmps9
      go_wp2_with fail
      clear hC
      refine (sane_any _).mono ?_
      rintro e w1 ⟨rfl, hb⟩
      have hI1 := hI0.below hb
      have hL1 := hL0.below hb
      have hB1 := bnext hB0 hb
      have hC := hL1.facts
      simp only [AllC, RowC, Nat.zero_add, Nat.reduceAdd] at hC
      go_wp2_with fail
      clear hC
      refine (right_d S vd vr vs day nt h p _ _ hI1 HR.out).mono ?_
      rintro e w2 ⟨rfl, hb⟩
      have hI2 := hI1.below hb
      have hL2 := hL1.below hb
      have hB2 := bnext hB1 hb
      have hC := hL2.facts
      simp only [AllC, RowC, Nat.zero_add, Nat.reduceAdd] at hC
      go_wp2_with fail
      clear hC
      refine (First_ok S vd vr vs day nt h p _ _ hI2 HV.out d1 d2 HK.out FF.out).mono ?_
      rintro e w3 ⟨rfl, hb⟩
      have hI3 := hI2.below hb
      have hL3 := hL2.below hb
      have hB3 := bnext hB2 hb
      have hC := hL3.facts
      simp only [AllC, RowC, Nat.zero_add, Nat.reduceAdd] at hC
      go_wp2_with fail
      clear hC
      refine (Told_ok S vd vr vs m d tn th tp _ hI3 HV.out (by omega) (by omega) h1 D1.out D2.out D3.out D4.out).mono ?_
      rintro e w4 ⟨rfl, hb⟩
      have hI4 := hI3.below hb
      have hL4 := hL3.below hb
      have hB4 := bnext hB3 hb
      have hC := hL4.facts
      simp only [AllC, RowC, Nat.zero_add, Nat.reduceAdd] at hC
      have hB4 : Below w.heap.size w (w4.alloc (hrO tn th tp)) := bthen hB4 (ballo _ _)
      have hL4 := hL4.cons [.bool tn, .int .i64 th, .int .i64 tp] 37
      have hC := hL4.facts
      simp only [AllC, RowC, Nat.zero_add, Nat.reduceAdd] at hC
      go_wp2_with fail
      have cA : ∀ i : More (w4.alloc (hrO tn th tp)), _ := fun i => more_call (rHour_c tn th tp _ i.x KT.out)
      have cB : ∀ i : More (w4.alloc (hrO tn th tp)), _ := fun i => more_call (rOrder_c d tn th tp _ i.x (by omega) (by omega) e1 e2 e3 e4 HO1.out)
      have cC : ∀ i : More (w4.alloc (hrO tn th tp)), _ := fun i => more_call (rOrder_c day nt h p _ i.x (by omega) (by omega) k1 k2 p1 p2 HO2.out)
      have CA := Lib.hid cA; clear cA
      have CB := Lib.hid cB; clear cB
      have CC := Lib.hid cC; clear cC
      have mc := fun (i : More (w4.alloc (hrO tn th tp))) => (bcell i.h).1
      refine wp_region_more (by kernel_rfl) (by kernel_rfl) ?_
      iterate 8 (try (first | go_big_quiet_step ((first | with_reducible exact CA.out _ | with_reducible exact CB.out _ | with_reducible exact CC.out _)) | quiet_step ((first | with_reducible exact CA.out _ | with_reducible exact CB.out _ | with_reducible exact CC.out _))))
      iterate 8 (try (first | go_big_quiet_step ((first | with_reducible exact CA.out _ | with_reducible exact CB.out _ | with_reducible exact CC.out _)) | quiet_step ((first | with_reducible exact CA.out _ | with_reducible exact CB.out _ | with_reducible exact CC.out _))))
      iterate 8 (try (first | go_big_quiet_step ((first | with_reducible exact CA.out _ | with_reducible exact CB.out _ | with_reducible exact CC.out _)) | quiet_step ((first | with_reducible exact CA.out _ | with_reducible exact CB.out _ | with_reducible exact CC.out _))))
      iterate 8 (try (first | go_big_quiet_step ((first | with_reducible exact CA.out _ | with_reducible exact CB.out _ | with_reducible exact CC.out _)) | quiet_step ((first | with_reducible exact CA.out _ | with_reducible exact CB.out _ | with_reducible exact CC.out _))))
      iterate 8 (try (first | go_big_quiet_step ((first | with_reducible exact CA.out _ | with_reducible exact CB.out _ | with_reducible exact CC.out _)) | quiet_step ((first | with_reducible exact CA.out _ | with_reducible exact CB.out _ | with_reducible exact CC.out _))))
      refine wpQuiet_nil ?_
      rintro ⟨wm, hbm⟩
      dsimp only
      go_wp2_with fail
      all_goals first | (exfalso; omega) | (go_ret; exact ⟨ret_bool (by first | rfl | (rw [beq_iff_eq, decide_eq_decide]; omega)), bthen hB4 hbm⟩)
end Go.Proofs.YtpjnlcdmbkbfcaaDoor
