/- Walks of the reference's Longest, of Bells on both sides. -/
import Derived.Test.YtpjnlcdmbkbfcaaDoorH12
import Derived.Laws.AppendOwn
namespace Go.Proofs.YtpjnlcdmbkbfcaaDoor
open Go.ChangeShapes Go.WideShapes Go.ChangeAt Go.RowKit Go.BigFrame

theorem lonF_step (f : Int → Int) (k : Nat) : lonF f (k + 1) = if f (lonF f k) < f ((k : Int) + 1) then (k : Int) + 1 else lonF f k := rfl
theorem shoF_step (f : Int → Int) (k : Nat) : shoF f (k + 1) = if f ((k : Int) + 1) < f (shoF f k) then (k : Int) + 1 else shoF f k := rfl
set_option maxHeartbeats 2000000 in
theorem rLongest_any (S : Sea) (vd vr vs : Value) (w : World) (hI : SeaIn w vd vr vs S) :
    Calls Tryd.prog 33 #[.agg #[.int .i64 S.L, vd, vr, vs]] w fun e w' => e = .returned (.tuple #[.int .i64 (gv (vld S) (lonD S)), .int .i64 (gv (vld S) (shoD S)), .int .i64 (chk S)]) ∧ Below w.heap.size w w' := by
  have hI1 := hI.alloc (seaO S vd vr vs)
  rcases bool_ft (vld S) with hv | hv
  · have hc := chk_no hv
    have hG := Lib.hid hv
    clear hv
    go_enter Tryd.func33, Tryd.ntmps33
    go_wp2_with fail
    refine (rCheck_any S _ _ _ _ hI1.d hI1.r hI1.s).mono ?_
    rintro e w1 ⟨rfl, hb1⟩
    rw [hc]
    go_wp2_with fail
    refine bodyPost_ret (v := .tuple #[.int .i64 0, .int .i64 0, .int .i64 50]) (by simp [results, Tryd.results33, go_sem]) rfl ⟨ret_3 (by rw [hG.out]; rfl) (by rw [hG.out]; rfl) hc.symm, ?_⟩
    exact (by repeat (first | exact Below.refl _ _ | assumption | refine bthen ?_ (by assumption) | refine Below.alloc ?_ (by first | exact Nat.le_refl _ | (simp; done) | (simp; omega) | omega) _ | refine Below.setCell ?_ (by first | exact Nat.le_refl _ | (simp; done) | (simp; omega) | omega) _ | refine below_drewN ?_ _ | refine Below.drew ?_))
  · have hc := chk_ok hv
    have v := (vld_iff S).1 hv
    have hL := v.L1
    have hL' := v.L2
    have HV := Lib.hid hv
    clear v hv
    obtain ⟨N, hN⟩ : ∃ N : Nat, S.L = (N : Int) + 1 := ⟨(S.L - 1).toNat, by omega⟩
    have HD := Lib.hid (show lonD S = lonF (lit S) N by unfold lonD; congr 1; omega)
    have HS := Lib.hid (show shoD S = shoF (lit S) N by unfold shoD; congr 1; omega)
    have HN := Lib.hid hN
    have hN1 : N ≤ 365 := by omega
    clear hN
    go_enter Tryd.func33, Tryd.ntmps33
    go_wp2_with fail
    refine (rCheck_any S _ _ _ _ hI1.d hI1.r hI1.s).mono ?_
    rintro e w1 ⟨rfl, hb1⟩
    rw [hc]
    obtain ⟨hc1, hf1⟩ := bcell hb1
    go_wp2_with fail
    go_loopw [6, 7, 8] (fun a z d wr => ∃ k : Nat, k ≤ N ∧ d = .int .i64 ((k : Int) + 1) ∧ a = .int .i64 (lonF (lit S) k) ∧ z = .int .i64 (shoF (lit S) k) ∧ Below w1.heap.size w1 wr) (fun _ _ d _ => (400 - intOf d).toNat)
    case atStart => exact ⟨0, by omega, rfl, rfl, rfl, Below.refl _ _⟩
    case round =>
      obtain ⟨k, hk, rfl, rfl, rfl, hB⟩ := hrel
      obtain ⟨a1, a2⟩ := lonF_bd (lit S) k
      obtain ⟨z1, z2⟩ := shoF_bd (lit S) k
      have hcr := (bcell (bthen hb1 hB)).1
      by_cases hlt : k < N
      · have hLt : (k : Int) + 1 < S.L := by rw [HN.out]; omega
        have SA := Lib.hid (lonF_step (lit S) k)
        have SZ := Lib.hid (shoF_step (lit S) k)
        have e1 : 0 ≤ (k : Int) + 1 := by omega
        have e2 : (k : Int) + 1 ≤ 400 := by omega
        generalize lonF (lit S) k = A at *
        generalize shoF (lit S) k = Z at *
        obtain ⟨D, hD⟩ : ∃ D, (k : Int) + 1 = D := ⟨_, rfl⟩
        have HDD := Lib.hid hD
        rw [hD] at e1 e2 hLt ⊢
        clear hD
        have lD := las_bd HV.out D false
        have lA := las_bd HV.out A false
        have lZ := las_bd HV.out Z false
        have cD : ∀ i : More wr, _ := fun i => more_call (rlasts_any S vd vr vs D false _ HV.out (((hI1.below hb1).below hB).below i.h) (by omega) (by omega))
        have cA : ∀ i : More wr, _ := fun i => more_call (rlasts_any S vd vr vs A false _ HV.out (((hI1.below hb1).below hB).below i.h) (by omega) (by omega))
        have CD := Lib.hid cD; clear cD
        have CA := Lib.hid cA; clear cA
        have mc := fun (i : More wr) => (bcell (bthen (bthen hb1 hB) i.h)).1
        by_cases hx : las S A false < las S D false
        · have EA := SA.out
          rw [HDD.out, if_pos (by exact hx)] at EA
          have EA := Lib.hid EA
          go_wp2_with fail
          refine wp_region_more (by kernel_rfl) (by kernel_rfl) ?_
          iterate 8 (try (first | go_big_quiet_step ((first | with_reducible exact CD.out _ | with_reducible exact CA.out _)) | quiet_step ((first | with_reducible exact CD.out _ | with_reducible exact CA.out _))))
          iterate 8 (try (first | go_big_quiet_step ((first | with_reducible exact CD.out _ | with_reducible exact CA.out _)) | quiet_step ((first | with_reducible exact CD.out _ | with_reducible exact CA.out _))))
          iterate 8 (try (first | go_big_quiet_step ((first | with_reducible exact CD.out _ | with_reducible exact CA.out _)) | quiet_step ((first | with_reducible exact CD.out _ | with_reducible exact CA.out _))))
          iterate 8 (try (first | go_big_quiet_step ((first | with_reducible exact CD.out _ | with_reducible exact CA.out _)) | quiet_step ((first | with_reducible exact CD.out _ | with_reducible exact CA.out _))))
          iterate 8 (try (first | go_big_quiet_step ((first | with_reducible exact CD.out _ | with_reducible exact CA.out _)) | quiet_step ((first | with_reducible exact CD.out _ | with_reducible exact CA.out _))))
          refine wpQuiet_nil ?_
          rintro ⟨wm, hbm⟩
          dsimp only
          have hB2 := bthen hB hbm
          clear CD CA mc hcr
          have hcr2 := (bcell (bthen hb1 hB2)).1
          go_wp2_with fail
          have cD2 : ∀ i : More wm, _ := fun i => more_call (rlasts_any S vd vr vs D false _ HV.out (((hI1.below hb1).below hB2).below i.h) (by omega) (by omega))
          have cZ2 : ∀ i : More wm, _ := fun i => more_call (rlasts_any S vd vr vs Z false _ HV.out (((hI1.below hb1).below hB2).below i.h) (by omega) (by omega))
          have CD2 := Lib.hid cD2; clear cD2
          have CZ2 := Lib.hid cZ2; clear cZ2
          have mc := fun (i : More wm) => (bcell (bthen (bthen hb1 hB2) i.h)).1
          clear hbm
          generalize hwn : wm = wn at *
          clear hwn
          by_cases hy : las S D false < las S Z false
          · have EZ := SZ.out
            rw [HDD.out, if_pos (by exact hy)] at EZ
            have EZ := Lib.hid EZ
            refine wp_region_more (by kernel_rfl) (by kernel_rfl) ?_
            iterate 8 (try (first | go_big_quiet_step ((first | with_reducible exact CD2.out _ | with_reducible exact CZ2.out _)) | quiet_step ((first | with_reducible exact CD2.out _ | with_reducible exact CZ2.out _))))
            iterate 8 (try (first | go_big_quiet_step ((first | with_reducible exact CD2.out _ | with_reducible exact CZ2.out _)) | quiet_step ((first | with_reducible exact CD2.out _ | with_reducible exact CZ2.out _))))
            iterate 8 (try (first | go_big_quiet_step ((first | with_reducible exact CD2.out _ | with_reducible exact CZ2.out _)) | quiet_step ((first | with_reducible exact CD2.out _ | with_reducible exact CZ2.out _))))
            iterate 8 (try (first | go_big_quiet_step ((first | with_reducible exact CD2.out _ | with_reducible exact CZ2.out _)) | quiet_step ((first | with_reducible exact CD2.out _ | with_reducible exact CZ2.out _))))
            iterate 8 (try (first | go_big_quiet_step ((first | with_reducible exact CD2.out _ | with_reducible exact CZ2.out _)) | quiet_step ((first | with_reducible exact CD2.out _ | with_reducible exact CZ2.out _))))
            refine wpQuiet_nil ?_
            rintro ⟨wm, hbm⟩
            dsimp only
            go_wp2_with fail
            exact ⟨⟨k + 1, by omega, by have := HDD.out; congr 1; omega, by rw [EA.out], by rw [EZ.out], bthen hB2 hbm⟩, by have := HDD.out; simp [intOf]; omega⟩
          · have EZ := SZ.out
            rw [HDD.out, if_neg (by exact hy)] at EZ
            have EZ := Lib.hid EZ
            refine wp_region_more (by kernel_rfl) (by kernel_rfl) ?_
            iterate 8 (try (first | go_big_quiet_step ((first | with_reducible exact CD2.out _ | with_reducible exact CZ2.out _)) | quiet_step ((first | with_reducible exact CD2.out _ | with_reducible exact CZ2.out _))))
            iterate 8 (try (first | go_big_quiet_step ((first | with_reducible exact CD2.out _ | with_reducible exact CZ2.out _)) | quiet_step ((first | with_reducible exact CD2.out _ | with_reducible exact CZ2.out _))))
            iterate 8 (try (first | go_big_quiet_step ((first | with_reducible exact CD2.out _ | with_reducible exact CZ2.out _)) | quiet_step ((first | with_reducible exact CD2.out _ | with_reducible exact CZ2.out _))))
            iterate 8 (try (first | go_big_quiet_step ((first | with_reducible exact CD2.out _ | with_reducible exact CZ2.out _)) | quiet_step ((first | with_reducible exact CD2.out _ | with_reducible exact CZ2.out _))))
            iterate 8 (try (first | go_big_quiet_step ((first | with_reducible exact CD2.out _ | with_reducible exact CZ2.out _)) | quiet_step ((first | with_reducible exact CD2.out _ | with_reducible exact CZ2.out _))))
            refine wpQuiet_nil ?_
            rintro ⟨wm, hbm⟩
            dsimp only
            go_wp2_with fail
            exact ⟨⟨k + 1, by omega, by have := HDD.out; congr 1; omega, by rw [EA.out], by rw [EZ.out], bthen hB2 hbm⟩, by have := HDD.out; simp [intOf]; omega⟩
        · have EA := SA.out
          rw [HDD.out, if_neg (by exact hx)] at EA
          have EA := Lib.hid EA
          go_wp2_with fail
          refine wp_region_more (by kernel_rfl) (by kernel_rfl) ?_
          iterate 8 (try (first | go_big_quiet_step ((first | with_reducible exact CD.out _ | with_reducible exact CA.out _)) | quiet_step ((first | with_reducible exact CD.out _ | with_reducible exact CA.out _))))
          iterate 8 (try (first | go_big_quiet_step ((first | with_reducible exact CD.out _ | with_reducible exact CA.out _)) | quiet_step ((first | with_reducible exact CD.out _ | with_reducible exact CA.out _))))
          iterate 8 (try (first | go_big_quiet_step ((first | with_reducible exact CD.out _ | with_reducible exact CA.out _)) | quiet_step ((first | with_reducible exact CD.out _ | with_reducible exact CA.out _))))
          iterate 8 (try (first | go_big_quiet_step ((first | with_reducible exact CD.out _ | with_reducible exact CA.out _)) | quiet_step ((first | with_reducible exact CD.out _ | with_reducible exact CA.out _))))
          iterate 8 (try (first | go_big_quiet_step ((first | with_reducible exact CD.out _ | with_reducible exact CA.out _)) | quiet_step ((first | with_reducible exact CD.out _ | with_reducible exact CA.out _))))
          refine wpQuiet_nil ?_
          rintro ⟨wm, hbm⟩
          dsimp only
          have hB2 := bthen hB hbm
          clear CD CA mc hcr
          have hcr2 := (bcell (bthen hb1 hB2)).1
          go_wp2_with fail
          have cD2 : ∀ i : More wm, _ := fun i => more_call (rlasts_any S vd vr vs D false _ HV.out (((hI1.below hb1).below hB2).below i.h) (by omega) (by omega))
          have cZ2 : ∀ i : More wm, _ := fun i => more_call (rlasts_any S vd vr vs Z false _ HV.out (((hI1.below hb1).below hB2).below i.h) (by omega) (by omega))
          have CD2 := Lib.hid cD2; clear cD2
          have CZ2 := Lib.hid cZ2; clear cZ2
          have mc := fun (i : More wm) => (bcell (bthen (bthen hb1 hB2) i.h)).1
          clear hbm
          generalize hwn : wm = wn at *
          clear hwn
          by_cases hy : las S D false < las S Z false
          · have EZ := SZ.out
            rw [HDD.out, if_pos (by exact hy)] at EZ
            have EZ := Lib.hid EZ
            refine wp_region_more (by kernel_rfl) (by kernel_rfl) ?_
            iterate 8 (try (first | go_big_quiet_step ((first | with_reducible exact CD2.out _ | with_reducible exact CZ2.out _)) | quiet_step ((first | with_reducible exact CD2.out _ | with_reducible exact CZ2.out _))))
            iterate 8 (try (first | go_big_quiet_step ((first | with_reducible exact CD2.out _ | with_reducible exact CZ2.out _)) | quiet_step ((first | with_reducible exact CD2.out _ | with_reducible exact CZ2.out _))))
            iterate 8 (try (first | go_big_quiet_step ((first | with_reducible exact CD2.out _ | with_reducible exact CZ2.out _)) | quiet_step ((first | with_reducible exact CD2.out _ | with_reducible exact CZ2.out _))))
            iterate 8 (try (first | go_big_quiet_step ((first | with_reducible exact CD2.out _ | with_reducible exact CZ2.out _)) | quiet_step ((first | with_reducible exact CD2.out _ | with_reducible exact CZ2.out _))))
            iterate 8 (try (first | go_big_quiet_step ((first | with_reducible exact CD2.out _ | with_reducible exact CZ2.out _)) | quiet_step ((first | with_reducible exact CD2.out _ | with_reducible exact CZ2.out _))))
            refine wpQuiet_nil ?_
            rintro ⟨wm, hbm⟩
            dsimp only
            go_wp2_with fail
            exact ⟨⟨k + 1, by omega, by have := HDD.out; congr 1; omega, by rw [EA.out], by rw [EZ.out], bthen hB2 hbm⟩, by have := HDD.out; simp [intOf]; omega⟩
          · have EZ := SZ.out
            rw [HDD.out, if_neg (by exact hy)] at EZ
            have EZ := Lib.hid EZ
            refine wp_region_more (by kernel_rfl) (by kernel_rfl) ?_
            iterate 8 (try (first | go_big_quiet_step ((first | with_reducible exact CD2.out _ | with_reducible exact CZ2.out _)) | quiet_step ((first | with_reducible exact CD2.out _ | with_reducible exact CZ2.out _))))
            iterate 8 (try (first | go_big_quiet_step ((first | with_reducible exact CD2.out _ | with_reducible exact CZ2.out _)) | quiet_step ((first | with_reducible exact CD2.out _ | with_reducible exact CZ2.out _))))
            iterate 8 (try (first | go_big_quiet_step ((first | with_reducible exact CD2.out _ | with_reducible exact CZ2.out _)) | quiet_step ((first | with_reducible exact CD2.out _ | with_reducible exact CZ2.out _))))
            iterate 8 (try (first | go_big_quiet_step ((first | with_reducible exact CD2.out _ | with_reducible exact CZ2.out _)) | quiet_step ((first | with_reducible exact CD2.out _ | with_reducible exact CZ2.out _))))
            iterate 8 (try (first | go_big_quiet_step ((first | with_reducible exact CD2.out _ | with_reducible exact CZ2.out _)) | quiet_step ((first | with_reducible exact CD2.out _ | with_reducible exact CZ2.out _))))
            refine wpQuiet_nil ?_
            rintro ⟨wm, hbm⟩
            dsimp only
            go_wp2_with fail
            exact ⟨⟨k + 1, by omega, by have := HDD.out; congr 1; omega, by rw [EA.out], by rw [EZ.out], bthen hB2 hbm⟩, by have := HDD.out; simp [intOf]; omega⟩
      · obtain rfl : k = N := by omega
        have hLt : ¬ (k : Int) + 1 < S.L := by rw [HN.out]; omega
        go_wp2_with fail
        refine bodyPost_ret (v := .tuple #[.int .i64 (lonF (lit S) k), .int .i64 (shoF (lit S) k), .int .i64 0]) (by simp [results, Tryd.results33, go_sem]) rfl ⟨ret_3 (by rw [HV.out, HD.out]; rfl) (by rw [HV.out, HS.out]; rfl) (by first | exact hc.symm | rfl), ?_⟩
        exact bthen (bafter hb1) hB
end Go.Proofs.YtpjnlcdmbkbfcaaDoor
