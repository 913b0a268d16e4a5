/- Walk of the reference's Told: the hour is looked for among all of the day. -/
import Derived.Test.YtpjnlcdmbkbfcaaDoorH10
namespace Go.Proofs.YtpjnlcdmbkbfcaaDoor
open Go.ChangeShapes Go.WideShapes Go.ChangeAt Go.RowKit Go.BigFrame

/-- What the scan holds behind k hours, K being the last one that has begun. -/
def nst (K k : Int) : Int := if k = 0 then 0 else if k - 1 ≤ K then k - 1 else K
theorem nst_yes {K k : Int} (h : 0 ≤ k) (hk : k ≤ K) : nst K (k + 1) = k := by
  unfold nst; rw [if_neg (by omega), if_pos (by omega)]; omega
theorem nst_no {K k : Int} (h0 : 0 ≤ K) (hk : K < k) : nst K (k + 1) = nst K k := by
  unfold nst; rw [if_neg (by omega), if_neg (by omega), if_neg (by omega)]; split <;> omega
theorem nst_end {K : Int} (_h0 : 0 ≤ K) (hk : K < 1440) : nst K 1440 = K := by
  unfold nst; rw [if_neg (by omega)]; split <;> omega
theorem nst_bd {K k : Int} (h0 : 0 ≤ K) (hk : 0 ≤ k) (hK : K < 1440) (h1 : k ≤ 1440) : 0 ≤ nst K k ∧ nst K k < 1440 := by
  unfold nst; split
  · omega
  · split <;> omega
theorem mom_k (S : Sea) (d k : Int) (h : 0 ≤ k) (h1 : k < 1440) : mom S d (decide (720 ≤ k)) (k / 60 % 12) (k % 60) = gm S (1440 * d + k) := by
  rw [gm_ordr S d _ (okH_dec k)]
  congr 1
  unfold ordr
  by_cases h2 : 720 ≤ k
  · simp only [h2, decide_true, if_true]; omega
  · simp only [h2, decide_false, Bool.false_eq_true, if_false]; omega
structure TlK (S : Sea) (m d K : Int) : Prop where
  k0 : 0 ≤ K
  k1 : K < 1440
  n : decide (720 ≤ K) = tN S m
  h : K / 60 % 12 = tP S m / 60
  p : K % 60 = tP S m % 60
  c : ∀ k : Int, 0 ≤ k → k < 1440 → (mom S d (decide (720 ≤ k)) (k / 60 % 12) (k % 60) ≤ m * 720 ↔ k ≤ K)
theorem tlK {S : Sea} (hv : vld S = true) {m d : Int} (q : tD S m = d) : TlK S m d (tix S m - 1440 * d) := by
  obtain ⟨a1, a2, a3, a4⟩ := tix_parts hv m
  have hp := tP_bd hv m
  rw [q] at a1
  have e : tix S m - 1440 * d = tix S m % 1440 := by omega
  rw [e, a4]
  refine ⟨by split <;> omega, by split <;> omega, ?_, by split <;> omega, by split <;> omega, ?_⟩
  · cases tN S m
    · simp; omega
    · simp; omega
  · intro k k0 k1
    rw [mom_k S d k k0 k1, ← a4, ← e, Int.mul_comm m]
    rw [tix_iff hv]
    omega
theorem mom_00 (S : Sea) (day : Int) : mom S day false 0 0 = spanA S day false * 720 := by simp [mom]

set_option maxHeartbeats 2000000 in
theorem rTold_any (S : Sea) (vd vr vs : Value) (m : Int) (w : World) (hI : SeaIn w vd vr vs S) :
    Calls Tryd.prog 56 #[.agg #[.int .i64 S.L, vd, vr, vs], .int .i64 m] w fun e w' => TlPost S m w e w' := by
  have hI1 := (hI.alloc (seaO S vd vr vs)).alloc (hrO false 0 0)
  rcases bool_ft (vld S) with hv | hv
  · have HE := Lib.hid (show tlE S m = 50 by simp [tlE, hv])
    have HG := Lib.hid (show tlG S m = false by simp [tlG, hv])
    have hc := chk_no hv
    clear hv
    go_enter Tryd.func56, Tryd.ntmps56
    go_wp2_with fail
    refine (rCheck_any S _ _ _ _ hI1.d hI1.r hI1.s).mono ?_
    rintro e w1 ⟨rfl, hb1⟩
    rw [hc]
    obtain ⟨hc1, hf1⟩ := bcell hb1
    go_wp2_with fail
    refine bodyPost_ret (v := .tuple #[.int .i64 0, .agg #[.bool false, .int .i64 0, .int .i64 0], .int .i64 50]) (by simp [results, Tryd.results56, go_sem, hc1]) rfl ⟨ret_hr (by rw [HG.out]; rfl) (by rw [HG.out]; rfl) (by rw [HG.out]; rfl) (by rw [HG.out]; rfl) HE.out.symm, ?_⟩
    exact (by repeat (first | exact Below.refl _ _ | assumption | refine bthen ?_ (by assumption) | refine Below.alloc ?_ (by first | exact Nat.le_refl _ | (simp; done) | (simp; omega) | omega) _ | refine Below.setCell ?_ (by first | exact Nat.le_refl _ | (simp; done) | (simp; omega) | omega) _ | refine below_drewN ?_ _ | refine Below.drew ?_))
  rcases bool_ft (inB m 0 15840000) with hm | hm
  · have HE := Lib.hid (show tlE S m = 1 by simp [tlE, hv, hm])
    have HG := Lib.hid (show tlG S m = false by simp [tlG, hm])
    have hc := chk_ok hv
    clear hv
    go_enter Tryd.func56, Tryd.ntmps56
    go_wp2_with fail
    refine (rCheck_any S _ _ _ _ hI1.d hI1.r hI1.s).mono ?_
    rintro e w1 ⟨rfl, hb1⟩
    rw [hc]
    obtain ⟨hc1, hf1⟩ := bcell hb1
    go_wp2_with fail
    refine (rwithin_any m 0 15840000 _).mono ?_
    rintro e w2 ⟨rfl, rfl⟩
    rw [hm]
    go_wp2_with fail
    refine bodyPost_ret (v := .tuple #[.int .i64 0, .agg #[.bool false, .int .i64 0, .int .i64 0], .int .i64 1]) (by simp [results, Tryd.results56, go_sem, hc1]) rfl ⟨ret_hr (by rw [HG.out]; rfl) (by rw [HG.out]; rfl) (by rw [HG.out]; rfl) (by rw [HG.out]; rfl) HE.out.symm, ?_⟩
    exact (by repeat (first | exact Below.refl _ _ | assumption | refine bthen ?_ (by assumption) | refine Below.alloc ?_ (by first | exact Nat.le_refl _ | (simp; done) | (simp; omega) | omega) _ | refine Below.setCell ?_ (by first | exact Nat.le_refl _ | (simp; done) | (simp; omega) | omega) _ | refine below_drewN ?_ _ | refine Below.drew ?_))
  obtain ⟨m1, m2⟩ := inB_t hm
  have hc := chk_ok hv
  have sa := spanA_bd hv (m / 1440) false
  have sb := spanB_bd hv (m / 1440) false
  have m0 := mom_00 S (m / 1440)
  rcases Int.lt_or_le m (spanA S (m / 1440) false) with h1 | h1
  · obtain ⟨q1, q2⟩ := tl_a h1
    rcases Int.lt_or_le (m / 1440 - 1) 0 with h2 | h2
    · have HE := Lib.hid (show tlE S m = 4 by simp [tlE, hv, hm, q1, h2])
      have HG := Lib.hid (show tlG S m = false by simp [tlG, q1]; intros; omega)
      have HV := Lib.hid hv
      clear q1 q2 hv
      go_enter Tryd.func56, Tryd.ntmps56
      go_wp2_with fail
      refine (rCheck_any S _ _ _ _ hI1.d hI1.r hI1.s).mono ?_
      rintro e w1 ⟨rfl, hb1⟩
      rw [hc]
      obtain ⟨hc1, hf1⟩ := bcell hb1
      go_wp2_with fail
      refine (rwithin_any m 0 15840000 _).mono ?_
      rintro e w2 ⟨rfl, rfl⟩
      rw [hm]
      go_wp2_with fail
      refine (rMoment_any S _ _ _ (m / 1440) false 0 0 _ HV.out (hI1.below hb1) (by omega) (by omega) (by decide)).mono ?_
      rintro e w2 ⟨rfl, hb2⟩
      replace hb2 := bthen hb1 hb2
      obtain ⟨hc2, hf2⟩ := bcell hb2
      go_wp2_with fail
      refine bodyPost_ret (v := .tuple #[.int .i64 0, .agg #[.bool false, .int .i64 0, .int .i64 0], .int .i64 4]) (by simp [results, Tryd.results56, go_sem, hc2]) rfl ⟨ret_hr (by rw [HG.out]; rfl) (by rw [HG.out]; rfl) (by rw [HG.out]; rfl) (by rw [HG.out]; rfl) HE.out.symm, ?_⟩
      exact (by repeat (first | exact Below.refl _ _ | assumption | refine bthen ?_ (by assumption) | refine Below.alloc ?_ (by first | exact Nat.le_refl _ | (simp; done) | (simp; omega) | omega) _ | refine Below.setCell ?_ (by first | exact Nat.le_refl _ | (simp; done) | (simp; omega) | omega) _ | refine below_drewN ?_ _ | refine Below.drew ?_))
    · have HE := Lib.hid (show tlE S m = 0 by simp [tlE, hv, hm, q1]; omega)
      have HG := Lib.hid (show tlG S m = true by simp [tlG, hv, hm, q1]; omega)
      have T := tlK hv q1
      generalize tix S m - 1440 * (m / 1440 - 1) = K at T
      have k0 := T.k0
      have k1 := T.k1
      have TT := Lib.hid T
      have Q1 := Lib.hid q1
      have HV := Lib.hid hv
      clear T q1 q2 hv
      go_enter Tryd.func56, Tryd.ntmps56
      go_wp2_with fail
      refine (rCheck_any S _ _ _ _ hI1.d hI1.r hI1.s).mono ?_
      rintro e w1 ⟨rfl, hb1⟩
      rw [hc]
      obtain ⟨hc1, hf1⟩ := bcell hb1
      go_wp2_with fail
      refine (rwithin_any m 0 15840000 _).mono ?_
      rintro e w2 ⟨rfl, rfl⟩
      rw [hm]
      go_wp2_with fail
      refine (rMoment_any S _ _ _ (m / 1440) false 0 0 _ HV.out (hI1.below hb1) (by omega) (by omega) (by decide)).mono ?_
      rintro e w2 ⟨rfl, hb2⟩
      replace hb2 := bthen hb1 hb2
      obtain ⟨hc2, hf2⟩ := bcell hb2
      go_wp2_with fail
      go_loopw [9, 10] (fun a b wr => ∃ k : Int, 0 ≤ k ∧ k ≤ 1440 ∧ a = .int .i64 (nst K k) ∧ b = .int .i64 k ∧ Below w2.heap.size w2 wr) (fun _ b _ => (1440 - intOf b).toNat)
      case atStart => exact ⟨0, by omega, by omega, rfl, rfl, Below.refl _ _⟩
      case round =>
        obtain ⟨k, x0, x1, rfl, rfl, hbr⟩ := hrel
        have hb3 := bthen hb2 hbr
        have nb := nst_bd k0 x0 k1 x1
        rcases Int.lt_or_le k 1440 with h9 | h9
        · have hcm := TT.out.c k x0 h9
          have nm := nst_no (K := K) (k := k) k0
          have ny := nst_yes (K := K) (k := k) x0
          have cl : ∀ i : More wr, _ := fun i => more_call (rhour_any k i.x x0 h9)
          have cm : ∀ i : More wr, _ := fun i => more_call (rMoment_any S vd vr vs (m / 1440 - 1) (decide (720 ≤ k)) (k / 60 % 12) (k % 60) _ HV.out ((hI1.below hb3).below i.h) (by omega) (by omega) (okH_dec k))
          have CL := Lib.hid cl; clear cl
          have CM := Lib.hid cm; clear cm
          have mc := fun (i : More wr) => (bcell (bthen hb3 i.h)).1
          generalize hM : mom S (m / 1440 - 1) (decide (720 ≤ k)) (k / 60 % 12) (k % 60) = M at *
          have hc3 := (bcell hb3).1
          rcases Int.lt_or_le K k with h8 | h8
          · have hcmp : ¬ M ≤ m * 720 := by rw [hcm]; omega
            have NE := Lib.hid (nm h8)
            clear hcm nm ny
            go_wp2_with fail
            refine wp_region_more (by kernel_rfl) (by kernel_rfl) ?_
            iterate 8 (try (first | go_big_quiet_step ((first | with_reducible exact CL.out _ | with_reducible exact CM.out _)) | quiet_step ((first | with_reducible exact CL.out _ | with_reducible exact CM.out _))))
            iterate 8 (try (first | go_big_quiet_step ((first | with_reducible exact CL.out _ | with_reducible exact CM.out _)) | quiet_step ((first | with_reducible exact CL.out _ | with_reducible exact CM.out _))))
            iterate 8 (try (first | go_big_quiet_step ((first | with_reducible exact CL.out _ | with_reducible exact CM.out _)) | quiet_step ((first | with_reducible exact CL.out _ | with_reducible exact CM.out _))))
            iterate 8 (try (first | go_big_quiet_step ((first | with_reducible exact CL.out _ | with_reducible exact CM.out _)) | quiet_step ((first | with_reducible exact CL.out _ | with_reducible exact CM.out _))))
            iterate 8 (try (first | go_big_quiet_step ((first | with_reducible exact CL.out _ | with_reducible exact CM.out _)) | quiet_step ((first | with_reducible exact CL.out _ | with_reducible exact CM.out _))))
            refine wpQuiet_nil ?_
            rintro ⟨wm, hbm⟩
            dsimp only
            go_wp2_with fail
            exact ⟨⟨k + 1, by omega, by omega, by rw [NE.out], rfl, bthen hbr hbm⟩, by simp [intOf]; omega⟩
          · have hcmp : M ≤ m * 720 := by rw [hcm]; omega
            have NE := Lib.hid (ny h8)
            clear hcm nm ny
            go_wp2_with fail
            refine wp_region_more (by kernel_rfl) (by kernel_rfl) ?_
            iterate 8 (try (first | go_big_quiet_step ((first | with_reducible exact CL.out _ | with_reducible exact CM.out _)) | quiet_step ((first | with_reducible exact CL.out _ | with_reducible exact CM.out _))))
            iterate 8 (try (first | go_big_quiet_step ((first | with_reducible exact CL.out _ | with_reducible exact CM.out _)) | quiet_step ((first | with_reducible exact CL.out _ | with_reducible exact CM.out _))))
            iterate 8 (try (first | go_big_quiet_step ((first | with_reducible exact CL.out _ | with_reducible exact CM.out _)) | quiet_step ((first | with_reducible exact CL.out _ | with_reducible exact CM.out _))))
            iterate 8 (try (first | go_big_quiet_step ((first | with_reducible exact CL.out _ | with_reducible exact CM.out _)) | quiet_step ((first | with_reducible exact CL.out _ | with_reducible exact CM.out _))))
            iterate 8 (try (first | go_big_quiet_step ((first | with_reducible exact CL.out _ | with_reducible exact CM.out _)) | quiet_step ((first | with_reducible exact CL.out _ | with_reducible exact CM.out _))))
            refine wpQuiet_nil ?_
            rintro ⟨wm, hbm⟩
            dsimp only
            go_wp2_with fail
            exact ⟨⟨k + 1, by omega, by omega, by rw [NE.out], rfl, bthen hbr hbm⟩, by simp [intOf]; omega⟩
        · obtain rfl : k = 1440 := by omega
          rw [nst_end k0 k1]
          have hc3 := (bcell hb3).1
          go_wp2_with fail
          refine (rhour_any K _ k0 k1).mono ?_
          rintro e w4 ⟨rfl, hb4⟩
          replace hb4 := bthen hb3 hb4
          obtain ⟨hc4, hf4⟩ := bcell hb4
          go_wp2_with fail
          refine bodyPost_ret (v := .tuple #[.int .i64 (m / 1440 - 1), .agg #[.bool (decide (720 ≤ K)), .int .i64 (K / 60 % 12), .int .i64 (K % 60)], .int .i64 0]) (by simp [results, Tryd.results56, go_sem, hc4]) rfl ⟨ret_hr (by rw [HG.out, gv_t, Q1.out]) (by rw [HG.out, TT.out.n]; rfl) (by rw [HG.out, gv_t, TT.out.h]) (by rw [HG.out, gv_t, TT.out.p]) HE.out.symm, ?_⟩
          exact (by repeat (first | exact Below.refl _ _ | assumption | refine bthen ?_ (by assumption) | refine Below.alloc ?_ (by first | exact Nat.le_refl _ | (simp; done) | (simp; omega) | omega) _ | refine Below.setCell ?_ (by first | exact Nat.le_refl _ | (simp; done) | (simp; omega) | omega) _ | refine below_drewN ?_ _ | refine Below.drew ?_))
  · have q1 : tD S m = m / 1440 := by simp [tD, show ¬ m < spanA S (m / 1440) false by omega]
    have q2 := q1
    have HE := Lib.hid (show tlE S m = 0 by simp [tlE, hv, hm, q1]; omega)
    have HG := Lib.hid (show tlG S m = true by simp [tlG, hv, hm, q1]; omega)
    have T := tlK hv q1
    generalize tix S m - 1440 * (m / 1440) = K at T
    have k0 := T.k0
    have k1 := T.k1
    have TT := Lib.hid T
    have Q1 := Lib.hid q1
    have HV := Lib.hid hv
    clear T q1 q2 hv
    go_enter Tryd.func56, Tryd.ntmps56
    go_wp2_with fail
    refine (rCheck_any S _ _ _ _ hI1.d hI1.r hI1.s).mono ?_
    rintro e w1 ⟨rfl, hb1⟩
    rw [hc]
    obtain ⟨hc1, hf1⟩ := bcell hb1
    go_wp2_with fail
    refine (rwithin_any m 0 15840000 _).mono ?_
    rintro e w2 ⟨rfl, rfl⟩
    rw [hm]
    go_wp2_with fail
    refine (rMoment_any S _ _ _ (m / 1440) false 0 0 _ HV.out (hI1.below hb1) (by omega) (by omega) (by decide)).mono ?_
    rintro e w2 ⟨rfl, hb2⟩
    replace hb2 := bthen hb1 hb2
    obtain ⟨hc2, hf2⟩ := bcell hb2
    go_wp2_with fail
    go_loopw [9, 10] (fun a b wr => ∃ k : Int, 0 ≤ k ∧ k ≤ 1440 ∧ a = .int .i64 (nst K k) ∧ b = .int .i64 k ∧ Below w2.heap.size w2 wr) (fun _ b _ => (1440 - intOf b).toNat)
    case atStart => exact ⟨0, by omega, by omega, rfl, rfl, Below.refl _ _⟩
    case round =>
      obtain ⟨k, x0, x1, rfl, rfl, hbr⟩ := hrel
      have hb3 := bthen hb2 hbr
      have nb := nst_bd k0 x0 k1 x1
      rcases Int.lt_or_le k 1440 with h9 | h9
      · have hcm := TT.out.c k x0 h9
        have nm := nst_no (K := K) (k := k) k0
        have ny := nst_yes (K := K) (k := k) x0
        have cl : ∀ i : More wr, _ := fun i => more_call (rhour_any k i.x x0 h9)
        have cm : ∀ i : More wr, _ := fun i => more_call (rMoment_any S vd vr vs (m / 1440) (decide (720 ≤ k)) (k / 60 % 12) (k % 60) _ HV.out ((hI1.below hb3).below i.h) (by omega) (by omega) (okH_dec k))
        have CL := Lib.hid cl; clear cl
        have CM := Lib.hid cm; clear cm
        have mc := fun (i : More wr) => (bcell (bthen hb3 i.h)).1
        generalize hM : mom S (m / 1440) (decide (720 ≤ k)) (k / 60 % 12) (k % 60) = M at *
        have hc3 := (bcell hb3).1
        rcases Int.lt_or_le K k with h8 | h8
        · have hcmp : ¬ M ≤ m * 720 := by rw [hcm]; omega
          have NE := Lib.hid (nm h8)
          clear hcm nm ny
          go_wp2_with fail
          refine wp_region_more (by kernel_rfl) (by kernel_rfl) ?_
          iterate 8 (try (first | go_big_quiet_step ((first | with_reducible exact CL.out _ | with_reducible exact CM.out _)) | quiet_step ((first | with_reducible exact CL.out _ | with_reducible exact CM.out _))))
          iterate 8 (try (first | go_big_quiet_step ((first | with_reducible exact CL.out _ | with_reducible exact CM.out _)) | quiet_step ((first | with_reducible exact CL.out _ | with_reducible exact CM.out _))))
          iterate 8 (try (first | go_big_quiet_step ((first | with_reducible exact CL.out _ | with_reducible exact CM.out _)) | quiet_step ((first | with_reducible exact CL.out _ | with_reducible exact CM.out _))))
          iterate 8 (try (first | go_big_quiet_step ((first | with_reducible exact CL.out _ | with_reducible exact CM.out _)) | quiet_step ((first | with_reducible exact CL.out _ | with_reducible exact CM.out _))))
          iterate 8 (try (first | go_big_quiet_step ((first | with_reducible exact CL.out _ | with_reducible exact CM.out _)) | quiet_step ((first | with_reducible exact CL.out _ | with_reducible exact CM.out _))))
          refine wpQuiet_nil ?_
          rintro ⟨wm, hbm⟩
          dsimp only
          go_wp2_with fail
          exact ⟨⟨k + 1, by omega, by omega, by rw [NE.out], rfl, bthen hbr hbm⟩, by simp [intOf]; omega⟩
        · have hcmp : M ≤ m * 720 := by rw [hcm]; omega
          have NE := Lib.hid (ny h8)
          clear hcm nm ny
          go_wp2_with fail
          refine wp_region_more (by kernel_rfl) (by kernel_rfl) ?_
          iterate 8 (try (first | go_big_quiet_step ((first | with_reducible exact CL.out _ | with_reducible exact CM.out _)) | quiet_step ((first | with_reducible exact CL.out _ | with_reducible exact CM.out _))))
          iterate 8 (try (first | go_big_quiet_step ((first | with_reducible exact CL.out _ | with_reducible exact CM.out _)) | quiet_step ((first | with_reducible exact CL.out _ | with_reducible exact CM.out _))))
          iterate 8 (try (first | go_big_quiet_step ((first | with_reducible exact CL.out _ | with_reducible exact CM.out _)) | quiet_step ((first | with_reducible exact CL.out _ | with_reducible exact CM.out _))))
          iterate 8 (try (first | go_big_quiet_step ((first | with_reducible exact CL.out _ | with_reducible exact CM.out _)) | quiet_step ((first | with_reducible exact CL.out _ | with_reducible exact CM.out _))))
          iterate 8 (try (first | go_big_quiet_step ((first | with_reducible exact CL.out _ | with_reducible exact CM.out _)) | quiet_step ((first | with_reducible exact CL.out _ | with_reducible exact CM.out _))))
          refine wpQuiet_nil ?_
          rintro ⟨wm, hbm⟩
          dsimp only
          go_wp2_with fail
          exact ⟨⟨k + 1, by omega, by omega, by rw [NE.out], rfl, bthen hbr hbm⟩, by simp [intOf]; omega⟩
      · obtain rfl : k = 1440 := by omega
        rw [nst_end k0 k1]
        have hc3 := (bcell hb3).1
        go_wp2_with fail
        refine (rhour_any K _ k0 k1).mono ?_
        rintro e w4 ⟨rfl, hb4⟩
        replace hb4 := bthen hb3 hb4
        obtain ⟨hc4, hf4⟩ := bcell hb4
        go_wp2_with fail
        refine bodyPost_ret (v := .tuple #[.int .i64 (m / 1440), .agg #[.bool (decide (720 ≤ K)), .int .i64 (K / 60 % 12), .int .i64 (K % 60)], .int .i64 0]) (by simp [results, Tryd.results56, go_sem, hc4]) rfl ⟨ret_hr (by rw [HG.out, gv_t, Q1.out]) (by rw [HG.out, TT.out.n]; rfl) (by rw [HG.out, gv_t, TT.out.h]) (by rw [HG.out, gv_t, TT.out.p]) HE.out.symm, ?_⟩
        exact (by repeat (first | exact Below.refl _ _ | assumption | refine bthen ?_ (by assumption) | refine Below.alloc ?_ (by first | exact Nat.le_refl _ | (simp; done) | (simp; omega) | omega) _ | refine Below.setCell ?_ (by first | exact Nat.le_refl _ | (simp; done) | (simp; omega) | omega) _ | refine below_drewN ?_ _ | refine Below.drew ?_))
end Go.Proofs.YtpjnlcdmbkbfcaaDoor
