/- The walk of HoursBells. -/
import Derived.Test.YtpjnlcdmbkbfcaaDoorBl
namespace Go.Proofs.YtpjnlcdmbkbfcaaDoor
open Go.ChangeShapes Go.WideShapes Go.ChangeAt Go.RowKit Go.BigFrame

set_option maxRecDepth 100000 in
set_option maxHeartbeats 4000000 in
theorem law_bells (S : Sea) (vd vr vs : Value) (day : Int) (w : World) (hI : SeaIn w vd vr vs S)
    (_ : -9223372036854775808 ≤ day) (_ : day ≤ 9223372036854775807) :
    Calls Tryd.prog 15 #[.agg #[.int .i64 S.L, vd, vr, vs], .int .i64 day] w fun e w' => e = .returned (.bool true) ∧ Below w.heap.size w w' := by
  have hI0 := hI.alloc (seaO S vd vr vs)
  have hL0 := (Bx.none w).cons [.int .i64 S.L, vd, vr, vs] 24
  have hB0 : Below w.heap.size w (w.alloc (seaO S vd vr vs)) := (by repeat (first | exact Below.refl _ _ | assumption | refine bthen ?_ (by assumption) | refine Below.alloc ?_ (by first | exact Nat.le_refl _ | (simp; done) | (simp; omega) | omega) _ | refine Below.setCell ?_ (by first | exact Nat.le_refl _ | (simp; done) | (simp; omega) | omega) _ | refine below_drewN ?_ _ | refine Below.drew ?_))
  have hC := True.intro
  by_cases hmax : 11000 < day
  · have HR := Lib.hid (fun x => show rgt S [day, x] true = false by
      have h : decide (day ≤ 11000) = false := by simp; omega
      simp [rgt, daysB, inB, h])
    clear hmax
    go_enter Tryd.func15, Tryd.ntmps15
    go_wp2_with fail
    clear hC
    refine (sane_any _).mono ?_
    rintro e w1 ⟨rfl, hb⟩
    have hI1 := hI0.below hb
    have hL1 := hL0.below hb
    have hB1 := bnext hB0 hb
    have hC := hL1.facts
    simp only [AllC, RowC, Nat.zero_add, Nat.reduceAdd] at hC
    go_wp2_with fail
    clear hC
    refine (right_20 S _ _ _ _ _ _ _ hI1 (HR.out _)).mono ?_
    rintro e w2 ⟨rfl, hb⟩
    have hI2 := hI1.below hb
    have hL2 := hL1.below hb
    have hB2 := bnext hB1 hb
    have hC := hL2.facts
    simp only [AllC, RowC, Nat.zero_add, Nat.reduceAdd] at hC
    go_wp2_with fail
    go_ret
    exact ⟨rfl, hB2⟩
  rcases bool_ft (rgt S [day, day + 2] true) with hr | hr
  · have HR := Lib.hid (fun (_ : Unit) => hr)
    clear hr
    go_enter Tryd.func15, Tryd.ntmps15
    go_wp2_with fail
    clear hC
    refine (sane_any _).mono ?_
    rintro e w1 ⟨rfl, hb⟩
    have hI1 := hI0.below hb
    have hL1 := hL0.below hb
    have hB1 := bnext hB0 hb
    have hC := hL1.facts
    simp only [AllC, RowC, Nat.zero_add, Nat.reduceAdd] at hC
    go_wp2_with fail
    clear hC
    refine (right_20 S _ _ _ _ _ _ _ hI1 (HR.out ())).mono ?_
    rintro e w2 ⟨rfl, hb⟩
    have hI2 := hI1.below hb
    have hL2 := hL1.below hb
    have hB2 := bnext hB1 hb
    have hC := hL2.facts
    simp only [AllC, RowC, Nat.zero_add, Nat.reduceAdd] at hC
    go_wp2_with fail
    go_ret
    exact ⟨rfl, hB2⟩
  obtain ⟨hv, ⟨d1, d2⟩, ⟨_, d4⟩, _⟩ := rgt_t2 hr
  have HV := Lib.hid hv
  have HR := Lib.hid (fun (_ : Unit) => hr)
  clear hr hv
  go_enter Tryd.func15, Tryd.ntmps15
  go_wp2_with fail
  clear hC
  refine (sane_any _).mono ?_
  rintro e w1 ⟨rfl, hb⟩
  have hI1 := hI0.below hb
  have hL1 := hL0.below hb
  have hB1 := bnext hB0 hb
  have hC := hL1.facts
  simp only [AllC, RowC, Nat.zero_add, Nat.reduceAdd] at hC
  go_wp2_with fail
  clear hC
  refine (right_20 S _ _ _ _ _ _ _ hI1 (HR.out ())).mono ?_
  rintro e w2 ⟨rfl, hb⟩
  have hI2 := hI1.below hb
  have hL2 := hL1.below hb
  have hB2 := bnext hB1 hb
  have hC := hL2.facts
  simp only [AllC, RowC, Nat.zero_add, Nat.reduceAdd] at hC
  go_wp2_with fail
  clear hC
  refine (Bells_ok S _ _ _ day _ hI2 HV.out d1 (by omega)).mono ?_
  rintro e w3 ⟨g3, c3, rfl, hO3, hG3, hb3⟩
  have hI3 := hI2.below hb3
  have hL3 := hL2.below hb3
  have hB3 := bnext hB2 hb3
  have hC := hL3.facts
  simp only [AllC, RowC, Nat.zero_add, Nat.reduceAdd] at hC
  clear hG3
  go_wp2_with fail
  clear hC
  refine (Bells_ok S _ _ _ (day + 1) _ hI3 HV.out (by omega) (by omega)).mono ?_
  rintro e w4 ⟨g4, c4, rfl, hO4, hG4, hb4⟩
  have hI4 := hI3.below hb4
  have hL4 := hL3.below hb4
  have hB4 := bnext hB3 hb4
  have hC := hL4.facts
  simp only [AllC, RowC, Nat.zero_add, Nat.reduceAdd] at hC
  have hX4 : Below w2.heap.size w2 w4 := bthen hb3 hb4
  have hz4 := hX4.size
  have x4 := hG4.2 0 (by decide)
  rw [bx_next] at x4
  obtain ⟨x, hx⟩ : ∃ x, bx S day 24 = x := ⟨_, rfl⟩
  rw [hx] at x4
  have HX := Lib.hid hx
  have hO5 := (hO3.below hb4).below (ballo w4 (Obj.cells #[.int .i64 x] 3))
  have HO5 := Lib.hid hO5
  clear hx hG4 hO4 hO3 hO5
  go_wp2_with (at_builtin; refine wp_append_int rfl _ _ rfl w2.heap.size _ _ rfl HO5.out ⟨w4.heap.size, 0, none⟩ 1 x rfl ?_ ?_ ?_ ?_)
  · simp [go_sem]
  · rw [blL_len]; omega
  · simp; omega
  intro v5 w5 hO hb5
  have hX5 : Below w2.heap.size w2 w5 := (hX4.alloc hz4 _).trans hb5
  have hI5 := hI2.below hX5
  have hL5 := hL2.below hX5
  have hB5 := bnext hB2 hX5
  clear hC
  have hC := hL5.facts
  simp only [AllC, RowC, Nat.zero_add, Nat.reduceAdd] at hC
  obtain ⟨g, c, rfl, ⟨c1, c2⟩, _, hG⟩ := bells_own hO HX.out.symm
  have c3 : 24 ≤ c := by omega
  have HG := Lib.hid hG
  clear hG hO
  go_wp2_with fail
  go_loopw [63] (fun i wr => (∃ k : Nat, k ≤ 24 ∧ i = .int .i64 (k : Int)) ∧ Below w5.heap.size w5 wr) (fun i _ => 24 - (intOf i).toNat)
  case atStart => exact ⟨⟨0, by omega, rfl⟩, Below.refl _ _⟩
  case round =>
    obtain ⟨⟨k, hk, rfl⟩, hB⟩ := hrel
    have hI6 := hI5.below hB
    have hL6 := hL5.below hB
    have hB6 := bnext hB5 hB
    have hG6 := HG.out.below hB
    clear hC
    have hC := hL6.facts
    simp only [AllC, RowC, Nat.zero_add, Nat.reduceAdd] at hC
    by_cases hlt : k < 24
    · obtain ⟨⟨b1, b2⟩, b3, ⟨t1, t2, t3⟩, r4, r5, r6⟩ := bell_round S HV.out d1 (by omega) hlt
      have fb := fst_bx S day hlt
      have ob := ordr_bx day hlt
      have g6 := hG6.2 k (by omega)
      obtain ⟨n, hn⟩ : ∃ x, bx S day k = x := ⟨_, rfl⟩
      obtain ⟨n2, hn2⟩ : ∃ x, bx S day (k + 1) = x := ⟨_, rfl⟩
      obtain ⟨hh, hhh⟩ : ∃ x, ((k % 12 : Nat) : Int) = x := ⟨_, rfl⟩
      have k1 : 0 ≤ hh := by omega
      have k2 : hh ≤ 11 := by omega
      have k3 : hh = (k : Int) % 12 := by omega
      rw [hn] at b1 b2 b3 t1 t2 t3 r4 r5 r6 fb g6
      rw [hn2] at b3
      rw [hhh] at t3 fb ob
      obtain ⟨tp, htp⟩ : ∃ x, tP S n % 60 = x := ⟨_, rfl⟩
      obtain ⟨O2, ho2⟩ : ∃ x, 1440 * day + 60 * (k : Int) = x := ⟨_, rfl⟩
      rw [ho2] at r4 ob
      have N2 := Lib.hid hn2
      have T1 := Lib.hid t1
      have T3 := Lib.hid t3
      have T4 := Lib.hid htp
      have W4 := Lib.hid r4
      have W5 := Lib.hid r5
      have W6 := Lib.hid r6
      have HK3 := Lib.hid k3
      clear hn hn2 hhh t1 t3 htp r4 r5 r6 ho2 k3
      obtain ⟨nb, hnb⟩ : ∃ b, decide (12 ≤ (k : Int)) = b := ⟨_, rfl⟩
      have eb : decide (12 ≤ k) = nb := by rw [← hnb]; congr 1; simp only [eq_iff_iff]; omega
      have NB := Lib.hid hnb
      have FN := Lib.hid (show fst S day nb hh 0 = n by rw [← fb, eb])
      have HO2 := Lib.hid (show ordr day nb hh 0 = O2 by rw [← ob, eb])
      have T2 := Lib.hid (t2.trans eb)
      clear fb ob t2 hnb eb
      go_wp2_with fail
      rw [NB.out, HK3.out.symm]
      clear hC
      refine (First_ok S _ _ _ day nb hh 0 n _ (hI6.alloc _) HV.out d1 (by omega) (okH_mk k1 k2 (by decide) (by decide)) FN.out).mono ?_
      rintro e w7 ⟨rfl, hb⟩
      have hI7 := (hI6.alloc _).below hb
      have hL7 := (hL6.cons _ _).below hb
      have hB7 := bnextA hB6 hb
      have hC := hL7.facts
      simp only [AllC, RowC, Nat.zero_add, Nat.reduceAdd] at hC
      have hb7 := hb
      have hG7 := (hG6.below (ballo wr _)).below hb
      have g7 := hG7.2 (k + 1) (by omega)
      rw [N2.out] at g7
      have G7 := Lib.hid hG7
      clear hG7
      go_wp2_with fail
      clear hC
      refine (Told_ok S _ _ _ n day nb hh tp _ hI7 HV.out (by omega) (by omega) d1 T1.out T2.out T3.out T4.out).mono ?_
      rintro e w8 ⟨rfl, hb⟩
      have hI8 := hI7.below hb
      have hL8 := hL7.below hb
      have hB8 := bnext hB7 hb
      have hC := hL8.facts
      simp only [AllC, RowC, Nat.zero_add, Nat.reduceAdd] at hC
      have hb8 := hb
      go_wp2_with fail
      have hfr : ∀ j, (w8.alloc (hrO nb hh tp)).frozen? ⟨w8.heap.size, j, none⟩ = false := fun j => frozen_new_row w8 _ _ j
      have hlt8 : w8.heap.size < (w8.alloc (hrO nb hh tp)).heap.size := by simp
      have n7 : wr.heap.size < w8.heap.size := (hL8 (wr.heap.size, [.bool nb, .int .i64 hh, .int .i64 0]) (by simp)).lt
      have n0 : w.heap.size < w8.heap.size := (hL8 (w.heap.size, [.int .i64 S.L, vd, vr, vs]) (by simp)).lt
      have n7a : ¬ wr.heap.size = w8.heap.size := by omega
      have n0a : ¬ w.heap.size = w8.heap.size := by omega
      have n7b : ¬ w8.heap.size = wr.heap.size := by omega
      have n0b : ¬ w8.heap.size = w.heap.size := by omega
      by_cases q1 : tD S (n - 1) < 0
      · obtain ⟨z1, z2⟩ := W5.out q1
        have e1 : ¬ 0 < day := by omega
        have e2 : ¬ 0 < (k : Int) := by omega
        have f1 : decide (0 < day) = false := decide_eq_false e1
        have f2 : decide (0 < (k : Int)) = false := decide_eq_false e2
        have e3 : ¬ 0 < k := by omega
        have f3 : decide (0 < k) = false := decide_eq_false e3
        clear z1 z2
        have Q1 := Lib.hid q1
        clear q1
        clear hC
        refine (Told_no S _ _ _ (n - 1) _ (hI8.alloc _) HV.out (by omega) (by omega) Q1.out).mono ?_
        rintro e w9 ⟨rfl, hb⟩
        have hI9 := (hI8.alloc _).below hb
        have hL9 := (hL8.cons _ _).below hb
        have hB9 := bnextA hB8 hb
        have hC := hL9.facts
        simp only [AllC, RowC, Nat.zero_add, Nat.reduceAdd] at hC
        have fr0 := (hb.frozen (p := ⟨w8.heap.size, 0, none⟩) hlt8).trans (hfr 0)
        have fr1 := (hb.frozen (p := ⟨w8.heap.size, 1, none⟩) hlt8).trans (hfr 1)
        have fr2 := (hb.frozen (p := ⟨w8.heap.size, 2, none⟩) hlt8).trans (hfr 2)
        have hbq := hb
        go_wp2_with fail
        have hXs : Below w8.heap.size w8 (((w9.setCell ⟨w8.heap.size, 0, none⟩ (.bool false)).setCell ⟨w8.heap.size, 1, none⟩ (.int .i64 0)).setCell ⟨w8.heap.size, 2, none⟩ (.int .i64 0)) :=
          (((bthen (ballo w8 _) hbq).setCell (Nat.le_refl _) _).setCell (Nat.le_refl _) _).setCell (Nat.le_refl _) _
        have hBx := (hL9 (w8.heap.size, [.bool nb, .int .i64 hh, .int .i64 tp]) (by simp)).put3 (.bool false) (.int .i64 0) (.int .i64 0)
        have hL10 := (hL8.below hXs).add hBx
        have hX10 : Below wr.heap.size wr (((w9.setCell ⟨w8.heap.size, 0, none⟩ (.bool false)).setCell ⟨w8.heap.size, 1, none⟩ (.int .i64 0)).setCell ⟨w8.heap.size, 2, none⟩ (.int .i64 0)) := bthen (bthen (bafter hb7) hb8) hXs
        clear hXs hBx hC hfr fr0 fr1 fr2
        generalize hwn : (((w9.setCell ⟨w8.heap.size, 0, none⟩ (.bool false)).setCell ⟨w8.heap.size, 1, none⟩ (.int .i64 0)).setCell ⟨w8.heap.size, 2, none⟩ (.int .i64 0)) = w10 at *
        clear hwn
        have hC := hL10.facts
        simp only [AllC, RowC, Nat.zero_add, Nat.reduceAdd] at hC
        refine wp_region_more (by kernel_rfl) (by kernel_rfl) ?_
        iterate 8 (try (first | go_big_quiet_step (fail) | quiet_step (fail)))
        iterate 8 (try (first | go_big_quiet_step (fail) | quiet_step (fail)))
        iterate 8 (try (first | go_big_quiet_step (fail) | quiet_step (fail)))
        iterate 8 (try (first | go_big_quiet_step (fail) | quiet_step (fail)))
        iterate 8 (try (first | go_big_quiet_step (fail) | quiet_step (fail)))
        refine wpQuiet_nil ?_
        rintro ⟨wm, hbm⟩
        dsimp only
        go_wp2_with fail
        all_goals first
          | (exfalso; omega)
          | exact ⟨⟨⟨k + 1, by omega, by go_num⟩, hB.trans ((bthen hX10 hbm).mono (by have := hB.size; omega))⟩, by simp [intOf]; omega⟩
      · have OT := ordr_tix S (n - 1)
        have KT := Lib.hid (okH_tP HV.out (n - 1))
        have q2 := W6.out
        have q3 := W4.out
        obtain ⟨d, hd⟩ : ∃ x, tD S (n - 1) = x := ⟨_, rfl⟩
        obtain ⟨tn, htn⟩ : ∃ x, tN S (n - 1) = x := ⟨_, rfl⟩
        obtain ⟨th, hth⟩ : ∃ x, tP S (n - 1) / 60 = x := ⟨_, rfl⟩
        obtain ⟨tq, htq⟩ : ∃ x, tP S (n - 1) % 60 = x := ⟨_, rfl⟩
        rw [hd, htn, hth, htq] at OT
        rw [hth, htq] at KT
        rw [hd] at q1 q2
        have D1 := Lib.hid hd
        have D2 := Lib.hid htn
        have D3 := Lib.hid hth
        have D4 := Lib.hid htq
        obtain ⟨⟨e1, e2⟩, e3, e4⟩ := okH_bd KT.out
        obtain ⟨O1, ho1⟩ : ∃ x, ordr d tn th tq = x := ⟨_, rfl⟩
        have HO1 := Lib.hid ho1
        rw [ho1] at OT
        have q4 : O1 < O2 := by omega
        clear OT q3 hd htn hth htq ho1
        clear hC
        refine (Told_ok S _ _ _ (n - 1) d tn th tq _ (hI8.alloc _) HV.out (by omega) (by omega) (by omega) D1.out D2.out D3.out D4.out).mono ?_
        rintro e w9 ⟨rfl, hb⟩
        have hI9 := (hI8.alloc _).below hb
        have hL9 := (hL8.cons _ _).below hb
        have hB9 := bnextA hB8 hb
        have hC := hL9.facts
        simp only [AllC, RowC, Nat.zero_add, Nat.reduceAdd] at hC
        have fr0 := (hb.frozen (p := ⟨w8.heap.size, 0, none⟩) hlt8).trans (hfr 0)
        have fr1 := (hb.frozen (p := ⟨w8.heap.size, 1, none⟩) hlt8).trans (hfr 1)
        have fr2 := (hb.frozen (p := ⟨w8.heap.size, 2, none⟩) hlt8).trans (hfr 2)
        have hbq := hb
        go_wp2_with fail
        have hXs : Below w8.heap.size w8 (((w9.setCell ⟨w8.heap.size, 0, none⟩ (.bool tn)).setCell ⟨w8.heap.size, 1, none⟩ (.int .i64 th)).setCell ⟨w8.heap.size, 2, none⟩ (.int .i64 tq)) :=
          (((bthen (ballo w8 _) hbq).setCell (Nat.le_refl _) _).setCell (Nat.le_refl _) _).setCell (Nat.le_refl _) _
        have hBx := (hL9 (w8.heap.size, [.bool nb, .int .i64 hh, .int .i64 tp]) (by simp)).put3 (.bool tn) (.int .i64 th) (.int .i64 tq)
        have hL10 := (hL8.below hXs).add hBx
        have hX10 : Below wr.heap.size wr (((w9.setCell ⟨w8.heap.size, 0, none⟩ (.bool tn)).setCell ⟨w8.heap.size, 1, none⟩ (.int .i64 th)).setCell ⟨w8.heap.size, 2, none⟩ (.int .i64 tq)) := bthen (bthen (bafter hb7) hb8) hXs
        clear hXs hBx hC hfr fr0 fr1 fr2
        generalize hwn : (((w9.setCell ⟨w8.heap.size, 0, none⟩ (.bool tn)).setCell ⟨w8.heap.size, 1, none⟩ (.int .i64 th)).setCell ⟨w8.heap.size, 2, none⟩ (.int .i64 tq)) = w10 at *
        clear hwn
        have hC := hL10.facts
        simp only [AllC, RowC, Nat.zero_add, Nat.reduceAdd] at hC
        have cB : ∀ i : More w10, _ := fun i => more_call (rOrd_c d tn th tq _ i.x (by omega) (by omega) e1 e2 e3 e4 HO1.out)
        have cC : ∀ i : More w10, _ := fun i => more_call (rOrd_c day nb hh 0 _ i.x (by omega) (by omega) k1 k2 (by decide) (by decide) HO2.out)
        have CB := Lib.hid cB; clear cB
        have CC := Lib.hid cC; clear cC
        have mc := fun (i : More w10) => (bcell i.h).1
        refine wp_region_more (by kernel_rfl) (by kernel_rfl) ?_
        iterate 8 (try (first | go_big_quiet_step ((first | with_reducible exact CB.out _ | with_reducible exact CC.out _)) | quiet_step ((first | with_reducible exact CB.out _ | with_reducible exact CC.out _))))
        iterate 8 (try (first | go_big_quiet_step ((first | with_reducible exact CB.out _ | with_reducible exact CC.out _)) | quiet_step ((first | with_reducible exact CB.out _ | with_reducible exact CC.out _))))
        iterate 8 (try (first | go_big_quiet_step ((first | with_reducible exact CB.out _ | with_reducible exact CC.out _)) | quiet_step ((first | with_reducible exact CB.out _ | with_reducible exact CC.out _))))
        iterate 8 (try (first | go_big_quiet_step ((first | with_reducible exact CB.out _ | with_reducible exact CC.out _)) | quiet_step ((first | with_reducible exact CB.out _ | with_reducible exact CC.out _))))
        iterate 8 (try (first | go_big_quiet_step ((first | with_reducible exact CB.out _ | with_reducible exact CC.out _)) | quiet_step ((first | with_reducible exact CB.out _ | with_reducible exact CC.out _))))
        refine wpQuiet_nil ?_
        rintro ⟨wm, hbm⟩
        dsimp only
        go_wp2_with fail
        all_goals first
          | (exfalso; omega)
          | exact ⟨⟨⟨k + 1, by omega, by go_num⟩, hB.trans ((bthen hX10 hbm).mono (by have := hB.size; omega))⟩, by simp [intOf]; omega⟩
    · obtain rfl : k = 24 := by omega
      go_wp2_with fail
      go_ret
      exact ⟨rfl, hB6⟩
end Go.Proofs.YtpjnlcdmbkbfcaaDoor
