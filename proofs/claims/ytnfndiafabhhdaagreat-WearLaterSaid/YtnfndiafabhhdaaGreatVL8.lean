/- The later, the lower (WearLater): the walk. -/
import Derived.Test.YtnfndiafabhhdaaGreatVLc
namespace Go.Proofs.YtnfndiafabhhdaaGreat
open Go.ChangeShapes Go.WideShapes Go.ChangeAt Go.RowKit

set_option maxRecDepth 100000 in
set_option maxHeartbeats 4000000 in
theorem law_later (F : Fl) (vv vs : Value) (x m mo : Int) (w : World) (hF : FlIn w F vv vs) (_ : -9223372036854775808 ≤ x) (_ : x ≤ 9223372036854775807) (_ : -9223372036854775808 ≤ m) (_ : m ≤ 9223372036854775807) (_ : -9223372036854775808 ≤ mo) (_ : mo ≤ 9223372036854775807) : Calls Tryz.prog 8 #[flV F vv vs, .int .i64 x, .int .i64 m, .int .i64 mo] w fun e w' => e = .returned (.bool true) ∧ Below w.heap.size w w' := by
  obtain ⟨os, cs, rfl, ms⟩ := hF.s.parts
  obtain ⟨ov, cv, rfl, mv⟩ := hF.v.parts
  obtain ⟨sl, hsl⟩ : ∃ k, F.s.length = k := ⟨_, rfl⟩
  obtain ⟨vl, hvl⟩ : ∃ k, F.v.length = k := ⟨_, rfl⟩
  rw [hsl] at hF ms ⊢
  rw [hvl] at hF mv ⊢
  have HSL := Lib.hid hsl
  have HVL := Lib.hid hvl
  clear hsl hvl
  have HF := Lib.hid (hF.alloc (flO F (.slice ov vl cv) (.slice os sl cs)))
  have BP := Lib.hid (Bk.new w 30 (flL F (.slice ov vl cv) (.slice os sl cs)))
  clear hF
  go_enter Tryz.func8, Tryz.ntmps8
  go_wp2_with fail
  refine (sane_any _).mono ?_
  rintro e w1 ⟨rfl, hb⟩
  have HF1 := Lib.hid (HF.out.below hb)
  have BP1 := Lib.hid (BP.out.below hb)
  have HB1 := Lib.hid (bafter hb)
  clear hb HF BP
  go_wp2_with (first | (refine ld_at rfl (T := 30) rfl rfl BP1.out Tryz.underlying30 rfl (by kernel_rfl) ?_) | fail)
  by_cases hok : okFl F = true
  · have hO := (okFl_iff F).1 hok
    refine (Check_c F _ _ 0 w1 HF1.out (by unfold chkF; rw [if_pos hok])).mono ?_
    rintro e w2 ⟨rfl, hb⟩
    have HF2 := Lib.hid (HF1.out.below hb)
    have BP2 := Lib.hid (BP1.out.below hb)
    have HB2 := Lib.hid (bthen HB1.out hb)
    clear HF1 BP1 HB1
    clear hb
    by_cases m0 : m < 0
    · go_wp2_with fail
      go_ret
      exact ⟨rfl, HB2.out⟩
    by_cases m1 : m > 1048576
    · go_wp2_with fail
      go_ret
      exact ⟨rfl, HB2.out⟩
    by_cases k0 : mo < 0
    · go_wp2_with fail
      go_ret
      exact ⟨rfl, HB2.out⟩
    by_cases k1 : mo > 1048576
    · go_wp2_with fail
      go_ret
      exact ⟨rfl, HB2.out⟩
    go_wp2_with (first | (refine ld_at rfl (T := 30) rfl rfl BP2.out Tryz.underlying30 rfl (by kernel_rfl) ?_) | fail)
    by_cases hR : inB x 0 (hgt F.v) = true
    · cases hc : canI F (allL F) with
      | false =>
        refine (Reached_no F _ _ x 31 _ HF2.out (rdE_31 hok hR hc) (by decide)).mono ?_
        rintro e w3 ⟨rfl, hb⟩
        have HB3 := Lib.hid ((bthen HB2.out hb).alloc (bthen HB2.out hb).size (Obj.cells #[.int .i64 0, .int .i64 0] 27))
        clear hb hok hO hR hc HF2 BP2 HB2
        go_wp2_with fail
        go_ret
        exact ⟨rfl, HB3.out⟩
      | true =>
        have x0 : 0 ≤ x := by simp [inB] at hR; omega
        have xn : x ≤ hgt F.v := by simp [inB] at hR; omega
        have hi := allI_lt F
        have HO := Lib.hid (And.intro hok hc)
        have q1 := rc_le hO hi hc x0 xn
        have q2 := (rcLo_spec hO hi x0 xn).1
        have q3 := (rcHi_spec hO hi x0 xn).1
        have q4 := lv_min hO hi (m := m) (m' := m + mo) (by omega)
        have q5 := lv_le hO hi hc m
        have q6 : 0 < x → rcLo F (allL F) x ≤ rcLo F (allL F) (x - 1) ∧ rcHi F (allL F) x ≤ rcHi F (allL F) (x - 1) := fun h => rc_lev hO hi (by omega) (by omega) xn
        have s1 := sure_iff hO hi x0 xn (m := m) (by omega)
        have s2 := (sure_iff hO hi x0 xn (m := rcHi F (allL F) x) q3.1).2 (Int.le_refl _)
        have e1 : evM F (allL F) x m = true → rcLo F (allL F) x ≤ m := fun h => ever_ge hO hi x0 xn (by omega) h
        have e2 : rcLo F (allL F) x < m → evM F (allL F) x m = true := fun h => ever_of hO hi hc x0 xn h
        have e3 : ovM F (allL F) x m = false → evM F (allL F) x m = true := fun h => ov_ev hO hi hc x0 xn h
        have e4 : rcLo F (allL F) x ≠ 0 → evM F (allL F) x (rcLo F (allL F) x - 1) = false := fun h => by
          cases hx : evM F (allL F) x (rcLo F (allL F) x - 1) with
          | false => rfl
          | true => have := ever_ge hO hi x0 xn (by omega) hx; omega
        have HY := Lib.hid (fun h : 0 < x => Reached_yes F (.slice ov vl cv) (.slice os sl cs) (x - 1) (rcLo F (allL F) (x - 1)) (rcHi F (allL F) (x - 1)))
        obtain ⟨xL, hxL⟩ : ∃ k, rcLo F (allL F) x = k := ⟨_, rfl⟩
        obtain ⟨xH, hxH⟩ : ∃ k, rcHi F (allL F) x = k := ⟨_, rfl⟩
        obtain ⟨yL, hyL⟩ : ∃ k, rcLo F (allL F) (x - 1) = k := ⟨_, rfl⟩
        obtain ⟨yH, hyH⟩ : ∃ k, rcHi F (allL F) (x - 1) = k := ⟨_, rfl⟩
        obtain ⟨aL, haL⟩ : ∃ k, lvLo F (allL F) m = k := ⟨_, rfl⟩
        obtain ⟨aH, haH⟩ : ∃ k, lvHi F (allL F) m = k := ⟨_, rfl⟩
        obtain ⟨bL, hbL⟩ : ∃ k, lvLo F (allL F) (m + mo) = k := ⟨_, rfl⟩
        obtain ⟨bH, hbH⟩ : ∃ k, lvHi F (allL F) (m + mo) = k := ⟨_, rfl⟩
        rw [hxL, hxH] at q1
        rw [hxL] at q2 e1 e2 e4
        rw [hxH] at q3 s1 s2
        rw [hbL, hbH, haL, haH] at q4
        rw [haL, haH] at q5
        rw [hxL, hxH, hyL, hyH] at q6
        obtain ⟨hxl0, hxl⟩ := q2
        have hxh0 := q3.1
        have hxh : xH ≤ 2097152 := by omega
        obtain ⟨q41, q42⟩ := q4
        have HQ6 := Lib.hid q6
        have HSE : Hid ((!ovM F (allL F) x xH) = true) := Lib.hid (by rw [s2]; rfl)
        have HBE := Lib.hid e4
        obtain ⟨c, hcc⟩ : ∃ k, evM F (allL F) x m = k := ⟨_, rfl⟩
        obtain ⟨s, hss⟩ : ∃ k, (!ovM F (allL F) x m) = k := ⟨_, rfl⟩
        have s1 : s = true ↔ xH ≤ m := by rw [← s1, ← hss]; cases ovM F (allL F) x m <;> simp
        have e3 : s = true → c = true := by
          intro h
          rw [← hcc]
          refine e3 ?_
          rw [← hss] at h
          simpa using h
        rw [hcc] at e1 e2
        have HSS := Lib.hid hss
        have HCC := Lib.hid hcc
        clear hss hcc
        have HS1 := Lib.hid s1
        have HE1 := Lib.hid e1
        have HE2 := Lib.hid e2
        have HE3 := Lib.hid e3
        have HXL := Lib.hid hxL
        have HXH := Lib.hid hxH
        have HYL := Lib.hid hyL
        have HYH := Lib.hid hyH
        have HAL := Lib.hid haL
        have HAH := Lib.hid haH
        have HBL := Lib.hid hbL
        have HBH := Lib.hid hbH
        clear q3 q6 s1 s2 e1 e2 e3 e4 hxL hxH hyL hyH haL haH hbL hbH hi hO hok hc hR HY
        refine (Reached_yes F _ _ x xL xH _ HF2.out HO.out.1 HO.out.2 x0 xn HXL.out HXH.out).mono ?_
        rintro e w3 ⟨rfl, hb⟩
        have HF3 := Lib.hid ((HF2.out.below hb).alloc (Obj.cells #[.int .i64 xL, .int .i64 xH] 27))
        have BP3 := Lib.hid ((BP2.out.below hb).alloc (Obj.cells #[.int .i64 xL, .int .i64 xH] 27))
        have HB3 := Lib.hid ((bthen HB2.out hb).alloc (bthen HB2.out hb).size (Obj.cells #[.int .i64 xL, .int .i64 xH] 27))
        have HN3 := Lib.hid (Bk.new w3 27 [.int .i64 xL, .int .i64 xH])
        clear HF2 BP2 HB2
        clear hb
        go_wp2_with (first | (refine ld_at rfl (T := 30) rfl rfl BP3.out Tryz.underlying30 rfl (by kernel_rfl) ?_) | fail)
        refine (Level_yes F _ _ m aL aH _ HF3.out HO.out.1 HO.out.2 (by omega) (by omega) HAL.out HAH.out).mono ?_
        rintro e w4 ⟨rfl, hb⟩
        have HF4 := Lib.hid ((HF3.out.below hb).alloc (Obj.cells #[.int .i64 aL, .int .i64 aH] 27))
        have BP4 := Lib.hid ((BP3.out.below hb).alloc (Obj.cells #[.int .i64 aL, .int .i64 aH] 27))
        have HB4 := Lib.hid ((bthen HB3.out hb).alloc (bthen HB3.out hb).size (Obj.cells #[.int .i64 aL, .int .i64 aH] 27))
        have HN4 := Lib.hid (Bk.new w4 27 [.int .i64 aL, .int .i64 aH])
        clear HF3 BP3 HB3
        have HX4 := Lib.hid ((HN3.out.below hb).alloc (Obj.cells #[.int .i64 aL, .int .i64 aH] 27))
        clear hb
        go_wp2_with (first | (refine ld_at rfl (T := 30) rfl rfl BP4.out Tryz.underlying30 rfl (by kernel_rfl) ?_) | fail)
        refine (Level_yes F _ _ (m + mo) bL bH _ HF4.out HO.out.1 HO.out.2 (by omega) (by omega) HBL.out HBH.out).mono ?_
        rintro e w5 ⟨rfl, hb⟩
        have HF5 := Lib.hid ((HF4.out.below hb).alloc (Obj.cells #[.int .i64 bL, .int .i64 bH] 27))
        have BP5 := Lib.hid ((BP4.out.below hb).alloc (Obj.cells #[.int .i64 bL, .int .i64 bH] 27))
        have HB5 := Lib.hid ((bthen HB4.out hb).alloc (bthen HB4.out hb).size (Obj.cells #[.int .i64 bL, .int .i64 bH] 27))
        have HN5 := Lib.hid (Bk.new w5 27 [.int .i64 bL, .int .i64 bH])
        clear HF4 BP4 HB4
        have a5 := HN4.out.below hb
        have x5 := HX4.out.below hb
        have HX5 := Lib.hid (x5.alloc (Obj.cells #[.int .i64 bL, .int .i64 bH] 27))
        have a51 := a5.cell 0
        have a52 := a5.cell 1
        have x51 := x5.cell 0
        have x52 := x5.cell 1
        have a53 := a5.lt
        have x53 := x5.lt
        simp only [List.getElem?_cons_zero, List.getElem?_cons_succ] at a51 a52 x51 x52
        clear hb a5 x5
        by_cases hx0 : 0 < x
        · have q6 := HQ6.out hx0
          obtain ⟨q61, q62⟩ := q6
          go_wp2_with (first | (refine ld_at rfl (T := 30) rfl rfl BP5.out Tryz.underlying30 rfl (by kernel_rfl) ?_) | fail)
          refine (Reached_yes F _ _ (x - 1) yL yH _ HF5.out HO.out.1 HO.out.2 (by omega) (by omega) HYL.out HYH.out).mono ?_
          clear a51 a52 x51 x52 a53 x53
          rintro e w6 ⟨rfl, hb⟩
          have HF6 := Lib.hid ((HF5.out.below hb).alloc (Obj.cells #[.int .i64 yL, .int .i64 yH] 27))
          have BP6 := Lib.hid ((BP5.out.below hb).alloc (Obj.cells #[.int .i64 yL, .int .i64 yH] 27))
          have HB6 := Lib.hid ((bthen HB5.out hb).alloc (bthen HB5.out hb).size (Obj.cells #[.int .i64 yL, .int .i64 yH] 27))
          have HN6 := Lib.hid (Bk.new w6 27 [.int .i64 yL, .int .i64 yH])
          clear HF5 BP5 HB5
          have x6 := HX5.out.below hb
          have HX6 := Lib.hid (x6.alloc (Obj.cells #[.int .i64 yL, .int .i64 yH] 27))
          have x61 := x6.cell 0
          have x62 := x6.cell 1
          have x63 := x6.lt
          simp only [List.getElem?_cons_zero, List.getElem?_cons_succ] at x61 x62
          clear hb x6
          go_wp2_with (first | (refine ld_at rfl (T := 30) rfl rfl BP6.out Tryz.underlying30 rfl (by kernel_rfl) ?_) | fail)
          refine (Surely_yes F _ _ x m s _ HF6.out HO.out.1 HO.out.2 x0 xn (by omega) (by omega) HSS.out).mono ?_
          rintro e w7 ⟨rfl, hb⟩
          have HF7 := Lib.hid (HF6.out.below hb)
          have BP7 := Lib.hid (BP6.out.below hb)
          have HB7 := Lib.hid (bthen HB6.out hb)
          clear HF6 BP6 HB6
          have HX7 := Lib.hid (HX6.out.below hb)
          clear hb
          go_wp2_with (first | (refine ld_at rfl (T := 30) rfl rfl BP7.out Tryz.underlying30 rfl (by kernel_rfl) ?_) | fail)
          refine (Ever_yes F _ _ x m c _ HF7.out HO.out.1 HO.out.2 x0 xn (by omega) (by omega) HCC.out).mono ?_
          rintro e w8 ⟨rfl, hb⟩
          have HF8 := Lib.hid (HF7.out.below hb)
          have BP8 := Lib.hid (BP7.out.below hb)
          have HB8 := Lib.hid (bthen HB7.out hb)
          clear HF7 BP7 HB7
          have HX8 := Lib.hid (HX7.out.below hb)
          clear hb
          cases s with
          | true =>
            have g1 : xH ≤ m := HS1.out.1 rfl
            have g2 : c = true := HE3.out rfl
            subst g2
            by_cases g3 : xL < m
            · have x81 := HX8.out.cell 0
              have x82 := HX8.out.cell 1
              simp only [List.getElem?_cons_zero, List.getElem?_cons_succ] at x81 x82
              go_wp2_with (first | (refine ld_at rfl (T := 30) rfl rfl BP8.out Tryz.underlying30 rfl (by kernel_rfl) ?_) | fail)
              refine (Surely_yes F _ _ x xH true _ HF8.out HO.out.1 HO.out.2 x0 xn hxh0 hxh HSE.out).mono ?_
              rintro e w9 ⟨rfl, hb⟩
              have HF9 := Lib.hid (HF8.out.below hb)
              have BP9 := Lib.hid (BP8.out.below hb)
              have HB9 := Lib.hid (bthen HB8.out hb)
              clear HF8 BP8 HB8
              have r9 := HX8.out.below hb
              clear hb x81 x82
              have t0 := r9.cell 0
              have t1 := r9.cell 1
              simp only [List.getElem?_cons_zero, List.getElem?_cons_succ] at t0 t1
              by_cases hz : xL = 0
              · have hz1 : xL ≤ 0 := by omega
                clear hz
                go_wp2_with fail
                go_ret
                exact ⟨rfl, HB9.out⟩
              · have hz1 : 0 < xL := by omega
                go_wp2_with (first | (refine ld_at rfl (T := 30) rfl rfl BP9.out Tryz.underlying30 rfl (by kernel_rfl) ?_) | fail)
                refine (Ever_yes F _ _ x (xL - 1) false _ HF9.out HO.out.1 HO.out.2 x0 xn (by omega) (by omega) (HBE.out hz)).mono ?_
                rintro e w10 ⟨rfl, hb⟩
                have HB10 := Lib.hid (bthen HB9.out hb)
                clear hb
                go_wp2_with fail
                go_ret
                exact ⟨rfl, HB10.out⟩
            · have x81 := HX8.out.cell 0
              have x82 := HX8.out.cell 1
              simp only [List.getElem?_cons_zero, List.getElem?_cons_succ] at x81 x82
              go_wp2_with (first | (refine ld_at rfl (T := 30) rfl rfl BP8.out Tryz.underlying30 rfl (by kernel_rfl) ?_) | fail)
              refine (Surely_yes F _ _ x xH true _ HF8.out HO.out.1 HO.out.2 x0 xn hxh0 hxh HSE.out).mono ?_
              rintro e w9 ⟨rfl, hb⟩
              have HF9 := Lib.hid (HF8.out.below hb)
              have BP9 := Lib.hid (BP8.out.below hb)
              have HB9 := Lib.hid (bthen HB8.out hb)
              clear HF8 BP8 HB8
              have r9 := HX8.out.below hb
              clear hb x81 x82
              have t0 := r9.cell 0
              have t1 := r9.cell 1
              simp only [List.getElem?_cons_zero, List.getElem?_cons_succ] at t0 t1
              by_cases hz : xL = 0
              · have hz1 : xL ≤ 0 := by omega
                clear hz
                go_wp2_with fail
                go_ret
                exact ⟨rfl, HB9.out⟩
              · have hz1 : 0 < xL := by omega
                go_wp2_with (first | (refine ld_at rfl (T := 30) rfl rfl BP9.out Tryz.underlying30 rfl (by kernel_rfl) ?_) | fail)
                refine (Ever_yes F _ _ x (xL - 1) false _ HF9.out HO.out.1 HO.out.2 x0 xn (by omega) (by omega) (HBE.out hz)).mono ?_
                rintro e w10 ⟨rfl, hb⟩
                have HB10 := Lib.hid (bthen HB9.out hb)
                clear hb
                go_wp2_with fail
                go_ret
                exact ⟨rfl, HB10.out⟩
          | false =>
            have g1 : m < xH := by
              rcases Int.lt_or_le m xH with h | h
              · exact h
              · have := HS1.out.2 h; cases this
            cases c with
            | true =>
              have g2 : xL ≤ m := HE1.out rfl
              by_cases g3 : xL < m
              · have x81 := HX8.out.cell 0
                have x82 := HX8.out.cell 1
                simp only [List.getElem?_cons_zero, List.getElem?_cons_succ] at x81 x82
                go_wp2_with (first | (refine ld_at rfl (T := 30) rfl rfl BP8.out Tryz.underlying30 rfl (by kernel_rfl) ?_) | fail)
                refine (Surely_yes F _ _ x xH true _ HF8.out HO.out.1 HO.out.2 x0 xn hxh0 hxh HSE.out).mono ?_
                rintro e w9 ⟨rfl, hb⟩
                have HF9 := Lib.hid (HF8.out.below hb)
                have BP9 := Lib.hid (BP8.out.below hb)
                have HB9 := Lib.hid (bthen HB8.out hb)
                clear HF8 BP8 HB8
                have r9 := HX8.out.below hb
                clear hb x81 x82
                have t0 := r9.cell 0
                have t1 := r9.cell 1
                simp only [List.getElem?_cons_zero, List.getElem?_cons_succ] at t0 t1
                by_cases hz : xL = 0
                · have hz1 : xL ≤ 0 := by omega
                  clear hz
                  go_wp2_with fail
                  go_ret
                  exact ⟨rfl, HB9.out⟩
                · have hz1 : 0 < xL := by omega
                  go_wp2_with (first | (refine ld_at rfl (T := 30) rfl rfl BP9.out Tryz.underlying30 rfl (by kernel_rfl) ?_) | fail)
                  refine (Ever_yes F _ _ x (xL - 1) false _ HF9.out HO.out.1 HO.out.2 x0 xn (by omega) (by omega) (HBE.out hz)).mono ?_
                  rintro e w10 ⟨rfl, hb⟩
                  have HB10 := Lib.hid (bthen HB9.out hb)
                  clear hb
                  go_wp2_with fail
                  go_ret
                  exact ⟨rfl, HB10.out⟩
              · have x81 := HX8.out.cell 0
                have x82 := HX8.out.cell 1
                simp only [List.getElem?_cons_zero, List.getElem?_cons_succ] at x81 x82
                go_wp2_with (first | (refine ld_at rfl (T := 30) rfl rfl BP8.out Tryz.underlying30 rfl (by kernel_rfl) ?_) | fail)
                refine (Surely_yes F _ _ x xH true _ HF8.out HO.out.1 HO.out.2 x0 xn hxh0 hxh HSE.out).mono ?_
                rintro e w9 ⟨rfl, hb⟩
                have HF9 := Lib.hid (HF8.out.below hb)
                have BP9 := Lib.hid (BP8.out.below hb)
                have HB9 := Lib.hid (bthen HB8.out hb)
                clear HF8 BP8 HB8
                have r9 := HX8.out.below hb
                clear hb x81 x82
                have t0 := r9.cell 0
                have t1 := r9.cell 1
                simp only [List.getElem?_cons_zero, List.getElem?_cons_succ] at t0 t1
                by_cases hz : xL = 0
                · have hz1 : xL ≤ 0 := by omega
                  clear hz
                  go_wp2_with fail
                  go_ret
                  exact ⟨rfl, HB9.out⟩
                · have hz1 : 0 < xL := by omega
                  go_wp2_with (first | (refine ld_at rfl (T := 30) rfl rfl BP9.out Tryz.underlying30 rfl (by kernel_rfl) ?_) | fail)
                  refine (Ever_yes F _ _ x (xL - 1) false _ HF9.out HO.out.1 HO.out.2 x0 xn (by omega) (by omega) (HBE.out hz)).mono ?_
                  rintro e w10 ⟨rfl, hb⟩
                  have HB10 := Lib.hid (bthen HB9.out hb)
                  clear hb
                  go_wp2_with fail
                  go_ret
                  exact ⟨rfl, HB10.out⟩
            | false =>
              have g2 : m ≤ xL := by
                rcases Int.lt_or_le xL m with h | h
                · have := HE2.out h; cases this
                · exact h
              have x81 := HX8.out.cell 0
              have x82 := HX8.out.cell 1
              simp only [List.getElem?_cons_zero, List.getElem?_cons_succ] at x81 x82
              go_wp2_with (first | (refine ld_at rfl (T := 30) rfl rfl BP8.out Tryz.underlying30 rfl (by kernel_rfl) ?_) | fail)
              refine (Surely_yes F _ _ x xH true _ HF8.out HO.out.1 HO.out.2 x0 xn hxh0 hxh HSE.out).mono ?_
              rintro e w9 ⟨rfl, hb⟩
              have HF9 := Lib.hid (HF8.out.below hb)
              have BP9 := Lib.hid (BP8.out.below hb)
              have HB9 := Lib.hid (bthen HB8.out hb)
              clear HF8 BP8 HB8
              have r9 := HX8.out.below hb
              clear hb x81 x82
              have t0 := r9.cell 0
              have t1 := r9.cell 1
              simp only [List.getElem?_cons_zero, List.getElem?_cons_succ] at t0 t1
              by_cases hz : xL = 0
              · have hz1 : xL ≤ 0 := by omega
                clear hz
                go_wp2_with fail
                go_ret
                exact ⟨rfl, HB9.out⟩
              · have hz1 : 0 < xL := by omega
                go_wp2_with (first | (refine ld_at rfl (T := 30) rfl rfl BP9.out Tryz.underlying30 rfl (by kernel_rfl) ?_) | fail)
                refine (Ever_yes F _ _ x (xL - 1) false _ HF9.out HO.out.1 HO.out.2 x0 xn (by omega) (by omega) (HBE.out hz)).mono ?_
                rintro e w10 ⟨rfl, hb⟩
                have HB10 := Lib.hid (bthen HB9.out hb)
                clear hb
                go_wp2_with fail
                go_ret
                exact ⟨rfl, HB10.out⟩
        · have HF6 := HF5
          have BP6 := BP5
          have HB6 := HB5
          have HX6 := HX5
          clear HF5 BP5 HB5 HX5
          go_wp2_with (first | (refine ld_at rfl (T := 30) rfl rfl BP6.out Tryz.underlying30 rfl (by kernel_rfl) ?_) | fail)
          refine (Surely_yes F _ _ x m s _ HF6.out HO.out.1 HO.out.2 x0 xn (by omega) (by omega) HSS.out).mono ?_
          rintro e w7 ⟨rfl, hb⟩
          have HF7 := Lib.hid (HF6.out.below hb)
          have BP7 := Lib.hid (BP6.out.below hb)
          have HB7 := Lib.hid (bthen HB6.out hb)
          clear HF6 BP6 HB6
          have HX7 := Lib.hid (HX6.out.below hb)
          clear hb
          go_wp2_with (first | (refine ld_at rfl (T := 30) rfl rfl BP7.out Tryz.underlying30 rfl (by kernel_rfl) ?_) | fail)
          refine (Ever_yes F _ _ x m c _ HF7.out HO.out.1 HO.out.2 x0 xn (by omega) (by omega) HCC.out).mono ?_
          rintro e w8 ⟨rfl, hb⟩
          have HF8 := Lib.hid (HF7.out.below hb)
          have BP8 := Lib.hid (BP7.out.below hb)
          have HB8 := Lib.hid (bthen HB7.out hb)
          clear HF7 BP7 HB7
          have HX8 := Lib.hid (HX7.out.below hb)
          clear hb
          cases s with
          | true =>
            have g1 : xH ≤ m := HS1.out.1 rfl
            have g2 : c = true := HE3.out rfl
            subst g2
            by_cases g3 : xL < m
            · have x81 := HX8.out.cell 0
              have x82 := HX8.out.cell 1
              simp only [List.getElem?_cons_zero, List.getElem?_cons_succ] at x81 x82
              go_wp2_with (first | (refine ld_at rfl (T := 30) rfl rfl BP8.out Tryz.underlying30 rfl (by kernel_rfl) ?_) | fail)
              refine (Surely_yes F _ _ x xH true _ HF8.out HO.out.1 HO.out.2 x0 xn hxh0 hxh HSE.out).mono ?_
              rintro e w9 ⟨rfl, hb⟩
              have HF9 := Lib.hid (HF8.out.below hb)
              have BP9 := Lib.hid (BP8.out.below hb)
              have HB9 := Lib.hid (bthen HB8.out hb)
              clear HF8 BP8 HB8
              have r9 := HX8.out.below hb
              clear hb x81 x82
              have t0 := r9.cell 0
              have t1 := r9.cell 1
              simp only [List.getElem?_cons_zero, List.getElem?_cons_succ] at t0 t1
              by_cases hz : xL = 0
              · have hz1 : xL ≤ 0 := by omega
                clear hz
                go_wp2_with fail
                go_ret
                exact ⟨rfl, HB9.out⟩
              · have hz1 : 0 < xL := by omega
                go_wp2_with (first | (refine ld_at rfl (T := 30) rfl rfl BP9.out Tryz.underlying30 rfl (by kernel_rfl) ?_) | fail)
                refine (Ever_yes F _ _ x (xL - 1) false _ HF9.out HO.out.1 HO.out.2 x0 xn (by omega) (by omega) (HBE.out hz)).mono ?_
                rintro e w10 ⟨rfl, hb⟩
                have HB10 := Lib.hid (bthen HB9.out hb)
                clear hb
                go_wp2_with fail
                go_ret
                exact ⟨rfl, HB10.out⟩
            · have x81 := HX8.out.cell 0
              have x82 := HX8.out.cell 1
              simp only [List.getElem?_cons_zero, List.getElem?_cons_succ] at x81 x82
              go_wp2_with (first | (refine ld_at rfl (T := 30) rfl rfl BP8.out Tryz.underlying30 rfl (by kernel_rfl) ?_) | fail)
              refine (Surely_yes F _ _ x xH true _ HF8.out HO.out.1 HO.out.2 x0 xn hxh0 hxh HSE.out).mono ?_
              rintro e w9 ⟨rfl, hb⟩
              have HF9 := Lib.hid (HF8.out.below hb)
              have BP9 := Lib.hid (BP8.out.below hb)
              have HB9 := Lib.hid (bthen HB8.out hb)
              clear HF8 BP8 HB8
              have r9 := HX8.out.below hb
              clear hb x81 x82
              have t0 := r9.cell 0
              have t1 := r9.cell 1
              simp only [List.getElem?_cons_zero, List.getElem?_cons_succ] at t0 t1
              by_cases hz : xL = 0
              · have hz1 : xL ≤ 0 := by omega
                clear hz
                go_wp2_with fail
                go_ret
                exact ⟨rfl, HB9.out⟩
              · have hz1 : 0 < xL := by omega
                go_wp2_with (first | (refine ld_at rfl (T := 30) rfl rfl BP9.out Tryz.underlying30 rfl (by kernel_rfl) ?_) | fail)
                refine (Ever_yes F _ _ x (xL - 1) false _ HF9.out HO.out.1 HO.out.2 x0 xn (by omega) (by omega) (HBE.out hz)).mono ?_
                rintro e w10 ⟨rfl, hb⟩
                have HB10 := Lib.hid (bthen HB9.out hb)
                clear hb
                go_wp2_with fail
                go_ret
                exact ⟨rfl, HB10.out⟩
          | false =>
            have g1 : m < xH := by
              rcases Int.lt_or_le m xH with h | h
              · exact h
              · have := HS1.out.2 h; cases this
            cases c with
            | true =>
              have g2 : xL ≤ m := HE1.out rfl
              by_cases g3 : xL < m
              · have x81 := HX8.out.cell 0
                have x82 := HX8.out.cell 1
                simp only [List.getElem?_cons_zero, List.getElem?_cons_succ] at x81 x82
                go_wp2_with (first | (refine ld_at rfl (T := 30) rfl rfl BP8.out Tryz.underlying30 rfl (by kernel_rfl) ?_) | fail)
                refine (Surely_yes F _ _ x xH true _ HF8.out HO.out.1 HO.out.2 x0 xn hxh0 hxh HSE.out).mono ?_
                rintro e w9 ⟨rfl, hb⟩
                have HF9 := Lib.hid (HF8.out.below hb)
                have BP9 := Lib.hid (BP8.out.below hb)
                have HB9 := Lib.hid (bthen HB8.out hb)
                clear HF8 BP8 HB8
                have r9 := HX8.out.below hb
                clear hb x81 x82
                have t0 := r9.cell 0
                have t1 := r9.cell 1
                simp only [List.getElem?_cons_zero, List.getElem?_cons_succ] at t0 t1
                by_cases hz : xL = 0
                · have hz1 : xL ≤ 0 := by omega
                  clear hz
                  go_wp2_with fail
                  go_ret
                  exact ⟨rfl, HB9.out⟩
                · have hz1 : 0 < xL := by omega
                  go_wp2_with (first | (refine ld_at rfl (T := 30) rfl rfl BP9.out Tryz.underlying30 rfl (by kernel_rfl) ?_) | fail)
                  refine (Ever_yes F _ _ x (xL - 1) false _ HF9.out HO.out.1 HO.out.2 x0 xn (by omega) (by omega) (HBE.out hz)).mono ?_
                  rintro e w10 ⟨rfl, hb⟩
                  have HB10 := Lib.hid (bthen HB9.out hb)
                  clear hb
                  go_wp2_with fail
                  go_ret
                  exact ⟨rfl, HB10.out⟩
              · have x81 := HX8.out.cell 0
                have x82 := HX8.out.cell 1
                simp only [List.getElem?_cons_zero, List.getElem?_cons_succ] at x81 x82
                go_wp2_with (first | (refine ld_at rfl (T := 30) rfl rfl BP8.out Tryz.underlying30 rfl (by kernel_rfl) ?_) | fail)
                refine (Surely_yes F _ _ x xH true _ HF8.out HO.out.1 HO.out.2 x0 xn hxh0 hxh HSE.out).mono ?_
                rintro e w9 ⟨rfl, hb⟩
                have HF9 := Lib.hid (HF8.out.below hb)
                have BP9 := Lib.hid (BP8.out.below hb)
                have HB9 := Lib.hid (bthen HB8.out hb)
                clear HF8 BP8 HB8
                have r9 := HX8.out.below hb
                clear hb x81 x82
                have t0 := r9.cell 0
                have t1 := r9.cell 1
                simp only [List.getElem?_cons_zero, List.getElem?_cons_succ] at t0 t1
                by_cases hz : xL = 0
                · have hz1 : xL ≤ 0 := by omega
                  clear hz
                  go_wp2_with fail
                  go_ret
                  exact ⟨rfl, HB9.out⟩
                · have hz1 : 0 < xL := by omega
                  go_wp2_with (first | (refine ld_at rfl (T := 30) rfl rfl BP9.out Tryz.underlying30 rfl (by kernel_rfl) ?_) | fail)
                  refine (Ever_yes F _ _ x (xL - 1) false _ HF9.out HO.out.1 HO.out.2 x0 xn (by omega) (by omega) (HBE.out hz)).mono ?_
                  rintro e w10 ⟨rfl, hb⟩
                  have HB10 := Lib.hid (bthen HB9.out hb)
                  clear hb
                  go_wp2_with fail
                  go_ret
                  exact ⟨rfl, HB10.out⟩
            | false =>
              have g2 : m ≤ xL := by
                rcases Int.lt_or_le xL m with h | h
                · have := HE2.out h; cases this
                · exact h
              have x81 := HX8.out.cell 0
              have x82 := HX8.out.cell 1
              simp only [List.getElem?_cons_zero, List.getElem?_cons_succ] at x81 x82
              go_wp2_with (first | (refine ld_at rfl (T := 30) rfl rfl BP8.out Tryz.underlying30 rfl (by kernel_rfl) ?_) | fail)
              refine (Surely_yes F _ _ x xH true _ HF8.out HO.out.1 HO.out.2 x0 xn hxh0 hxh HSE.out).mono ?_
              rintro e w9 ⟨rfl, hb⟩
              have HF9 := Lib.hid (HF8.out.below hb)
              have BP9 := Lib.hid (BP8.out.below hb)
              have HB9 := Lib.hid (bthen HB8.out hb)
              clear HF8 BP8 HB8
              have r9 := HX8.out.below hb
              clear hb x81 x82
              have t0 := r9.cell 0
              have t1 := r9.cell 1
              simp only [List.getElem?_cons_zero, List.getElem?_cons_succ] at t0 t1
              by_cases hz : xL = 0
              · have hz1 : xL ≤ 0 := by omega
                clear hz
                go_wp2_with fail
                go_ret
                exact ⟨rfl, HB9.out⟩
              · have hz1 : 0 < xL := by omega
                go_wp2_with (first | (refine ld_at rfl (T := 30) rfl rfl BP9.out Tryz.underlying30 rfl (by kernel_rfl) ?_) | fail)
                refine (Ever_yes F _ _ x (xL - 1) false _ HF9.out HO.out.1 HO.out.2 x0 xn (by omega) (by omega) (HBE.out hz)).mono ?_
                rintro e w10 ⟨rfl, hb⟩
                have HB10 := Lib.hid (bthen HB9.out hb)
                clear hb
                go_wp2_with fail
                go_ret
                exact ⟨rfl, HB10.out⟩
    · have hR : inB x 0 (hgt F.v) = false := by simpa using hR
      refine (Reached_no F _ _ x 1 _ HF2.out (rdE_1 hok hR) (by decide)).mono ?_
      rintro e w3 ⟨rfl, hb⟩
      have HB3 := Lib.hid ((bthen HB2.out hb).alloc (bthen HB2.out hb).size (Obj.cells #[.int .i64 0, .int .i64 0] 27))
      clear hb hok hO hR HF2 BP2 HB2
      go_wp2_with fail
      go_ret
      exact ⟨rfl, HB3.out⟩
  · refine (Check_c F _ _ 30 w1 HF1.out (by unfold chkF; rw [if_neg hok])).mono ?_
    rintro e w2 ⟨rfl, hb⟩
    have HB2 := Lib.hid (bthen HB1.out hb)
    clear hb HF1 BP1 HB1
    go_wp2_with fail
    go_ret
    exact ⟨rfl, HB2.out⟩
end Go.Proofs.YtnfndiafabhhdaaGreat
