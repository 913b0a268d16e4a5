/- With Wear narrowed to a wear within Bounds a case is possible, with one outside none is (WearNarrow): the walk. -/
import Derived.Test.YtnfndiafabhhdaaGreatF3
import Derived.Test.YtnfndiafabhhdaaGreatA3
namespace Go.Proofs.YtnfndiafabhhdaaGreat
open Go.ChangeShapes Go.WideShapes Go.ChangeAt Go.RowKit

theorem Check_c (F : Fl) (vv vs : Value) (c : Int) (w : World) (hF : FlIn w F vv vs) (hc : chkF F = c) : Calls Tryz.prog 37 #[flV F vv vs] w fun e w' => e = .returned (.int .i64 c) ∧ Below w.heap.size w w' := by
  rw [← hc]; exact Check_any F vv vs w hF
theorem Possible_c (F : Fl) (vv vs : Value) (b : Bool) (w : World) (hF : FlIn w F vv vs) (ho : okFl F = true) (hc : canI F (allL F) = b) : Calls Tryz.prog 35 #[flV F vv vs] w fun e w' => e = .returned (.tuple #[.bool b, .int .i64 0]) ∧ Below w.heap.size w w' := by
  have := Possible_any F vv vs w hF
  rw [ho, hc, Bool.true_and] at this
  unfold chkF at this
  rwa [if_pos ho] at this
theorem Bounds_no (F : Fl) (vv vs : Value) (w : World) (hF : FlIn w F vv vs) (ho : okFl F = true) (hc : canI F (allL F) = false) : Calls Tryz.prog 32 #[flV F vv vs] w fun e w' => e = .returned (.tuple #[raZ, raZ, .int .i64 31]) ∧ Below w.heap.size w w' := by
  have h := Bounds_any F vv vs w hF
  have e : rdE F true = 31 := by unfold rdE; rw [if_pos ho, if_pos rfl, if_neg (by rw [hc]; decide)]
  unfold boV at h
  rwa [if_neg (by rw [e]; decide), e] at h
theorem Bounds_yes (F : Fl) (vv vs : Value) (w : World) (a1 a2 b1 b2 : Int) (hF : FlIn w F vv vs) (ho : okFl F = true) (hc : canI F (allL F) = true) (h1 : lowN1 (1000 * (solvedW F (allL F)).hi.d) (solvedW F (allL F)).hi.n = a1) (h2 : lowN2 (1000 * (solvedW F (allL F)).hi.d) (solvedW F (allL F)).hi.n = a2)
    (h3 : lowN1 (1000 * (solvedW F (allL F)).lo.d) (solvedW F (allL F)).lo.n = b1) (h4 : lowN2 (1000 * (solvedW F (allL F)).lo.d) (solvedW F (allL F)).lo.n = b2) : Calls Tryz.prog 32 #[flV F vv vs] w fun e w' => e = .returned (.tuple #[.agg #[.int .i64 a1, .int .i64 a2], .agg #[.int .i64 b1, .int .i64 b2], .int .i64 0]) ∧ Below w.heap.size w w' := by
  have h := Bounds_any F vv vs w hF
  have e : rdE F true = 0 := by unfold rdE; rw [if_pos ho, if_pos rfl, if_pos hc]
  unfold boV at h
  rw [if_pos e, knR_eq hc] at h
  subst h1 h2 h3 h4
  exact h
/-- The bounds' numbers, where a case is possible. -/
theorem bounds_bd {F : Fl} (h : OkF F) (hc : canI F (allL F) = true) : (1 ≤ lowN2 (1000 * (solvedW F (allL F)).hi.d) (solvedW F (allL F)).hi.n ∧ lowN2 (1000 * (solvedW F (allL F)).hi.d) (solvedW F (allL F)).hi.n ≤ 480000000000) ∧ (1 ≤ lowN2 (1000 * (solvedW F (allL F)).lo.d) (solvedW F (allL F)).lo.n ∧ lowN2 (1000 * (solvedW F (allL F)).lo.d) (solvedW F (allL F)).lo.n ≤ 480000000000) := by
  have b := knR_B h
  rw [knR_eq hc] at b
  have h1 := lowN_bd (n := 1000 * (solvedW F (allL F)).hi.d) (d := (solvedW F (allL F)).hi.n) (by have := b.d0; omega) b.c0
  have h2 := lowN_bd (n := 1000 * (solvedW F (allL F)).lo.d) (d := (solvedW F (allL F)).lo.n) (by have := b.b0; omega) b.a0
  have := b.c1
  have := b.a1
  omega
set_option maxRecDepth 100000 in
set_option maxHeartbeats 4000000 in
theorem law_narrow (F : Fl) (vv vs : Value) (n : Int) (w : World) (hF : FlIn w F vv vs) (n1 : -9223372036854775808 ≤ n) (n2 : n ≤ 9223372036854775807) : Calls Tryz.prog 7 #[flV F vv vs, .int .i64 n] w fun e w' => e = .returned (.bool true) ∧ Below w.heap.size w w' := by
  obtain ⟨os, cs, rfl, ms⟩ := hF.s.parts
  obtain ⟨ov, cv, rfl, mv⟩ := hF.v.parts
  obtain ⟨sl, hsl⟩ : ∃ k, F.s.length = k := ⟨_, rfl⟩
  obtain ⟨vl, hvl⟩ : ∃ k, F.v.length = k := ⟨_, rfl⟩
  rw [hsl] at hF ms ⊢
  rw [hvl] at hF mv ⊢
  have HSL := Lib.hid hsl
  have HVL := Lib.hid hvl
  clear hsl hvl
  have HF := Lib.hid (hF.alloc (flO F (.slice ov vl cv) (.slice os sl cs)))
  have BP := Lib.hid (Bk.new w 30 (flL F (.slice ov vl cv) (.slice os sl cs)))
  clear hF
  go_enter Tryz.func7, Tryz.ntmps7
  go_wp2_with fail
  refine (sane_any _).mono ?_
  rintro e w1 ⟨rfl, hb⟩
  have HF1 := Lib.hid (HF.out.below hb)
  have BP1 := Lib.hid (BP.out.below hb)
  have HB1 := Lib.hid (bafter hb)
  clear hb HF BP
  go_wp2_with (first | (refine ld_at rfl (T := 30) rfl rfl BP1.out Tryz.underlying30 rfl (by kernel_rfl) ?_) | fail)
  by_cases hok : okFl F = true
  · have hO := (okFl_iff F).1 hok
    refine (Check_c F _ _ 0 w1 HF1.out (by unfold chkF; rw [if_pos hok])).mono ?_
    rintro e w2 ⟨rfl, hb⟩
    have HF2 := Lib.hid (HF1.out.below hb)
    have BP2 := Lib.hid (BP1.out.below hb)
    have HB2 := Lib.hid (bthen HB1.out hb)
    clear hb HF1 BP1 HB1
    have c3 := BP2.out.cell 3
    have c4 := BP2.out.cell 4
    simp only [List.getElem?_cons_zero, List.getElem?_cons_succ] at c3 c4
    by_cases h1 : n < F.wlo
    · go_wp2_with fail
      go_ret
      exact ⟨rfl, HB2.out⟩
    · by_cases h2 : n > F.whi
      · go_wp2_with fail
        go_ret
        exact ⟨rfl, HB2.out⟩
      · have hw1 : F.wlo ≤ n := by omega
        have hw2 : n ≤ F.whi := by omega
        have n0 : 0 < n := by have := hO.w1; omega
        have n4 : n ≤ 4000 := by have := hO.w3; omega
        have hG := okF_nar hO hw1 hw2
        have hGo := (okFl_iff _).2 hG
        have hall : allL (narF F n) = allL F := rfl
        have hmem : -2 ∈ allL F := by exact allI_mem.2 (by omega)
        have hnar := nar_can hO hw1 hw2 (fun i hi => (allL_ok F i hi).2) hmem
        go_wp2_with (first | (refine ld_at rfl (T := 30) rfl rfl BP2.out Tryz.underlying30 rfl (by kernel_rfl) ?_) | fail)
        cases hc : canI F (allL F) with
        | false =>
          have hn2 : canI (narF F n) (allL (narF F n)) = false := by
            cases hx : canI (narF F n) (allL F) with
            | false => rw [hall]; exact hx
            | true =>
              have := has_can hO (fun i hi => (allL_ok F i hi).2) n0 (hnar.1 hx)
              rw [hc] at this
              cases this
          refine (Bounds_no F _ _ w2 HF2.out hok hc).mono ?_
          rintro e w3 ⟨rfl, hb⟩
          have HF3 := Lib.hid (HF2.out.below hb)
          have BP3 := Lib.hid (BP2.out.below hb)
          have HB3 := Lib.hid (bthen HB2.out hb)
          have HGO := Lib.hid hGo
          have HN2 := Lib.hid hn2
          clear hb HF2 BP2 HB2 c3 c4 hO hG hGo hall hmem hnar hn2 hc hok
          have y0 := BP3.out.cell 0
          have y1 := BP3.out.cell 1
          have y2 := BP3.out.cell 2
          have y3 := BP3.out.cell 3
          have y4 := BP3.out.cell 4
          have y5 := BP3.out.cell 5
          have yl := BP3.out.lt
          simp only [List.getElem?_cons_zero, List.getElem?_cons_succ] at y0 y1 y2 y3 y4 y5
          go_wp2_with fail
          have hF4 : FlIn _ (narF F n) (.slice ov vl cv) (.slice os sl cs) := FlIn.mk ((((HF3.out.v.alloc raO).alloc raO).alloc (Obj.cells #[.slice ov vl cv, .int .i64 F.f.lv, .int .i64 F.f.er, .int .i64 n, .int .i64 n, .slice os sl cs] 30))) ((((HF3.out.s.alloc raO).alloc raO).alloc (Obj.cells #[.slice ov vl cv, .int .i64 F.f.lv, .int .i64 F.f.er, .int .i64 n, .int .i64 n, .slice os sl cs] 30)))
          refine (Possible_c (narF F n) _ _ false _ hF4 HGO.out HN2.out).mono ?_
          rintro e w4 ⟨rfl, hb⟩
          have HB4 := Lib.hid (HB3.out.trans ((bafter (bafter (bafter hb))).mono HB3.out.size))
          clear hb hF4 HF3 BP3 HB3 y0 y1 y2 y3 y4 y5 yl
          go_wp2_with fail
          go_ret
          exact ⟨rfl, HB4.out⟩
        | true =>
          have hbd := bounds_bd hO hc
          have hB := knR_B hO
          rw [knR_eq hc] at hB
          have k1 := (low_le (n := 1000 * (solvedW F (allL F)).hi.d) (d := (solvedW F (allL F)).hi.n) (N := n) (D := 1) (by have := hB.d0; omega) hB.c0 (by decide)).1
          have k2 := (low_le (n := 1000 * (solvedW F (allL F)).lo.d) (d := (solvedW F (allL F)).lo.n) (N := n) (D := 1) (by have := hB.b0; omega) hB.a0 (by decide)).2
          have hkey := hnar.trans (wear_in hc)
          rw [Int.mul_one] at k1 k2
          obtain ⟨a1, ha1⟩ : ∃ x, lowN1 (1000 * (solvedW F (allL F)).hi.d) (solvedW F (allL F)).hi.n = x := ⟨_, rfl⟩
          obtain ⟨a2, ha2⟩ : ∃ x, lowN2 (1000 * (solvedW F (allL F)).hi.d) (solvedW F (allL F)).hi.n = x := ⟨_, rfl⟩
          obtain ⟨b1, hb1⟩ : ∃ x, lowN1 (1000 * (solvedW F (allL F)).lo.d) (solvedW F (allL F)).lo.n = x := ⟨_, rfl⟩
          obtain ⟨b2, hb2⟩ : ∃ x, lowN2 (1000 * (solvedW F (allL F)).lo.d) (solvedW F (allL F)).lo.n = x := ⟨_, rfl⟩
          have hBo := Bounds_yes F _ _ w2 a1 a2 b1 b2 HF2.out hok hc ha1 ha2 hb1 hb2
          rw [ha2, hb2] at hbd
          rw [ha1, ha2, Int.mul_one] at k1
          rw [hb1, hb2, Int.mul_one] at k2
          rw [← k1, ← k2] at hkey
          have m1 := mul_bd (Int.le_of_lt n0) n4 (by omega : 0 ≤ a2) hbd.1.2
          have m2 := mul_bd (Int.le_of_lt n0) n4 (by omega : 0 ≤ b2) hbd.2.2
          obtain ⟨p1, hp1⟩ : ∃ x, n * a2 = x := ⟨_, rfl⟩
          obtain ⟨p2, hp2⟩ : ∃ x, n * b2 = x := ⟨_, rfl⟩
          rw [hp1] at hkey m1
          rw [hp2] at hkey m2
          have q1 : 1 ≤ a2 := hbd.1.1
          have q2 : a2 ≤ 480000000000 := hbd.1.2
          have q3 : 1 ≤ b2 := hbd.2.1
          have q4 : b2 ≤ 480000000000 := hbd.2.2
          have HGO := Lib.hid hGo
          have HKEY := Lib.hid hkey
          have HALL := Lib.hid hall
          refine hBo.mono ?_
          rintro e w3 ⟨rfl, hb⟩
          have HF3 := Lib.hid (HF2.out.below hb)
          have BP3 := Lib.hid (BP2.out.below hb)
          have HB3 := Lib.hid (bthen HB2.out hb)
          clear hb HF2 BP2 HB2 c3 c4 hO hG hGo hall hmem hnar hc hok hBo ha1 ha2 hb1 hb2 hbd hB k1 k2 hkey
          have y0 := BP3.out.cell 0
          have y1 := BP3.out.cell 1
          have y2 := BP3.out.cell 2
          have y3 := BP3.out.cell 3
          have y4 := BP3.out.cell 4
          have y5 := BP3.out.cell 5
          have yl := BP3.out.lt
          simp only [List.getElem?_cons_zero, List.getElem?_cons_succ] at y0 y1 y2 y3 y4 y5
          go_wp2_with fail
          have hF4 : FlIn _ (narF F n) (.slice ov vl cv) (.slice os sl cs) := FlIn.mk ((((HF3.out.v.alloc (Obj.cells #[.int .i64 a1, .int .i64 a2] 41)).alloc (Obj.cells #[.int .i64 b1, .int .i64 b2] 41)).alloc (Obj.cells #[.slice ov vl cv, .int .i64 F.f.lv, .int .i64 F.f.er, .int .i64 n, .int .i64 n, .slice os sl cs] 30))) ((((HF3.out.s.alloc (Obj.cells #[.int .i64 a1, .int .i64 a2] 41)).alloc (Obj.cells #[.int .i64 b1, .int .i64 b2] 41)).alloc (Obj.cells #[.slice ov vl cv, .int .i64 F.f.lv, .int .i64 F.f.er, .int .i64 n, .int .i64 n, .slice os sl cs] 30)))
          have hR1 := ((Bk.new w3 41 [.int .i64 a1, .int .i64 a2]).alloc (Obj.cells #[.int .i64 b1, .int .i64 b2] 41)).alloc (Obj.cells #[.slice ov vl cv, .int .i64 F.f.lv, .int .i64 F.f.er, .int .i64 n, .int .i64 n, .slice os sl cs] 30)
          have hR2 := (Bk.new1 w3 (Obj.cells #[.int .i64 a1, .int .i64 a2] 41) 41 [.int .i64 b1, .int .i64 b2]).alloc (Obj.cells #[.slice ov vl cv, .int .i64 F.f.lv, .int .i64 F.f.er, .int .i64 n, .int .i64 n, .slice os sl cs] 30)
          have HR1 := Lib.hid hR1
          have HR2 := Lib.hid hR2
          obtain ⟨b, hbb⟩ : ∃ b, canI (narF F n) (allL F) = b := ⟨_, rfl⟩
          refine (Possible_c (narF F n) _ _ b _ hF4 HGO.out (by rw [HALL.out]; exact hbb)).mono ?_
          rintro e w4 ⟨rfl, hb⟩
          have HB4 := Lib.hid (HB3.out.trans ((bafter (bafter (bafter hb))).mono HB3.out.size))
          have S1 := HR1.out.below hb
          have S2 := HR2.out.below hb
          have r1 := S1.cell 0
          have r2 := S1.cell 1
          have r3 := S2.cell 0
          have r4 := S2.cell 1
          simp only [List.getElem?_cons_zero, List.getElem?_cons_succ] at r1 r2 r3 r4
          have hkey := HKEY.out
          rw [hbb] at hkey
          have HP1 := Lib.hid hp1
          have HP2 := Lib.hid hp2
          have o1 : -9223372036854775808 ≤ n * a2 := by rw [hp1]; omega
          have o2 : n * a2 ≤ 9223372036854775807 := by rw [hp1]; omega
          have o3 : -9223372036854775808 ≤ n * b2 := by rw [hp2]; omega
          have o4 : n * b2 ≤ 9223372036854775807 := by rw [hp2]; omega
          rw [← hp1, ← hp2] at hkey
          clear hb hF4 HF3 BP3 HB3 y0 y1 y2 y3 y4 y5 yl hR1 hR2 HR1 HR2 S1 S2 hbb HKEY HALL hp1 hp2 m1 m2
          have HK := Lib.hid hkey
          clear hkey
          go_wp2_with fail
          all_goals
            go_ret
            refine ⟨ret_bool ?_, HB4.out⟩
            have hk := HK.out
            clear HK
            cases b <;> simp at hk ⊢ <;> omega
  · refine (Check_c F _ _ 30 w1 HF1.out (by unfold chkF; rw [if_neg hok])).mono ?_
    rintro e w2 ⟨rfl, hb⟩
    have HB2 := Lib.hid (bthen HB1.out hb)
    clear hb HF1 BP1 HB1
    go_wp2_with fail
    go_ret
    exact ⟨rfl, HB2.out⟩
end Go.Proofs.YtnfndiafabhhdaaGreat
