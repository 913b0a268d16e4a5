/- With Wear narrowed to a wear within Bounds a case is possible, with one outside none is (WearNarrow): the walk. -/
import Derived.Test.YtnfndiafabhhdaaGreatF3
import Derived.Test.YtnfndiafabhhdaaGreatA5
import Derived.Test.YtnfndiafabhhdaaGreatF1
import Derived.Test.YtnfndiafabhhdaaGreatD1
import Derived.Test.YtnfndiafabhhdaaGreatF2
import Derived.Test.YtnfndiafabhhdaaGreatA4
import Derived.Test.YtnfndiafabhhdaaGreatB8
namespace Go.Proofs.YtnfndiafabhhdaaGreat
open Go.ChangeShapes Go.WideShapes Go.ChangeAt Go.RowKit
theorem Check_c (F : Fl) (vv vs : Value) (c : Int) (w : World) (hF : FlIn w F vv vs) (hc : chkF F = c) : Calls Tryz.prog 37 #[flV F vv vs] w fun e w' => e = .returned (.int .i64 c) ∧ Below w.heap.size w w' := by
  rw [← hc]; exact Check_any F vv vs w hF
theorem Possible_c (F : Fl) (vv vs : Value) (b : Bool) (w : World) (hF : FlIn w F vv vs) (ho : okFl F = true) (hc : canI F (allL F) = b) : Calls Tryz.prog 35 #[flV F vv vs] w fun e w' => e = .returned (.tuple #[.bool b, .int .i64 0]) ∧ Below w.heap.size w w' := by
  have := Possible_any F vv vs w hF
  rw [ho, hc, Bool.true_and] at this
  unfold chkF at this
  rwa [if_pos ho] at this
theorem Bounds_no (F : Fl) (vv vs : Value) (w : World) (hF : FlIn w F vv vs) (ho : okFl F = true) (hc : canI F (allL F) = false) : Calls Tryz.prog 32 #[flV F vv vs] w fun e w' => e = .returned (.tuple #[raZ, raZ, .int .i64 31]) ∧ Below w.heap.size w w' := by
  have h := Bounds_any F vv vs w hF
  have e : rdE F true = 31 := by unfold rdE; rw [if_pos ho, if_pos rfl, if_neg (by rw [hc]; decide)]
  unfold boV at h
  rwa [if_neg (by rw [e]; decide), e] at h
theorem Bounds_yes (F : Fl) (vv vs : Value) (w : World) (a1 a2 b1 b2 : Int) (hF : FlIn w F vv vs) (ho : okFl F = true) (hc : canI F (allL F) = true) (h1 : lowN1 (1000 * (solvedW F (allL F)).hi.d) (solvedW F (allL F)).hi.n = a1) (h2 : lowN2 (1000 * (solvedW F (allL F)).hi.d) (solvedW F (allL F)).hi.n = a2)
    (h3 : lowN1 (1000 * (solvedW F (allL F)).lo.d) (solvedW F (allL F)).lo.n = b1) (h4 : lowN2 (1000 * (solvedW F (allL F)).lo.d) (solvedW F (allL F)).lo.n = b2) : Calls Tryz.prog 32 #[flV F vv vs] w fun e w' => e = .returned (.tuple #[.agg #[.int .i64 a1, .int .i64 a2], .agg #[.int .i64 b1, .int .i64 b2], .int .i64 0]) ∧ Below w.heap.size w w' := by
  have h := Bounds_any F vv vs w hF
  have e : rdE F true = 0 := by unfold rdE; rw [if_pos ho, if_pos rfl, if_pos hc]
  unfold boV at h
  rw [if_pos e, knR_eq hc] at h
  subst h1 h2 h3 h4
  exact h
theorem bounds_bd {F : Fl} (h : OkF F) (hc : canI F (allL F) = true) : (1 ≤ lowN2 (1000 * (solvedW F (allL F)).hi.d) (solvedW F (allL F)).hi.n ∧ lowN2 (1000 * (solvedW F (allL F)).hi.d) (solvedW F (allL F)).hi.n ≤ 480000000000) ∧ (1 ≤ lowN2 (1000 * (solvedW F (allL F)).lo.d) (solvedW F (allL F)).lo.n ∧ lowN2 (1000 * (solvedW F (allL F)).lo.d) (solvedW F (allL F)).lo.n ≤ 480000000000) := by
  have b := knR_B h
  rw [knR_eq hc] at b
  have h1 := lowN_bd (n := 1000 * (solvedW F (allL F)).hi.d) (d := (solvedW F (allL F)).hi.n) (by have := b.d0; omega) b.c0
  have h2 := lowN_bd (n := 1000 * (solvedW F (allL F)).lo.d) (d := (solvedW F (allL F)).lo.n) (by have := b.b0; omega) b.a0
  have := b.c1
  have := b.a1
  omega
set_option maxRecDepth 100000 in
set_option maxHeartbeats 4000000 in
theorem law_narrow (F : Fl) (vv vs : Value) (n : Int) (w : World) (hF : FlIn w F vv vs) (n1 : -9223372036854775808 ≤ n) (n2 : n ≤ 9223372036854775807) : Calls Tryz.prog 7 #[flV F vv vs, .int .i64 n] w fun e w' => e = .returned (.bool true) ∧ Below w.heap.size w w' := by
  obtain ⟨os, cs, rfl, ms⟩ := hF.s.parts
  obtain ⟨ov, cv, rfl, mv⟩ := hF.v.parts
  obtain ⟨sl, hsl⟩ : ∃ k, F.s.length = k := ⟨_, rfl⟩
  obtain ⟨vl, hvl⟩ : ∃ k, F.v.length = k := ⟨_, rfl⟩
  rw [hsl] at hF ms ⊢
  rw [hvl] at hF mv ⊢
  have HSL := Lib.hid hsl
  have HVL := Lib.hid hvl
  clear hsl hvl
  have HF := Lib.hid (hF.alloc (flO F (.slice ov vl cv) (.slice os sl cs)))
  have BP := Lib.hid (Bk.new w 30 (flL F (.slice ov vl cv) (.slice os sl cs)))
  clear hF
  go_enter Tryz.func7, Tryz.ntmps7
  go_wp2_with fail
  refine (sane_any _).mono ?_
  rintro e w1 ⟨rfl, hb⟩
  have HF1 := Lib.hid (HF.out.below hb)
  have BP1 := Lib.hid (BP.out.below hb)
  have HB1 := Lib.hid (bafter hb)
  clear hb HF BP
  go_wp2_with (first | (refine ld_at rfl (T := 30) rfl rfl BP1.out Tryz.underlying30 rfl (by kernel_rfl) ?_) | fail)
  by_cases hok : okFl F = true
  · have hO := (okFl_iff F).1 hok
    refine (Check_c F _ _ 0 w1 HF1.out (by unfold chkF; rw [if_pos hok])).mono ?_
    rintro e w2 ⟨rfl, hb⟩
    have HF2 := Lib.hid (HF1.out.below hb)
    have BP2 := Lib.hid (BP1.out.below hb)
    have HB2 := Lib.hid (bthen HB1.out hb)
    clear hb HF1 BP1 HB1
    have c3 := BP2.out.cell 3
    have c4 := BP2.out.cell 4
    simp only [List.getElem?_cons_zero, List.getElem?_cons_succ] at c3 c4
    by_cases h1 : n < F.wlo
    · go_wp2_with fail
      go_ret
      exact ⟨rfl, HB2.out⟩
    · by_cases h2 : n > F.whi
      · go_wp2_with fail
        go_ret
        exact ⟨rfl, HB2.out⟩
      · have hw1 : F.wlo ≤ n := by omega
        have hw2 : n ≤ F.whi := by omega
        have n0 : 0 < n := by have := hO.w1; omega
        have n4 : n ≤ 4000 := by have := hO.w3; omega
        have hG := okF_nar hO hw1 hw2
        have hGo := (okFl_iff _).2 hG
        have hall : allL (narF F n) = allL F := rfl
        have hmem : -2 ∈ allL F := by exact allI_mem.2 (by omega)
        have hnar := nar_can hO hw1 hw2 (fun i hi => (allL_ok F i hi).2) hmem
        go_wp2_with (first | (refine ld_at rfl (T := 30) rfl rfl BP2.out Tryz.underlying30 rfl (by kernel_rfl) ?_) | fail)
        cases hc : canI F (allL F) with
        | false =>
          have hn2 : canI (narF F n) (allL (narF F n)) = false := by
            cases hx : canI (narF F n) (allL F) with
            | false => rw [hall]; exact hx
            | true =>
              have := has_can hO (fun i hi => (allL_ok F i hi).2) n0 (hnar.1 hx)
              rw [hc] at this
              cases this
          refine (Bounds_no F _ _ w2 HF2.out hok hc).mono ?_
          rintro e w3 ⟨rfl, hb⟩
          have HF3 := Lib.hid (HF2.out.below hb)
          have BP3 := Lib.hid (BP2.out.below hb)
          have HB3 := Lib.hid (bthen HB2.out hb)
          have HGO := Lib.hid hGo
          have HN2 := Lib.hid hn2
          clear hb HF2 BP2 HB2 c3 c4 hO hG hGo hall hmem hnar hn2 hc hok
          have y0 := BP3.out.cell 0
          have y1 := BP3.out.cell 1
          have y2 := BP3.out.cell 2
          have y3 := BP3.out.cell 3
          have y4 := BP3.out.cell 4
          have y5 := BP3.out.cell 5
          have yl := BP3.out.lt
          simp only [List.getElem?_cons_zero, List.getElem?_cons_succ] at y0 y1 y2 y3 y4 y5
          go_wp2_with fail
          have hF4 : FlIn _ (narF F n) (.slice ov vl cv) (.slice os sl cs) := FlIn.mk ((((HF3.out.v.alloc raO).alloc raO).alloc (Obj.cells #[.slice ov vl cv, .int .i64 F.f.lv, .int .i64 F.f.er, .int .i64 n, .int .i64 n, .slice os sl cs] 30))) ((((HF3.out.s.alloc raO).alloc raO).alloc (Obj.cells #[.slice ov vl cv, .int .i64 F.f.lv, .int .i64 F.f.er, .int .i64 n, .int .i64 n, .slice os sl cs] 30)))
          refine (Possible_c (narF F n) _ _ false _ hF4 HGO.out HN2.out).mono ?_
          rintro e w4 ⟨rfl, hb⟩
          have HB4 := Lib.hid (HB3.out.trans ((bafter (bafter (bafter hb))).mono HB3.out.size))
          clear hb hF4 HF3 BP3 HB3 y0 y1 y2 y3 y4 y5 yl
          go_wp2_with fail
          go_ret
          exact ⟨rfl, HB4.out⟩
        | true =>
          have hbd := bounds_bd hO hc
          have hB := knR_B hO
          rw [knR_eq hc] at hB
          have k1 := (low_le (n := 1000 * (solvedW F (allL F)).hi.d) (d := (solvedW F (allL F)).hi.n) (N := n) (D := 1) (by have := hB.d0; omega) hB.c0 (by decide)).1
          have k2 := (low_le (n := 1000 * (solvedW F (allL F)).lo.d) (d := (solvedW F (allL F)).lo.n) (N := n) (D := 1) (by have := hB.b0; omega) hB.a0 (by decide)).2
          have hkey := hnar.trans (wear_in hc)
          rw [Int.mul_one] at k1 k2
          obtain ⟨a1, ha1⟩ : ∃ x, lowN1 (1000 * (solvedW F (allL F)).hi.d) (solvedW F (allL F)).hi.n = x := ⟨_, rfl⟩
          obtain ⟨a2, ha2⟩ : ∃ x, lowN2 (1000 * (solvedW F (allL F)).hi.d) (solvedW F (allL F)).hi.n = x := ⟨_, rfl⟩
          obtain ⟨b1, hb1⟩ : ∃ x, lowN1 (1000 * (solvedW F (allL F)).lo.d) (solvedW F (allL F)).lo.n = x := ⟨_, rfl⟩
          obtain ⟨b2, hb2⟩ : ∃ x, lowN2 (1000 * (solvedW F (allL F)).lo.d) (solvedW F (allL F)).lo.n = x := ⟨_, rfl⟩
          have hBo := Bounds_yes F _ _ w2 a1 a2 b1 b2 HF2.out hok hc ha1 ha2 hb1 hb2
          rw [ha2, hb2] at hbd
          rw [ha1, ha2, Int.mul_one] at k1
          rw [hb1, hb2, Int.mul_one] at k2
          rw [← k1, ← k2] at hkey
          have m1 := mul_bd (Int.le_of_lt n0) n4 (by omega : 0 ≤ a2) hbd.1.2
          have m2 := mul_bd (Int.le_of_lt n0) n4 (by omega : 0 ≤ b2) hbd.2.2
          obtain ⟨p1, hp1⟩ : ∃ x, n * a2 = x := ⟨_, rfl⟩
          obtain ⟨p2, hp2⟩ : ∃ x, n * b2 = x := ⟨_, rfl⟩
          rw [hp1] at hkey m1
          rw [hp2] at hkey m2
          have q1 : 1 ≤ a2 := hbd.1.1
          have q2 : a2 ≤ 480000000000 := hbd.1.2
          have q3 : 1 ≤ b2 := hbd.2.1
          have q4 : b2 ≤ 480000000000 := hbd.2.2
          have HGO := Lib.hid hGo
          have HKEY := Lib.hid hkey
          have HALL := Lib.hid hall
          refine hBo.mono ?_
          rintro e w3 ⟨rfl, hb⟩
          have HF3 := Lib.hid (HF2.out.below hb)
          have BP3 := Lib.hid (BP2.out.below hb)
          have HB3 := Lib.hid (bthen HB2.out hb)
          clear hb HF2 BP2 HB2 c3 c4 hO hG hGo hall hmem hnar hc hok hBo ha1 ha2 hb1 hb2 hbd hB k1 k2 hkey
          have y0 := BP3.out.cell 0
          have y1 := BP3.out.cell 1
          have y2 := BP3.out.cell 2
          have y3 := BP3.out.cell 3
          have y4 := BP3.out.cell 4
          have y5 := BP3.out.cell 5
          have yl := BP3.out.lt
          simp only [List.getElem?_cons_zero, List.getElem?_cons_succ] at y0 y1 y2 y3 y4 y5
          go_wp2_with fail
          have hF4 : FlIn _ (narF F n) (.slice ov vl cv) (.slice os sl cs) := FlIn.mk ((((HF3.out.v.alloc (Obj.cells #[.int .i64 a1, .int .i64 a2] 41)).alloc (Obj.cells #[.int .i64 b1, .int .i64 b2] 41)).alloc (Obj.cells #[.slice ov vl cv, .int .i64 F.f.lv, .int .i64 F.f.er, .int .i64 n, .int .i64 n, .slice os sl cs] 30))) ((((HF3.out.s.alloc (Obj.cells #[.int .i64 a1, .int .i64 a2] 41)).alloc (Obj.cells #[.int .i64 b1, .int .i64 b2] 41)).alloc (Obj.cells #[.slice ov vl cv, .int .i64 F.f.lv, .int .i64 F.f.er, .int .i64 n, .int .i64 n, .slice os sl cs] 30)))
          have hR1 := ((Bk.new w3 41 [.int .i64 a1, .int .i64 a2]).alloc (Obj.cells #[.int .i64 b1, .int .i64 b2] 41)).alloc (Obj.cells #[.slice ov vl cv, .int .i64 F.f.lv, .int .i64 F.f.er, .int .i64 n, .int .i64 n, .slice os sl cs] 30)
          have hR2 := (Bk.new1 w3 (Obj.cells #[.int .i64 a1, .int .i64 a2] 41) 41 [.int .i64 b1, .int .i64 b2]).alloc (Obj.cells #[.slice ov vl cv, .int .i64 F.f.lv, .int .i64 F.f.er, .int .i64 n, .int .i64 n, .slice os sl cs] 30)
          have HR1 := Lib.hid hR1
          have HR2 := Lib.hid hR2
          obtain ⟨b, hbb⟩ : ∃ b, canI (narF F n) (allL F) = b := ⟨_, rfl⟩
          refine (Possible_c (narF F n) _ _ b _ hF4 HGO.out (by rw [HALL.out]; exact hbb)).mono ?_
          rintro e w4 ⟨rfl, hb⟩
          have HB4 := Lib.hid (HB3.out.trans ((bafter (bafter (bafter hb))).mono HB3.out.size))
          have S1 := HR1.out.below hb
          have S2 := HR2.out.below hb
          have r1 := S1.cell 0
          have r2 := S1.cell 1
          have r3 := S2.cell 0
          have r4 := S2.cell 1
          simp only [List.getElem?_cons_zero, List.getElem?_cons_succ] at r1 r2 r3 r4
          have hkey := HKEY.out
          rw [hbb] at hkey
          have HP1 := Lib.hid hp1
          have HP2 := Lib.hid hp2
          have o1 : -9223372036854775808 ≤ n * a2 := by rw [hp1]; omega
          have o2 : n * a2 ≤ 9223372036854775807 := by rw [hp1]; omega
          have o3 : -9223372036854775808 ≤ n * b2 := by rw [hp2]; omega
          have o4 : n * b2 ≤ 9223372036854775807 := by rw [hp2]; omega
          rw [← hp1, ← hp2] at hkey
          clear hb hF4 HF3 BP3 HB3 y0 y1 y2 y3 y4 y5 yl hR1 hR2 HR1 HR2 S1 S2 hbb HKEY HALL hp1 hp2 m1 m2
          have HK := Lib.hid hkey
          clear hkey
          go_wp2_with fail
          all_goals
            go_ret
            refine ⟨ret_bool ?_, HB4.out⟩
            have hk := HK.out
            clear HK
            cases b <;> simp at hk ⊢ <;> omega
  · refine (Check_c F _ _ 30 w1 HF1.out (by unfold chkF; rw [if_neg hok])).mono ?_
    rintro e w2 ⟨rfl, hb⟩
    have HB2 := Lib.hid (bthen HB1.out hb)
    clear hb HF1 BP1 HB1
    go_wp2_with fail
    go_ret
    exact ⟨rfl, HB2.out⟩
theorem rdE_0 {F : Fl} {R : Bool} (ho : okFl F = true) (hR : R = true) (hc : canI F (allL F) = true) : rdE F R = 0 := by
  unfold rdE; rw [if_pos ho, if_pos hR, if_pos hc]
theorem rdE_31 {F : Fl} {R : Bool} (ho : okFl F = true) (hR : R = true) (hc : canI F (allL F) = false) : rdE F R = 31 := by
  unfold rdE; rw [if_pos ho, if_pos hR, if_neg (by rw [hc]; decide)]
theorem rdE_1 {F : Fl} {R : Bool} (ho : okFl F = true) (hR : R = false) : rdE F R = 1 := by
  unfold rdE; rw [if_pos ho, if_neg (by rw [hR]; decide)]
theorem inB_tt {n lo hi : Int} (a : lo ≤ n) (b : n ≤ hi) : inB n lo hi = true := by simp [inB, a, b]
theorem fun_un {F : Fl} (hc : canI F (allL F) = true) (x : Int) : (fun n => decide (0 < n) && unB F x n) = fun n => decide (0 < n) && unM F (allL F) x n := funext fun n => by rw [unB_eq hc]
theorem fun_ov {F : Fl} (hc : canI F (allL F) = true) (x : Int) : (fun n => ovB F x n) = fun n => ovM F (allL F) x n := funext fun n => ovB_eq hc x n
theorem fun_un2 {F : Fl} (hc : canI F (allL F) = true) (m : Int) : (fun n => decide (0 < n) && unB F n m) = fun n => decide (0 < n) && unM F (allL F) n m := funext fun n => by rw [unB_eq hc]
theorem fun_ov2 {F : Fl} (hc : canI F (allL F) = true) (m : Int) : (fun n => ovB F n m) = fun n => ovM F (allL F) n m := funext fun n => ovB_eq hc n m
theorem Reached_yes (F : Fl) (vv vs : Value) (x a b : Int) (w : World) (hF : FlIn w F vv vs) (ho : okFl F = true) (hc : canI F (allL F) = true) (x0 : 0 ≤ x) (xn : x ≤ hgt F.v) (ha : rcLo F (allL F) x = a) (hb : rcHi F (allL F) x = b) :
    Calls Tryz.prog 20 #[flV F vv vs, .int .i64 x] w fun e w' => e = .returned (.tuple #[.agg #[.int .i64 a, .int .i64 b], .int .i64 0]) ∧ Below w.heap.size w w' := by
  have h := Reached_any F vv vs x w hF
  unfold reV rcS at h
  rw [if_pos (rdE_0 ho (inB_tt x0 xn) hc), fun_un hc, fun_ov hc] at h
  subst ha hb
  exact h
theorem Reached_no (F : Fl) (vv vs : Value) (x c : Int) (w : World) (hF : FlIn w F vv vs) (hc : rdE F (inB x 0 (hgt F.v)) = c) (c0 : c ≠ 0) :
    Calls Tryz.prog 20 #[flV F vv vs, .int .i64 x] w fun e w' => e = .returned (.tuple #[raZ, .int .i64 c]) ∧ Below w.heap.size w w' := by
  have h := Reached_any F vv vs x w hF
  unfold reV at h
  rwa [hc, if_neg c0] at h
theorem Level_yes (F : Fl) (vv vs : Value) (m a b : Int) (w : World) (hF : FlIn w F vv vs) (ho : okFl F = true) (hc : canI F (allL F) = true) (m0 : 0 ≤ m) (mn : m ≤ 2097152) (ha : lvLo F (allL F) m = a) (hb : lvHi F (allL F) m = b) :
    Calls Tryz.prog 22 #[flV F vv vs, .int .i64 m] w fun e w' => e = .returned (.tuple #[.agg #[.int .i64 a, .int .i64 b], .int .i64 0]) ∧ Below w.heap.size w w' := by
  have h := Level_any F vv vs m w hF
  unfold leV lvS at h
  rw [if_pos (rdE_0 ho (inB_tt m0 mn) hc), fun_un2 hc, fun_ov2 hc] at h
  subst ha hb
  exact h
theorem Level_no (F : Fl) (vv vs : Value) (m c : Int) (w : World) (hF : FlIn w F vv vs) (hc : rdE F (inB m 0 2097152) = c) (c0 : c ≠ 0) :
    Calls Tryz.prog 22 #[flV F vv vs, .int .i64 m] w fun e w' => e = .returned (.tuple #[raZ, .int .i64 c]) ∧ Below w.heap.size w w' := by
  have h := Level_any F vv vs m w hF
  unfold leV at h
  rwa [hc, if_neg c0] at h
theorem asR_t {F : Fl} {x m : Int} (x0 : 0 ≤ x) (xn : x ≤ hgt F.v) (m0 : 0 ≤ m) (mn : m ≤ 2097152) : asR F x m = true := by unfold asR; rw [inB_tt x0 xn, inB_tt m0 mn]; rfl
theorem Surely_yes (F : Fl) (vv vs : Value) (x m : Int) (s : Bool) (w : World) (hF : FlIn w F vv vs) (ho : okFl F = true) (hc : canI F (allL F) = true) (x0 : 0 ≤ x) (xn : x ≤ hgt F.v) (m0 : 0 ≤ m) (mn : m ≤ 2097152) (hs : (!ovM F (allL F) x m) = s) :
    Calls Tryz.prog 28 #[flV F vv vs, .int .i64 x, .int .i64 m] w fun e w' => e = .returned (.tuple #[.bool s, .int .i64 0]) ∧ Below w.heap.size w w' := by
  have h := Surely_any F vv vs x m w hF
  unfold suV at h
  rw [if_pos (rdE_0 ho (asR_t x0 xn m0 mn) hc), ovB_eq hc, hs] at h
  exact h
theorem Ever_yes (F : Fl) (vv vs : Value) (x m : Int) (s : Bool) (w : World) (hF : FlIn w F vv vs) (ho : okFl F = true) (hc : canI F (allL F) = true) (x0 : 0 ≤ x) (xn : x ≤ hgt F.v) (m0 : 0 ≤ m) (mn : m ≤ 2097152) (hs : evM F (allL F) x m = s) :
    Calls Tryz.prog 30 #[flV F vv vs, .int .i64 x, .int .i64 m] w fun e w' => e = .returned (.tuple #[.bool s, .int .i64 0]) ∧ Below w.heap.size w w' := by
  have h := Ever_any F vv vs x m w hF
  unfold evV at h
  rw [if_pos (rdE_0 ho (asR_t x0 xn m0 mn) hc), evB_eq hc, hs] at h
  exact h
theorem allI_lt (F : Fl) : ∀ i ∈ allL F, i < (F.s.length : Int) := fun i hi => (allL_ok F i hi).2
end Go.Proofs.YtnfndiafabhhdaaGreat
/- How further arguments of the laws read: ratios, readings, lists, truths (Wear). -/
namespace Go.Proofs.YtnfndiafabhhdaaGreat
open Go.ChangeShapes Go.WideShapes Go.ChangeAt Go.RowKit Go.Deep
abbrev I64 (a : Int) : Prop := -9223372036854775808 ≤ a ∧ a ≤ 9223372036854775807
section
variable {H : Type} {enc : TypeId × Value → H} {W : World}
set_option maxRecDepth 200000 in
theorem two_open_bd {t : TypeId} {f0 f1 : Field} {n base : Nat} {sp : Nat → Bool} {hd : Bool} {cs : List Value} {x : DataW H × List MemPlace} (hs : Tryz.prog.underlying t = some (.struct #[f0, f1])) (hone : oneCellFields Tryz.prog #[f0, f1] = true) (hC : Tryz.prog.cellsOf t = 2)
    (t0 : Tryz.prog.underlying f0.type = some (.int .i64)) (t1 : Tryz.prog.underlying f1.type = some (.int .i64)) (h : DataW.trod enc Tryz.prog W base sp hd n t cs = some x) : ∃ a b, cs = [.int .i64 a, .int .i64 b] ∧ I64 a ∧ I64 b := by
  obtain ⟨y0, y1, m, _, hl, h0, h1⟩ := trod_struct2 hs h
  obtain ⟨o0, k0⟩ := hone_of hone 0 f0 rfl
  obtain ⟨o1, k1⟩ := hone_of hone 1 f1 rfl
  rw [hC] at hl
  obtain ⟨c0, c1, rfl⟩ := list2 hl
  · simp [o0, k0] at h0
    simp [o1, k1] at h1
    obtain ⟨a, ha, _, wa⟩ := DataW.trod_int t0 h0
    obtain ⟨b, hb, _, wb⟩ := DataW.trod_int t1 h1
    simp at ha hb
    exact ⟨a, b, by rw [ha, hb], wf_bd wa, wf_bd wb⟩
set_option maxRecDepth 200000 in
theorem ratio_open {base : Nat} {v : Value} {d : DataW H} {p : List MemPlace} (hv : Value.okWide Tryz.prog W .any base 41 v) (h : DataW.Trod enc Tryz.prog W 0 (fun _ => true) true 41 v d p) :
    ∃ a b, v = .agg #[.int .i64 a, .int .i64 b] ∧ I64 a ∧ I64 b := by
  obtain ⟨cs, rfl, hsz⟩ := okWide_struct Tryz.underlying41 hv
  obtain ⟨l⟩ := cs
  obtain ⟨fuel, hf⟩ := h
  obtain ⟨a, b, e, w1, w2⟩ := two_open_bd Tryz.underlying41 (by kernel_rfl) (by kernel_rfl) Tryz.underlying3 Tryz.underlying3 (show DataW.trod enc Tryz.prog W 0 (fun _ => true) true fuel 41 l = some (d, p) from hf)
  exact ⟨a, b, by rw [e], w1, w2⟩
structure SnI (S : Sn) : Prop where
  a : I64 S.lo
  b : I64 S.hi
  c : I64 S.k.lv
  d : I64 S.k.er
set_option maxRecDepth 200000 in
theorem seen_open {base : Nat} {v : Value} {d : DataW H} {p : List MemPlace} (hv : Value.okWide Tryz.prog W .any base 88 v) (h : DataW.Trod enc Tryz.prog W 0 (fun _ => true) true 88 v d p) :
    ∃ S : Sn, v = .agg #[.int .i64 S.lo, .int .i64 S.hi, .int .i64 S.k.lv, .int .i64 S.k.er] ∧ SnI S := by
  obtain ⟨cs, rfl, hsz⟩ := okWide_struct Tryz.underlying88 hv
  obtain ⟨l⟩ := cs
  rw [show Tryz.prog.cellsOf 88 = 4 by kernel_rfl] at hsz
  obtain ⟨c0, c1, c2, c3, rfl⟩ := list4 (show l.length = 4 from hsz)
  obtain ⟨fuel, hf⟩ := h
  have hf : DataW.trod enc Tryz.prog W 0 (fun _ => true) true fuel 88 [c0, c1, c2, c3] = some (d, p) := hf
  obtain ⟨y0, y1, m, _, hl, h0, h1⟩ := trod_struct2 Tryz.underlying88 hf
  have h0 : DataW.trod enc Tryz.prog W 0 (fun _ => true) true m 27 [c0, c1] = some y0 := by simpa [show Tryz.prog.cellsOf 27 = 2 by kernel_rfl] using h0
  have h1 : DataW.trod enc Tryz.prog W 0 (fun _ => true) true m 25 [c2, c3] = some y1 := by simpa [show Tryz.prog.cellsOf 25 = 2 by kernel_rfl] using h1
  obtain ⟨a, b, e1, w1, w2⟩ := two_open_bd Tryz.underlying27 (by kernel_rfl) (by kernel_rfl) Tryz.underlying3 Tryz.underlying3 h0
  obtain ⟨a', b', e2, w3, w4⟩ := two_open_bd Tryz.underlying25 (by kernel_rfl) (by kernel_rfl) Tryz.underlying3 Tryz.underlying3 h1
  simp at e1 e2
  exact ⟨⟨a, b, ⟨a', b'⟩⟩, by rw [e1.1, e1.2, e2.1, e2.2], w1, w2, w3, w4⟩
theorem ints_cap {n : Nat} {v : Value} {y : DataW H × List MemPlace} (h : DataW.trod enc Tryz.prog W 0 (fun _ => true) true n 51 [v] = some y) : ∃ o m c, v = .slice o m c ∧ m ≤ c := by
  rcases open_ints Tryz.underlying51 Tryz.underlying3 (by kernel_rfl) h with ⟨hcs, _⟩ | ⟨a, len, cap, zs, hcs, _, hl, _⟩
  · simp at hcs; subst hcs; exact ⟨_, _, _, rfl, Nat.le_refl _⟩
  · simp at hcs; subst hcs; exact ⟨_, _, _, rfl, hl⟩
set_option maxRecDepth 200000 in
theorem list_open {base : Nat} {v : Value} {d : DataW H} {p : List MemPlace} (_hv : Value.okWide Tryz.prog W .any base 51 v) (h : DataW.Trod enc Tryz.prog W 0 (fun _ => true) true 51 v d p) :
    ∃ l o m c, v = .slice o m c ∧ Ints W (.slice o m c) l ∧ m ≤ c := by
  obtain ⟨o, m, c, rfl⟩ := okWide_slice Tryz.underlying51 _hv
  obtain ⟨fuel, hf⟩ := h
  have hf : DataW.trod enc Tryz.prog W 0 (fun _ => true) true fuel 51 [.slice o m c] = some (d, p) := hf
  obtain ⟨l, hl⟩ := ints_of_trod hf
  obtain ⟨_, _, _, e, k⟩ := ints_cap hf
  cases e
  exact ⟨l, o, m, c, rfl, hl, k⟩
set_option maxRecDepth 200000 in
theorem truth_open {base : Nat} {v : Value} {d : DataW H} {p : List MemPlace} (hv : Value.okWide Tryz.prog W .any base 74 v) (h : DataW.Trod enc Tryz.prog W 0 (fun _ => true) true 74 v d p) :
    ∃ a b l o m c, v = .agg #[.int .i64 a, .int .i64 b, .slice o m c] ∧ (I64 a ∧ I64 b) ∧ Ints W (.slice o m c) l ∧ m ≤ c := by
  obtain ⟨cs, rfl, hsz⟩ := okWide_struct Tryz.underlying74 hv
  obtain ⟨l⟩ := cs
  rw [show Tryz.prog.cellsOf 74 = 3 by kernel_rfl] at hsz
  obtain ⟨c0, c1, c2, rfl⟩ := list3 (show l.length = 3 from hsz)
  obtain ⟨fuel, hf⟩ := h
  have hf : DataW.trod enc Tryz.prog W 0 (fun _ => true) true fuel 74 [c0, c1, c2] = some (d, p) := hf
  obtain ⟨y0, y1, y2, m, _, hl, h0, h1, h2⟩ := trod_struct3 Tryz.underlying74 hf
  have h0 : DataW.trod enc Tryz.prog W 0 (fun _ => true) true m 3 [c0] = some y0 := by simpa [show Tryz.prog.cellsOf 3 = 1 by kernel_rfl] using h0
  have h1 : DataW.trod enc Tryz.prog W 0 (fun _ => true) true m 3 [c1] = some y1 := by simpa [show Tryz.prog.cellsOf 3 = 1 by kernel_rfl] using h1
  have h2 : DataW.trod enc Tryz.prog W 0 (fun _ => true) true m 51 [c2] = some y2 := by simpa [show Tryz.prog.cellsOf 3 = 1 by kernel_rfl, show Tryz.prog.cellsOf 51 = 1 by kernel_rfl] using h2
  obtain ⟨a, ha, _, wa⟩ := DataW.trod_int Tryz.underlying3 h0
  obtain ⟨b, hb, _, wb⟩ := DataW.trod_int Tryz.underlying3 h1
  obtain ⟨l, hl⟩ := ints_of_trod h2
  obtain ⟨o, k, c, e, hk⟩ := ints_cap h2
  simp at ha hb
  subst e
  exact ⟨a, b, l, o, k, c, by rw [ha, hb], ⟨wf_bd wa, wf_bd wb⟩, hl, hk⟩
end
end Go.Proofs.YtnfndiafabhhdaaGreat
/- A further reading narrows, one less does not (Wear). Plain. -/
namespace Go.Proofs.YtnfndiafabhhdaaGreat
theorem fl_le {a b a' b' : Int} (a0 : 0 ≤ a) (b0 : 0 < b) (a0' : 0 ≤ a') (b0' : 0 < b') (h : a * b' ≤ a' * b) : a.tdiv b ≤ a'.tdiv b' := by
  rw [Int.tdiv_eq_ediv_of_nonneg a0, Int.tdiv_eq_ediv_of_nonneg a0', Int.le_ediv_iff_mul_le b0']
  have h1 := Int.ediv_mul_le a (b := b) (by omega)
  have h2 := Int.mul_le_mul_of_nonneg_right h1 (Int.le_of_lt b0')
  have h3 : a / b * b' * b ≤ a' * b := by
    have e : a / b * b' * b = a / b * b * b' := by ac_rfl
    omega
  exact Int.le_of_mul_le_mul_right h3 b0
theorem ce_le {a b a' b' : Int} (a0 : 0 < a) (b0 : 0 < b) (a0' : 0 < a') (b0' : 0 < b') (h : a' * b ≤ a * b') : (a' + b' - 1).tdiv b' ≤ (a + b - 1).tdiv b := by
  rw [Int.tdiv_eq_ediv_of_nonneg (by omega), Int.tdiv_eq_ediv_of_nonneg (by omega)]
  obtain ⟨q, hq⟩ : ∃ q, (a + b - 1) / b = q := ⟨_, rfl⟩
  have h1 : a + b - 1 < (q + 1) * b := by
    have := Int.lt_ediv_add_one_mul_self (a + b - 1) b0
    rwa [hq] at this
  rw [hq]
  have h2 : a ≤ q * b := by rw [Int.add_mul] at h1; omega
  have h3 : a' * b ≤ q * b' * b := by
    have := Int.mul_le_mul_of_nonneg_right h2 (Int.le_of_lt b0')
    have e : q * b' * b = q * b * b' := by ac_rfl
    omega
  have h4 := Int.le_of_mul_le_mul_right h3 b0
  have h5 : (a' + b' - 1) / b' < q + 1 := Int.ediv_lt_of_lt_mul b0' (by rw [Int.add_mul]; omega)
  omega
theorem low1_posw {n d : Int} (hn : 0 < n) (hd : 0 < d) : 0 < lowN1 n d := by
  obtain ⟨⟨l1, _⟩, l2, _⟩ := lowN_bd (Int.le_of_lt hn) hd
  have c := lowN_cross (Int.le_of_lt hn) hd
  have := Int.mul_pos hn l2
  rcases Int.lt_or_le 0 (lowN1 n d) with k | k
  · exact k
  · have := Int.mul_nonpos_of_nonpos_of_nonneg k (Int.le_of_lt hd)
    omega
section
variable {F F' : Fl}
abbrev wA (F : Fl) : Int := lowN1 (1000 * (solvedW F (allL F)).hi.d) (solvedW F (allL F)).hi.n
abbrev wB (F : Fl) : Int := lowN2 (1000 * (solvedW F (allL F)).hi.d) (solvedW F (allL F)).hi.n
abbrev wC (F : Fl) : Int := lowN1 (1000 * (solvedW F (allL F)).lo.d) (solvedW F (allL F)).lo.n
abbrev wD (F : Fl) : Int := lowN2 (1000 * (solvedW F (allL F)).lo.d) (solvedW F (allL F)).lo.n
theorem nar_wear (n : Nar F (allL F) F' (allL F')) (hc' : canI F' (allL F') = true) :
    (wA F).tdiv (wB F) ≤ (wA F').tdiv (wB F') ∧ (wC F' + wD F' - 1).tdiv (wD F') ≤ (wC F + wD F - 1).tdiv (wD F) := by
  have hc := n.can hc'
  obtain ⟨e1, e2⟩ := n.ends hc'
  have B := knR_B n.h
  rw [knR_eq hc] at B
  have B' := knR_B n.h'
  rw [knR_eq hc'] at B'
  have a0 := B.a0
  have b0 := B.b0
  have c0 := B.c0
  have d0 := B.d0
  have a0' := B'.a0
  have b0' := B'.b0
  have c0' := B'.c0
  have d0' := B'.d0
  have p1 := lowN_bd (n := 1000 * (solvedW F (allL F)).hi.d) (d := (solvedW F (allL F)).hi.n) (by omega) c0
  have p2 := lowN_bd (n := 1000 * (solvedW F' (allL F')).hi.d) (d := (solvedW F' (allL F')).hi.n) (by omega) c0'
  have p3 := lowN_bd (n := 1000 * (solvedW F (allL F)).lo.d) (d := (solvedW F (allL F)).lo.n) (by omega) a0
  have p4 := lowN_bd (n := 1000 * (solvedW F' (allL F')).lo.d) (d := (solvedW F' (allL F')).lo.n) (by omega) a0'
  have q3 := low1_posw (n := 1000 * (solvedW F (allL F)).lo.d) (d := (solvedW F (allL F)).lo.n) (by omega) a0
  have q4 := low1_posw (n := 1000 * (solvedW F' (allL F')).lo.d) (d := (solvedW F' (allL F')).lo.n) (by omega) a0'
  refine ⟨fl_le p1.1.1 p1.2.1 p2.1.1 p2.2.1 ?_, ce_le q3 p3.2.1 q4 p4.2.1 ?_⟩
  · rw [(low_le (n := 1000 * (solvedW F (allL F)).hi.d) (d := (solvedW F (allL F)).hi.n) (by omega) c0 p2.2.1).1, (low_le (n := 1000 * (solvedW F' (allL F')).hi.d) (d := (solvedW F' (allL F')).hi.n) (by omega) c0' c0).2]
    have e : ∀ x y : Int, 1000 * x * y = 1000 * (y * x) := fun x y => by rw [Int.mul_assoc, Int.mul_comm x]
    rw [e, e]
    omega
  · rw [(low_le (n := 1000 * (solvedW F' (allL F')).lo.d) (d := (solvedW F' (allL F')).lo.n) (by omega) a0' p3.2.1).1, (low_le (n := 1000 * (solvedW F (allL F)).lo.d) (d := (solvedW F (allL F)).lo.n) (by omega) a0 a0').2]
    have e : ∀ x y : Int, 1000 * x * y = 1000 * (y * x) := fun x y => by rw [Int.mul_assoc, Int.mul_comm x]
    rw [e, e]
    omega
theorem weE_can (ho : okFl F = true) (hc : canI F (allL F) = true) : weE F = .tuple #[.agg #[.int .i64 ((wA F).tdiv (wB F)), .int .i64 ((wC F + wD F - 1).tdiv (wD F))], .int .i64 0] := by
  unfold weE
  rw [if_pos (rdE_0 ho rfl hc), knR_eq hc]
theorem allL_I (F : Fl) : allL F = allI F := rfl
theorem nar_more (h : OkF F) {S : Sn} (h' : OkF (seenF F (F.s ++ [S]))) : Nar F (allL F) (seenF F (F.s ++ [S])) (allL (seenF F (F.s ++ [S]))) :=
  nar_seen h h' fun _ hx => List.mem_append_left _ hx
theorem okF_wo (h : OkF F) (i : Nat) : OkF (woF F i) :=
  okF_seen h (Nat.le_trans (List.length_eraseIdx_le _ _) h.n) fun x hx => h.s x (List.mem_of_mem_eraseIdx hx)
theorem can_wo (h : OkF F) (i : Nat) (hc : canI F (allL F) = true) : canI (woF F i) (allL (woF F i)) = true :=
  (nar_less h (okF_wo h i) fun _ hx => List.mem_of_mem_eraseIdx hx).can hc
theorem rdE_R {R : Bool} (ho : okFl F = true) (hc : canI F (allL F) = true) : rdE F R = if R = true then 0 else 1 := by
  cases R with
  | true => exact rdE_0 ho rfl hc
  | false => exact rdE_1 ho rfl
theorem re_mem {k : Nat} {n : Int} : n ∈ reL F k ↔ 0 ≤ n ∧ n < k ∧ reB F n.toNat = true := by
  unfold reL
  rw [List.mem_map]
  constructor
  · rintro ⟨i, hi, rfl⟩
    rw [List.mem_filter, List.mem_range] at hi
    exact ⟨by omega, by omega, by simpa using hi.2⟩
  · rintro ⟨h0, h1, h2⟩
    exact ⟨n.toNat, List.mem_filter.2 ⟨List.mem_range.2 (by omega), h2⟩, by omega⟩
end
end Go.Proofs.YtnfndiafabhhdaaGreat
/- What CheckClash accepts: one to three items; none where a case is possible (Wear). Plain. -/
namespace Go.Proofs.YtnfndiafabhhdaaGreat
theorem inB_in {n lo hi : Int} (h : inB n lo hi = true) : lo ≤ n ∧ n ≤ hi := by simpa [inB] using h
theorem liA_get {l : List Int} {k : Nat} (hk : k < l.length) : liA l k = l[k] := by simp [liA, hk]
theorem its_in {F : Fl} {l : List Int} (h : itsB F l = true) {k : Nat} (hk : k < l.length) : (-2 ≤ liA l k ∧ liA l k ≤ (F.s.length : Int) - 1) ∧ (0 < k → liA l (k - 1) < liA l k) := by
  have := List.all_eq_true.1 h k (List.mem_range.2 hk)
  simp only [itB, Bool.and_eq_true, Bool.not_eq_true', Bool.and_eq_false_iff, decide_eq_false_iff_not] at this
  exact ⟨inB_in this.1, fun k0 => by rcases this.2 with h | h <;> omega⟩
theorem its_lt {F : Fl} {l : List Int} (h : itsB F l = true) {j : Nat} : ∀ k : Nat, k < l.length → j < k → liA l j < liA l k := by
  intro k
  induction k with
  | zero => intro _ hj; omega
  | succ k ih =>
    intro hk hj
    have s := (its_in h hk).2 (by omega)
    rw [Nat.add_sub_cancel] at s
    rcases Nat.lt_or_ge j k with c | c
    · have := ih (by omega) c; omega
    · have : j = k := by omega
      subst this; exact s
theorem its_nd {F : Fl} {l : List Int} (h : itsB F l = true) : l.Nodup := by
  rw [List.Nodup, List.pairwise_iff_getElem]
  intro i j hi hj hij e
  have := its_lt h j hj hij
  rw [liA_get hi, liA_get hj] at this
  omega
theorem its_all {F : Fl} {l : List Int} (h : itsB F l = true) : ∀ i ∈ l, -2 ≤ i ∧ i < F.s.length := fun i hi => by
  obtain ⟨k, hk, rfl⟩ := List.getElem_of_mem hi
  have := (its_in h hk).1
  rw [liA_get hk] at this
  omega
theorem but_mem {l : List Int} {k : Nat} (hk : k < l.length) {j : Int} (hj : j ∈ l) (ne : j ≠ l[k]) : j ∈ butL l k := by
  obtain ⟨i, hi, rfl⟩ := List.getElem_of_mem hj
  unfold butL
  rw [List.mem_append]
  rcases Nat.lt_trichotomy i k with c | c | c
  · exact .inl (List.mem_take_iff_getElem.2 ⟨i, by omega, rfl⟩)
  · subst c; exact absurd rfl ne
  · exact .inr (List.mem_drop_iff_getElem.2 ⟨i - (k + 1), by omega, by congr 1; omega⟩)
theorem but_sub {l : List Int} {k : Nat} {j : Int} (hj : j ∈ butL l k) : j ∈ l := by
  unfold butL at hj
  rw [List.mem_append] at hj
  exact hj.elim List.mem_of_mem_take List.mem_of_mem_drop
structure CkOk (F : Fl) (l : List Int) : Prop where
  its : itsB F l = true
  no : canI F l = false
  min : ∀ j, j < l.length → canI F (butL l j) = true
  one : 1 ≤ l.length
  thr : l.length ≤ 3
theorem ck_ok {F : Fl} (h : OkF F) {l : List Int} (h1 : itsB F l = true) (h2 : canI F l = false) (h3 : ∀ j, j < l.length → canI F (butL l j) = true) : CkOk F l := by
  have al := its_all h1
  refine ⟨h1, h2, h3, ?_, ?_⟩
  · cases l with
    | nil => rw [can_nil h] at h2; cases h2
    | cons a l => simp
  · refine three h (fun i hi => (al i hi).2) (its_nd h1) h2 fun i hi => ?_
    obtain ⟨k, hk, rfl⟩ := List.getElem_of_mem hi
    exact ⟨butL l k, fun j hj => (al j (but_sub hj)).2, fun j hj ne => but_mem hk hj ne, h3 k hk⟩
theorem ck_of {F : Fl} {l : List Int} (h : ckV F l = 0) : CkOk F l := by
  unfold ckV at h
  split at h
  · rename_i ho
    split at h
    · rename_i hb
      simp only [ckB, Bool.and_eq_true, Bool.not_eq_true', List.all_eq_true, List.mem_range] at hb
      exact ck_ok ((okFl_iff F).1 ho) hb.1 hb.2.1 hb.2.2
    · omega
  · omega
theorem CkOk.ck {F : Fl} {l : List Int} (ho : okFl F = true) (c : CkOk F l) : ckV F l = 0 := ck_yes ho (by
  simp only [ckB, Bool.and_eq_true, Bool.not_eq_true', List.all_eq_true, List.mem_range]
  exact ⟨c.its, c.no, c.min⟩)
theorem ck_or (F : Fl) (l : List Int) : ckV F l = 0 ∨ ckV F l = 32 ∨ ckV F l = 30 := by
  unfold ckV
  split
  · split
    · exact .inl rfl
    · exact .inr (.inl rfl)
  · exact .inr (.inr rfl)
theorem allL_mm {F : Fl} {i : Int} : i ∈ allL F ↔ -2 ≤ i ∧ i < F.s.length := allI_mem (F := F)
theorem ck_can {F : Fl} (h : OkF F) (hc : canI F (allL F) = true) {l : List Int} : ckV F l ≠ 0 := fun k => by
  have c := ck_of k
  have al := its_all c.its
  have := can_sub h (J := l) (fun i hi => (allL_mm.1 hi).2) (fun i hi => allL_mm.2 (al i hi)) hc
  rw [c.no] at this
  cases this
theorem all_pw (F : Fl) : (allL F).Pairwise (· < ·) := by
  show (List.map _ _).Pairwise _
  rw [List.pairwise_map]
  exact List.pairwise_lt_range.imp fun h => by omega
theorem cl_ck {F : Fl} (h : OkF F) {L : List Int} (c : ClOk F L) : CkOk F L := by
  have pw := (all_pw F).sublist c.sub
  refine ck_ok h ?_ c.no fun j hj => c.min j hj
  refine List.all_eq_true.2 fun k hk => ?_
  rw [List.mem_range] at hk
  have m := allL_mm.1 (c.sub.subset (List.getElem_mem hk))
  simp only [itB, Bool.and_eq_true, Bool.not_eq_true', Bool.and_eq_false_iff, decide_eq_false_iff_not]
  refine ⟨?_, ?_⟩
  · rw [liA_get hk]; simp [inB]; omega
  · rcases Nat.eq_zero_or_pos k with c | c
    · exact .inl (by omega)
    · right
      rw [liA_get hk, liA_get (show k - 1 < L.length by omega)]
      have := List.pairwise_iff_getElem.1 pw (k - 1) k (by omega) hk (by omega)
      omega
end Go.Proofs.YtnfndiafabhhdaaGreat
/- Walks of the law's times, above, fulfils, fair (Wear). -/
namespace Go.Proofs.YtnfndiafabhhdaaGreat
open Go.ChangeShapes Go.WideShapes Go.ChangeAt Go.RowKit
theorem Sizes_tr (F : Fl) (v : Value) (w : World) (hR : RgR w v F.v) (hv : okVs F.v = true) :
    Calls Tryz.prog 39 #[v] w fun e w' => (∃ a b, e = .returned (.tuple #[.int .i64 (hgt F.v), .int .i64 a, .int .i64 b, .int .i64 0])) ∧ Below w.heap.size w w' := by
  refine (Sizes_any F.v v w hR).mono ?_
  rintro e w' ⟨rfl, hb⟩
  exact ⟨⟨_, _, by rw [if_pos hv, show chkV F.v = 0 by unfold chkV; rw [if_pos hv]]⟩, hb⟩
set_option maxRecDepth 100000 in
theorem times_l (F : Fl) (v : Value) (w : World) (hR : RgR w v F.v) (hv : okVs F.v = true) :
    Calls Tryz.prog 58 #[v] w fun e w' => (∃ a b c, e = .returned (.tuple #[.slice a b c, .int .i64 (hgt F.v), .bool true]) ∧ PtR w' (.slice a b c) F.v) ∧ Below w.heap.size w w' := by
  have HE := Lib.hid (Emptying_any F.v v w hR ((okv_iff F.v).1 hv))
  have HR := Lib.hid hR
  obtain ⟨o, c, rfl, _⟩ := hR.parts
  clear hR
  go_enter Tryz.func58, Tryz.ntmps58
  go_wp2_with fail
  refine HE.out.mono ?_
  rintro e w1 ⟨pv, rfl, hb1, hP⟩
  have HS := Lib.hid (Sizes_tr F _ w1 (HR.out.below hb1) hv)
  have HP := Lib.hid hP
  have HB1 := Lib.hid hb1
  obtain ⟨a, d, rfl, _⟩ := hP.parts
  clear hP hb1
  go_wp2_with fail
  refine HS.out.mono ?_
  rintro e w2 ⟨⟨x, y, rfl⟩, hb2⟩
  have HP2 := Lib.hid (HP.out.below hb2)
  have HB2 := Lib.hid (bthen HB1.out hb2)
  clear hb2
  go_wp2_with fail
  refine bodyPost_ret (results_tmp3 rfl _ _ _) rfl ⟨⟨_, _, _, rfl, HP2.out⟩, HB2.out⟩
section
variable {F : Fl} {W x l m : Int}
theorem cm_bd (h : OkF F) (W0 : 0 ≤ W) (W1 : W ≤ 4000) (x0 : 0 ≤ x) (xn : x ≤ hgt F.v) (l0 : 0 ≤ l) (ln : l ≤ hgt F.v) (m0 : 0 ≤ m) (m1 : m ≤ 2097152) :
    (0 ≤ tmN F.v x * W ∧ tmN F.v x * W ≤ 1920000000000) ∧ (0 ≤ 1000 * m * tmD F.v x ∧ 1000 * m * tmD F.v x ≤ 2097152000000) ∧ (0 ≤ tmN F.v l * W ∧ tmN F.v l * W ≤ 1920000000000) ∧ (0 ≤ tmN F.v l * W * tmD F.v x ∧ tmN F.v l * W * tmD F.v x ≤ 1920000000000000) ∧ (0 ≤ lfT F W x m ∧ lfT F W x m ≤ 1920000000000) ∧ (0 ≤ lfT F W x m * tmD F.v l ∧ lfT F W x m * tmD F.v l ≤ 1920000000000000) := by
  obtain ⟨⟨a1, a2⟩, a3, a4⟩ := tm_bd h.v x0 xn
  obtain ⟨⟨b1, b2⟩, b3, b4⟩ := tm_bd h.v l0 ln
  have p1 := mul_bd a1 a2 W0 W1
  have p2 := mul_bd (show 0 ≤ 1000 * m by omega) (show 1000 * m ≤ 2097152000 by omega) (Int.le_of_lt a3) a4
  have p3 := mul_bd b1 b2 W0 W1
  have p4 := mul_bd p3.1 p3.2 (Int.le_of_lt a3) a4
  have p5 : 0 ≤ lfT F W x m ∧ lfT F W x m ≤ 1920000000000 := by unfold lfT; omega
  have p6 := mul_bd p5.1 p5.2 (Int.le_of_lt b3) b4
  refine ⟨by omega, by omega, by omega, by omega, p5, by omega⟩
end
set_option maxRecDepth 100000 in
set_option maxHeartbeats 2000000 in
theorem above_l (F : Fl) (pv : Value) (W x l m : Int) (o : Option Addr) (n c : Nat) (w : World) (hP : PtR w pv F.v) (hO : OkF F) (W0 : 0 ≤ W) (W1 : W ≤ 4000) (x0 : 0 ≤ x) (xn : x ≤ hgt F.v) (l0 : 0 ≤ l) (ln : l ≤ hgt F.v) (m0 : 0 ≤ m) (m1 : m ≤ 2097152) :
    Calls Tryz.prog 60 #[.agg #[.int .i64 W, .int .i64 x, .slice o n c], pv, .int .i64 l, .int .i64 m] w fun e w' => e = .returned (.tuple #[.int .i64 (sgn (cmT F W x l m)), .bool true]) ∧ Below w.heap.size w w' := by
  have hv := (okv_iff F.v).1 hO.v
  have h1 := fun w h => Exact_any F.v pv l w hv h l0 ln
  have h2 := fun w h => Exact_any F.v pv x w hv h x0 xn
  obtain ⟨⟨q1, q2⟩, ⟨q3, q4⟩, ⟨q5, q6⟩, ⟨q7, q8⟩, ⟨q9, q10⟩, q11, q12⟩ := cm_bd hO W0 W1 x0 xn l0 ln m0 m1
  obtain ⟨⟨a1, a2⟩, a3, a4⟩ := tm_bd hO.v x0 xn
  obtain ⟨⟨b1, b2⟩, b3, b4⟩ := tm_bd hO.v l0 ln
  unfold cmT
  unfold lfT at q9 q10 q11 q12 ⊢
  obtain ⟨xN, hxN⟩ : ∃ t, tmN F.v x = t := ⟨_, rfl⟩
  obtain ⟨xD, hxD⟩ : ∃ t, tmD F.v x = t := ⟨_, rfl⟩
  obtain ⟨lN, hlN⟩ : ∃ t, tmN F.v l = t := ⟨_, rfl⟩
  obtain ⟨lD, hlD⟩ : ∃ t, tmD F.v l = t := ⟨_, rfl⟩
  simp only [hxN, hxD, hlN, hlD] at *
  clear hxN hxD hlN hlD
  have w1 : IntKind.i64.wrap (xN * W) = xN * W := IntWalk.i64_in _ (by omega)
  have w2 : IntKind.i64.wrap (1000 * m) = 1000 * m := IntWalk.i64_in _ (by omega)
  have w3 : IntKind.i64.wrap (1000 * m * xD) = 1000 * m * xD := IntWalk.i64_in _ (by omega)
  have w4 : IntKind.i64.wrap (xN * W - 1000 * m * xD) = xN * W - 1000 * m * xD := IntWalk.i64_in _ (by omega)
  have w5 : IntKind.i64.wrap (lN * W) = lN * W := IntWalk.i64_in _ (by omega)
  have w6 : IntKind.i64.wrap (lN * W * xD) = lN * W * xD := IntWalk.i64_in _ (by omega)
  have w7 : IntKind.i64.wrap (max 0 (xN * W - 1000 * m * xD) * lD) = max 0 (xN * W - 1000 * m * xD) * lD := IntWalk.i64_in _ (by omega)
  have w8 : IntKind.i64.wrap (lN * W * xD - max 0 (xN * W - 1000 * m * xD) * lD) = lN * W * xD - max 0 (xN * W - 1000 * m * xD) * lD := IntWalk.i64_in _ (by omega)
  obtain ⟨Z, hZ⟩ : ∃ Z, lN * W * xD - max 0 (xN * W - 1000 * m * xD) * lD = Z := ⟨_, rfl⟩
  rw [hZ] at w8 ⊢
  obtain ⟨sg, hsg⟩ : ∃ k, sgn Z = k := ⟨_, rfl⟩
  rw [hsg]
  have HB := Lib.hid (Bk.new w 74 [.int .i64 W, .int .i64 x, .slice o n c])
  have HP := Lib.hid (hP.alloc (Obj.cells #[.int .i64 W, .int .i64 x, .slice o n c] 74))
  have H1 := Lib.hid h1
  have H2 := Lib.hid h2
  clear hP h1 h2 q1 q2 q3 q4 q5 q6 q7 q8 q9 q10 q11 q12
  go_enter Tryz.func60, Tryz.ntmps60
  go_wp2_with fail
  refine (H1.out _ HP.out).mono ?_
  rintro e w1 ⟨rfl, hb⟩
  have hb' := hb.alloc hb.size (Obj.cells #[.int .i64 lN, .int .i64 lD] 41)
  have hB1 := HB.out.below hb'
  have t0 := hB1.cell 0
  have t1 := hB1.cell 1
  have tl := hB1.lt
  simp only [List.getElem?_cons_zero, List.getElem?_cons_succ] at t0 t1
  have HB1 := Lib.hid hB1
  have HP1 := Lib.hid (HP.out.below hb')
  have HA1 := Lib.hid (Bk.new w1 41 [.int .i64 lN, .int .i64 lD])
  have HW1 := Lib.hid (bafter hb')
  clear hb hb' hB1
  go_wp2_with fail
  refine (H2.out _ HP1.out).mono ?_
  rintro e w2 ⟨rfl, hb⟩
  have hb' := hb.alloc hb.size (Obj.cells #[.int .i64 xN, .int .i64 xD] 41)
  have hB2 := HB1.out.below hb'
  have hA2 := HA1.out.below hb'
  have t0 := hB2.cell 0
  have t1 := hB2.cell 1
  have tl := hB2.lt
  have a0 := hA2.cell 0
  have a1 := hA2.cell 1
  have al := hA2.lt
  simp only [List.getElem?_cons_zero, List.getElem?_cons_succ] at t0 t1 a0 a1
  have HW2 := Lib.hid (bthen HW1.out hb')
  clear hb hb' hB2 hA2
  by_cases z1 : Z < 0
  · have hs : sg = -1 := by rw [← hsg]; unfold sgn; rw [if_pos z1]
    subst hs
    go_wp2_with fail
    go_ret2
    exact ⟨rfl, HW2.out⟩
  · by_cases z2 : 0 < Z
    · have hs : sg = 1 := by rw [← hsg]; unfold sgn; rw [if_neg z1, if_pos z2]
      subst hs
      go_wp2_with fail
      go_ret2
      exact ⟨rfl, HW2.out⟩
    · have hs : sg = 0 := by rw [← hsg]; unfold sgn; rw [if_neg z1, if_neg z2]
      subst hs
      go_wp2_with fail
      go_ret2
      exact ⟨rfl, HW2.out⟩
theorem ret_bt {a b : Bool} {u : Value} (h : a = b) : Ending.returned (.tuple #[.bool a, u]) = Ending.returned (.tuple #[.bool b, u]) := by rw [h]
theorem sgn_le (z : Int) : (sgn z ≤ 0 ↔ z ≤ 0) ∧ (0 ≤ sgn z ↔ 0 ≤ z) := by
  unfold sgn
  split
  · omega
  · split <;> omega
set_option maxRecDepth 100000 in
set_option maxHeartbeats 2000000 in
theorem fulfils_l (F : Fl) (pv : Value) (W x m : Int) (k : Lk) (o : Option Addr) (n c : Nat) (w : World) (hP : PtR w pv F.v) (hO : OkF F) (hk : okLk (hgt F.v) k = true) (W0 : 0 ≤ W) (W1 : W ≤ 4000) (x0 : 0 ≤ x) (xn : x ≤ hgt F.v) (m0 : 0 ≤ m) (m1 : m ≤ 2097152) :
    Calls Tryz.prog 126 #[.agg #[.int .i64 W, .int .i64 x, .slice o n c], pv, .int .i64 (hgt F.v), .agg #[.int .i64 k.lv, .int .i64 k.er], .int .i64 m] w fun e w' => e = .returned (.tuple #[.bool (decide (cmT F W x (endA k) m ≤ 0) && decide (0 ≤ cmT F W x (endB (hgt F.v) k) m)), .bool true]) ∧ Below w.heap.size w w' := by
  obtain ⟨⟨n1, n2⟩, n3, n4⟩ := end_in hk
  have hkb : (0 ≤ k.lv ∧ k.lv ≤ hgt F.v) ∧ (0 ≤ k.er ∧ k.er ≤ 1000) := by simp only [okLk, Bool.and_eq_true, decide_eq_true_eq] at hk; omega
  have hH := okF_hgt hO
  have h1 := fun w h => above_l F pv W x (endA k) m o n c w h hO W0 W1 x0 xn n1 (by omega) m0 m1
  have h2 := fun w h => above_l F pv W x (endB (hgt F.v) k) m o n c w h hO W0 W1 x0 xn (by omega) n4 m0 m1
  have hg : hgt F.v ≤ 24000 := by
    have h := hO.v
    simp only [okVs, Bool.and_eq_true, decide_eq_true_eq] at h
    have := (vXY_bd h.2 F.v.length (Nat.le_refl _)).1
    unfold hgt
    omega
  obtain ⟨s1, hs1⟩ : ∃ s, sgn (cmT F W x (endA k) m) = s := ⟨_, rfl⟩
  obtain ⟨s2, hs2⟩ : ∃ s, sgn (cmT F W x (endB (hgt F.v) k) m) = s := ⟨_, rfl⟩
  have hr : (decide (cmT F W x (endA k) m ≤ 0) && decide (0 ≤ cmT F W x (endB (hgt F.v) k) m)) = (decide (s1 ≤ 0) && decide (0 ≤ s2)) := by
    rw [← hs1, ← hs2]
    congr 1
    · exact decide_eq_decide.2 (sgn_le _).1.symm
    · exact decide_eq_decide.2 (sgn_le _).2.symm
  simp only [hs1] at h1
  simp only [hs2] at h2
  rw [hr]
  unfold endA at h1
  unfold endB at h2
  obtain ⟨H, hHH⟩ : ∃ H, hgt F.v = H := ⟨_, rfl⟩
  rw [hHH] at h2 hkb hg ⊢
  obtain ⟨lv, er⟩ := k
  simp only at h1 h2 hkb ⊢
  have w1 : IntKind.i64.wrap (lv - er) = lv - er := IntWalk.i64_in _ (by omega)
  have w2 : IntKind.i64.wrap (lv + er) = lv + er := IntWalk.i64_in _ (by omega)
  have HB := Lib.hid ((Bk.new w 74 [.int .i64 W, .int .i64 x, .slice o n c]).alloc (Obj.cells #[.int .i64 lv, .int .i64 er] 25))
  have HC := Lib.hid (Bk.new1 w (Obj.cells #[.int .i64 W, .int .i64 x, .slice o n c] 74) 25 [.int .i64 lv, .int .i64 er])
  have HP := Lib.hid ((hP.alloc (Obj.cells #[.int .i64 W, .int .i64 x, .slice o n c] 74)).alloc (Obj.cells #[.int .i64 lv, .int .i64 er] 25))
  have H1 := Lib.hid h1
  have H2 := Lib.hid h2
  clear hP h1 h2 hs1 hs2 hr hHH hH hk n1 n2 n3 n4
  go_enter Tryz.func126, Tryz.ntmps126
  go_wp2_with fail
  refine (H1.out _ HP.out).mono ?_
  rintro e w1 ⟨rfl, hb⟩
  have hB := HB.out.below hb
  have hC := HC.out.below hb
  have t0 := hB.cell 0
  have t1 := hB.cell 1
  have t2 := hB.cell 2
  have tl := hB.lt
  have a0 := hC.cell 0
  have a1 := hC.cell 1
  have al := hC.lt
  simp only [List.getElem?_cons_zero, List.getElem?_cons_succ] at t0 t1 t2 a0 a1
  have HP1 := Lib.hid (HP.out.below hb)
  have HW1 := Lib.hid (bafter (bafter hb))
  clear hb hB hC
  go_wp2_with fail
  refine (H2.out _ HP1.out).mono ?_
  rintro e w2 ⟨rfl, hb⟩
  have HW2 := Lib.hid (bthen HW1.out hb)
  clear hb
  by_cases z1 : s1 ≤ 0
  · have d1 : decide (s1 ≤ 0) = true := by simpa using z1
    go_wp2_with fail
    go_ret2
    exact ⟨ret_bt (by simp [d1]), HW2.out⟩
  · have d1 : decide (s1 ≤ 0) = false := by simpa using z1
    go_wp2_with fail
    go_ret2
    exact ⟨ret_bt (by simp [d1]), HW2.out⟩
theorem snA_ok {F : Fl} (h : OkF F) {i : Nat} (hi : i < F.s.length) : okLk (hgt F.v) (snA F.s i).k = true ∧ (0 ≤ (snA F.s i).lo ∧ (snA F.s i).hi ≤ 1048576) := by
  have h := h.s (snA F.s i) (by simp [snA, List.getElem?_eq_getElem hi])
  simp only [okSn, Bool.and_eq_true, decide_eq_true_eq] at h
  exact ⟨h.2, by omega⟩
def FaP (F : Fl) (W x : Int) (l : List Int) (n : Nat) (e : Ending) : Prop := ∃ b, e = .returned (.bool b) ∧ (b = true → n = F.s.length ∧ Fair F W x fun i => l[i.toNat]?.getD 0)
set_option maxRecDepth 100000 in
set_option maxHeartbeats 4000000 in
theorem fair_l (F : Fl) (vv vs pv : Value) (W x : Int) (l : List Int) (o : Option Addr) (n c : Nat) (w : World) (hF : FlIn w F vv vs) (hP : PtR w pv F.v) (hO : OkF F) (hl : Ints w (.slice o n c) l) :
    Calls Tryz.prog 59 #[.agg #[.int .i64 W, .int .i64 x, .slice o n c], flV F vv vs, pv, .int .i64 (hgt F.v)] w fun e w' => FaP F W x l n e ∧ Below w.heap.size w w' := by
  have hlen := hl.len
  have hn24 := hO.n
  have hw := And.intro hO.w1 hO.w3
  obtain ⟨os, cs, rfl, ms⟩ := hF.s.parts
  obtain ⟨sl, hsl⟩ : ∃ n, F.s.length = n := ⟨_, rfl⟩
  have HSL := Lib.hid hsl
  rw [hsl] at hF ms hn24 ⊢
  have HF := Lib.hid ((hF.alloc (Obj.cells #[.int .i64 W, .int .i64 x, .slice o n c] 74)).alloc (flO F vv (.slice os sl cs)))
  have HP := Lib.hid ((hP.alloc (Obj.cells #[.int .i64 W, .int .i64 x, .slice o n c] 74)).alloc (flO F vv (.slice os sl cs)))
  have HL := Lib.hid ((hl.alloc (Obj.cells #[.int .i64 W, .int .i64 x, .slice o n c] 74)).alloc (flO F vv (.slice os sl cs)))
  have HT := Lib.hid ((Bk.new w 74 [.int .i64 W, .int .i64 x, .slice o n c]).alloc (flO F vv (.slice os sl cs)))
  have HB := Lib.hid (Bk.new1 w (Obj.cells #[.int .i64 W, .int .i64 x, .slice o n c] 74) 30 (flL F vv (.slice os sl cs)))
  have HW := Lib.hid (show Below w.heap.size w ((w.alloc (Obj.cells #[.int .i64 W, .int .i64 x, .slice o n c] 74)).alloc (flO F vv (.slice os sl cs))) from (ballo _ _).alloc (by simp) _)
  clear hF hP hl hsl
  obtain ⟨H, hH⟩ : ∃ H, hgt F.v = H := ⟨_, rfl⟩
  by_cases hr : F.wlo ≤ W ∧ W ≤ F.whi ∧ 0 ≤ x ∧ x ≤ H ∧ n = sl
  · obtain ⟨r1, r2, r3, r4, rfl⟩ := hr
    have hful : ∀ (m : Int) (k : Lk) (w : World), PtR w pv F.v → okLk (hgt F.v) k = true → 0 ≤ m → m ≤ 2097152 → Calls Tryz.prog 126 #[.agg #[.int .i64 W, .int .i64 x, .slice o n c], pv, .int .i64 (hgt F.v), .agg #[.int .i64 k.lv, .int .i64 k.er], .int .i64 m] w fun e w' => e = .returned (.tuple #[.bool (decide (cmT F W x (endA k) m ≤ 0) && decide (0 ≤ cmT F W x (endB (hgt F.v) k) m)), .bool true]) ∧ Below w.heap.size w w' := fun m k w h hk m0 m1 => fulfils_l F pv W x m k o n c w h hO hk (by omega) (by omega) r3 (by rw [hH]; exact r4) m0 m1
    have hokf := hO.f
    have hsk : ∀ i : Nat, i < n → okLk (hgt F.v) (snA F.s i).k = true ∧ (0 ≤ (snA F.s i).lo ∧ (snA F.s i).hi ≤ 1048576) := fun i hi => snA_ok hO (by rw [HSL.out]; exact hi)
    rw [hH] at hful hokf hsk ⊢
    have HH := Lib.hid hH
    have HFU := Lib.hid hful
    have HSK := Lib.hid hsk
    clear hful hsk hH
    go_enter Tryz.func59, Tryz.ntmps59
    go_wp2_with fail
    refine (HFU.out 0 F.f _ HP.out hokf (by omega) (by omega)).mono ?_
    rintro e w1 ⟨rfl, hb⟩
    obtain ⟨b0, hb0⟩ : ∃ b, (decide (cmT F W x (endA F.f) 0 ≤ 0) && decide (0 ≤ cmT F W x (endB H F.f) 0)) = b := ⟨_, rfl⟩
    try rw [hb0]
    have HB0 := Lib.hid hb0
    have HF1 := Lib.hid (HF.out.below hb)
    have HP1 := Lib.hid (HP.out.below hb)
    have HL1 := Lib.hid (HL.out.below hb)
    have HT1 := Lib.hid (HT.out.below hb)
    have hB1 := HB.out.below hb
    have c5 := hB1.cell 5
    have cl := hB1.lt
    simp only [flL, List.getElem?_cons_zero, List.getElem?_cons_succ] at c5
    have HW1 := Lib.hid (HW.out.trans (hb.mono HW.out.size))
    clear hb hb0 hB1 HF HP HL HT HB
    cases b0 with
    | false =>
      go_wp2_with fail
      go_ret
      exact ⟨⟨false, rfl, fun h => by cases h⟩, HW1.out⟩
    | true =>
      go_wp2_with fail
      clear c5 cl
      go_loopw [67] (fun t wr => ∃ j : Nat, j ≤ n ∧ t = .int .i64 (j : Int) ∧ Hid (Below w1.heap.size w1 wr) ∧ Hid (∀ i, i < j → ((snA F.s i).lo ≤ l[i]?.getD 0 ∧ l[i]?.getD 0 ≤ (snA F.s i).hi) ∧ (decide (cmT F W x (endA (snA F.s i).k) (l[i]?.getD 0) ≤ 0) && decide (0 ≤ cmT F W x (endB H (snA F.s i).k) (l[i]?.getD 0))) = true)) (fun t _ => n - (intOf t).toNat)
      case atStart => exact ⟨0, by omega, rfl, Lib.hid (Below.refl _ _), Lib.hid (fun i hi => by omega)⟩
      case round =>
        obtain ⟨j, hj, rfl, hbl, hall⟩ := hrel
        by_cases hjn : j < n
        · obtain ⟨bs, fs, rfl, hbs, hcs⟩ := (HF1.out.s.below hbl.out).cells (by rw [HSL.out]; omega)
          have d0 := hcs j 0 (by rw [HSL.out]; exact hjn) (by omega)
          have d1 := hcs j 1 (by rw [HSL.out]; exact hjn) (by omega)
          have d2 := hcs j 2 (by rw [HSL.out]; exact hjn) (by omega)
          have d3 := hcs j 3 (by rw [HSL.out]; exact hjn) (by omega)
          simp only [snF, Nat.add_zero] at d0 d1 d2 d3
          obtain ⟨ba, fa, rfl, hba, hca⟩ := (HL1.out.below hbl.out).cells (by omega)
          have a0 := hca j hjn
          obtain ⟨hk, hlo, hhi⟩ := HSK.out j hjn
          have hstep : ∀ i, i < j + 1 → (((snA F.s j).lo ≤ l[j]?.getD 0 ∧ l[j]?.getD 0 ≤ (snA F.s j).hi) ∧ (decide (cmT F W x (endA (snA F.s j).k) (l[j]?.getD 0) ≤ 0) && decide (0 ≤ cmT F W x (endB H (snA F.s j).k) (l[j]?.getD 0))) = true) → (((snA F.s i).lo ≤ l[i]?.getD 0 ∧ l[i]?.getD 0 ≤ (snA F.s i).hi) ∧ (decide (cmT F W x (endA (snA F.s i).k) (l[i]?.getD 0) ≤ 0) && decide (0 ≤ cmT F W x (endB H (snA F.s i).k) (l[i]?.getD 0))) = true) := fun i hi h => by
            rcases Nat.lt_or_ge i j with q | q
            · exact hall.out i q
            · obtain rfl : i = j := by omega
              exact h
          have HSTEP := Lib.hid hstep
          obtain ⟨s, hs⟩ : ∃ s, snA F.s j = s := ⟨_, rfl⟩
          obtain ⟨y, hy⟩ : ∃ y, l[j]?.getD 0 = y := ⟨_, rfl⟩
          rw [hs] at d0 d1 d2 d3 hk hlo hhi
          rw [hy] at a0
          have HSS := Lib.hid (And.intro hs hy)
          obtain ⟨slo, shi, slk⟩ := s
          obtain ⟨slv, ser⟩ := slk
          simp only at d0 d1 d2 d3 hlo hhi
          have hT := (HT1.out.below hbl.out).alloc (Obj.cells #[.int .i64 slo, .int .i64 shi, .int .i64 slv, .int .i64 ser] 88)
          have HVW := Lib.hid (hbl.out.alloc hbl.out.size (Obj.cells #[.int .i64 slo, .int .i64 shi, .int .i64 slv, .int .i64 ser] 88))
          have HSB := Lib.hid (Bk.new wr 88 [.int .i64 slo, .int .i64 shi, .int .i64 slv, .int .i64 ser])
          have t2 := (HT1.out.below hbl.out).cell 2
          have tl := (HT1.out.below hbl.out).lt
          simp only [List.getElem?_cons_zero, List.getElem?_cons_succ] at t2
          clear hcs hca hstep hs hy hT
          by_cases y1 : y < slo
          · have hd1 : decide (y < slo) = true := by simpa using y1
            go_wp2_with fail
            go_quiet (fail)
            go_wp2_with fail
            go_ret
            exact ⟨⟨false, rfl, fun h => by cases h⟩, below_drewN (HW1.out.trans (HVW.out.mono HW1.out.size)) _⟩
          · have hd1 : decide (y < slo) = false := by simpa using y1
            by_cases y2 : shi < y
            · have hd2 : decide (shi < y) = true := by simpa using y2
              go_wp2_with fail
              go_quiet (fail)
              go_wp2_with fail
              go_ret
              exact ⟨⟨false, rfl, fun h => by cases h⟩, below_drewN (HW1.out.trans (HVW.out.mono HW1.out.size)) _⟩
            · have hd2 : decide (shi < y) = false := by simpa using y2
              go_wp2_with fail
              go_quiet (fail)
              go_wp2_with fail
              obtain ⟨V, hV⟩ : ∃ V, (wr.alloc (Obj.cells #[.int .i64 slo, .int .i64 shi, .int .i64 slv, .int .i64 ser] 88)).drewN nq = V := ⟨_, rfl⟩
              have hwV : Below w1.heap.size w1 V := by rw [← hV]; exact below_drewN HVW.out _
              have hsb : Bk V wr.heap.size 88 [.int .i64 slo, .int .i64 shi, .int .i64 slv, .int .i64 ser] := by rw [← hV]; exact HSB.out.drewN _
              have hrV : Below wr.heap.size wr V := by rw [← hV]; exact below_drewN (ballo _ _) _
              have a1 := (hrV.cell (p := ⟨ba, fa + j, none⟩) hba).trans a0
              have hba2 := Nat.lt_of_lt_of_le hba hrV.size
              have hT := HT1.out.below hwV
              have t0 := hT.cell 0
              have t1 := hT.cell 1
              have t2 := hT.cell 2
              have tl := hT.lt
              have s2 := hsb.cell 2
              have s3 := hsb.cell 3
              have sl2 := hsb.lt
              simp only [List.getElem?_cons_zero, List.getElem?_cons_succ] at t0 t1 t2 s2 s3
              have mc := @more_cell V
              have k1 : ∀ i : More V, _ := fun i => more_call (HFU.out y ⟨slv, ser⟩ i.x ((HP1.out.below hwV).below i.h) hk (by omega) (by omega))
              obtain ⟨b1, hb1⟩ : ∃ b, (decide (cmT F W x (endA ⟨slv, ser⟩) y ≤ 0) && decide (0 ≤ cmT F W x (endB H ⟨slv, ser⟩) y)) = b := ⟨_, rfl⟩
              simp only [hb1] at k1
              have K1 := Lib.hid k1
              have HB1 := Lib.hid hb1
              have HWV := Lib.hid hwV
              try rw [hV]
              clear hV hwV hsb hrV hT k1 hb1 a0 d0 d1 d2 d3
              refine wp_region_more (by kernel_rfl) (by kernel_rfl) ?_
              iterate 8 (try (first | go_big_quiet_step ((with_reducible first | exact K1.out _)) | quiet_step ((with_reducible first | exact K1.out _))))
              iterate 8 (try (first | go_big_quiet_step ((with_reducible first | exact K1.out _)) | quiet_step ((with_reducible first | exact K1.out _))))
              iterate 8 (try (first | go_big_quiet_step ((with_reducible first | exact K1.out _)) | quiet_step ((with_reducible first | exact K1.out _))))
              iterate 8 (try (first | go_big_quiet_step ((with_reducible first | exact K1.out _)) | quiet_step ((with_reducible first | exact K1.out _))))
              iterate 8 (try (first | go_big_quiet_step ((with_reducible first | exact K1.out _)) | quiet_step ((with_reducible first | exact K1.out _))))
              refine wpQuiet_nil ?_
              rintro ⟨wm, hbm⟩
              try dsimp only
              have HBM := Lib.hid (bthen HWV.out hbm)
              clear hbm
              cases b1 with
              | false =>
                go_wp2_with fail
                go_ret
                exact ⟨⟨false, rfl, fun h => by cases h⟩, HW1.out.trans (HBM.out.mono HW1.out.size)⟩
              | true =>
                go_wp2_with fail
                refine ⟨⟨j + 1, by omega, by go_num, HBM, Lib.hid fun i hi => HSTEP.out i hi ?_⟩, by simp [intOf]; omega⟩
                rw [HSS.out.1, HSS.out.2]
                exact ⟨⟨by simp only; omega, by simp only; omega⟩, HB1.out⟩
        · obtain rfl : j = n := by omega
          have hbf := Lib.hid (HW1.out.trans (hbl.out.mono HW1.out.size))
          go_wp2_with fail
          go_ret
          refine ⟨⟨true, rfl, fun _ => ⟨HSL.out.symm, ?_⟩⟩, hbf.out⟩
          have h0 := HB0.out
          simp only [Bool.and_eq_true, decide_eq_true_eq] at h0
          refine ⟨r1, r2, r3, by rw [HH.out]; exact r4, h0.1, by rw [HH.out]; exact h0.2, fun i i0 i1 => ?_⟩
          rw [HSL.out] at i1
          obtain ⟨h1, h2⟩ := hall.out i.toNat (by omega)
          simp only [Bool.and_eq_true, decide_eq_true_eq] at h2
          exact ⟨h1, h2.1, by rw [HH.out]; exact h2.2⟩
  · rw [hH]
    have HH := Lib.hid hH
    clear hH
    by_cases r1 : W < F.wlo
    · clear hr
      go_enter Tryz.func59, Tryz.ntmps59
      go_wp2_with fail
      go_ret
      exact ⟨⟨false, rfl, fun h => by cases h⟩, HW.out⟩
    · by_cases r2 : F.whi < W
      · clear hr
        go_enter Tryz.func59, Tryz.ntmps59
        go_wp2_with fail
        go_ret
        exact ⟨⟨false, rfl, fun h => by cases h⟩, HW.out⟩
      · by_cases r3 : x < 0
        · clear hr
          go_enter Tryz.func59, Tryz.ntmps59
          go_wp2_with fail
          go_ret
          exact ⟨⟨false, rfl, fun h => by cases h⟩, HW.out⟩
        · by_cases r4 : H < x
          · clear hr
            go_enter Tryz.func59, Tryz.ntmps59
            go_wp2_with fail
            go_ret
            exact ⟨⟨false, rfl, fun h => by cases h⟩, HW.out⟩
          · have r5 : n ≠ sl := fun e => hr ⟨by omega, by omega, by omega, by omega, e⟩
            have hne : ((n : Int) == (sl : Int)) = false := by simp; omega
            clear hr r5
            go_enter Tryz.func59, Tryz.ntmps59
            go_wp2_with fail
            go_ret
            exact ⟨⟨false, rfl, fun h => by cases h⟩, HW.out⟩
section
variable {F : Fl} {W x : Int} {at_ : Int → Int}
theorem boQ_can (ho : okFl F = true) (hc : canI F (allL F) = true) : boQ F = ⟨wA F, wB F, wC F, wD F⟩ := by
  unfold boQ
  rw [if_pos (rdE_0 ho rfl hc), knR_eq hc]
theorem tr_bo (h : OkF F) (f : Fair F W x at_) : wA F ≤ W * wB F ∧ W * wD F ≤ wC F := by
  have hc := tr_can h f (allL_ok F)
  obtain ⟨e1, e2⟩ := tr_bounds h f (allL_ok F)
  have B := knR_B h
  rw [knR_eq hc] at B
  have a0 := B.a0
  have b0 := B.b0
  have c0 := B.c0
  have d0 := B.d0
  have r1 := (low_le (n := 1000 * (solvedW F (allL F)).hi.d) (d := (solvedW F (allL F)).hi.n) (N := W) (D := 1) (by omega) c0 (by omega)).1
  have r2 := (low_le (n := 1000 * (solvedW F (allL F)).lo.d) (d := (solvedW F (allL F)).lo.n) (N := W) (D := 1) (by omega) a0 (by omega)).2
  rw [Int.mul_one, Int.mul_one] at r1 r2
  exact ⟨r1.2 e1, r2.2 e2⟩
theorem tr_we (h : OkF F) (f : Fair F W x at_) : (wA F).tdiv (wB F) ≤ W ∧ W ≤ (wC F + wD F - 1).tdiv (wD F) := by
  have hc := tr_can h f (allL_ok F)
  obtain ⟨e1, e2⟩ := tr_bo h f
  have B := knR_B h
  rw [knR_eq hc] at B
  have a0 := B.a0
  have b0 := B.b0
  have c0 := B.c0
  have d0 := B.d0
  have p1 := lowN_bd (n := 1000 * (solvedW F (allL F)).hi.d) (d := (solvedW F (allL F)).hi.n) (by omega) c0
  have p3 := lowN_bd (n := 1000 * (solvedW F (allL F)).lo.d) (d := (solvedW F (allL F)).lo.n) (by omega) a0
  have a1 : 0 ≤ wA F := p1.1.1
  have a2 : 0 < wB F := p1.2.1
  have a3 : 0 ≤ wC F := p3.1.1
  have a4 : 0 < wD F := p3.2.1
  rw [Int.tdiv_eq_ediv_of_nonneg a1, Int.tdiv_eq_ediv_of_nonneg (show 0 ≤ wC F + wD F - 1 by omega)]
  constructor
  · have : wA F / wB F < W + 1 := Int.ediv_lt_of_lt_mul a2 (by rw [Int.add_mul]; omega)
    omega
  · rw [Int.le_ediv_iff_mul_le a4]
    omega
theorem tr_se (h : OkF F) (f : Fair F W x at_) {i : Nat} (hi : i < F.s.length) : seL F (snA F.s i) ≤ at_ i ∧ at_ i ≤ seH F (snA F.s i) := by
  have hc := tr_can h f (allL_ok F)
  obtain ⟨⟨s1, s2⟩, _, _⟩ := f.s i (by omega) (by omega)
  obtain ⟨e1, e2⟩ := tr_seen h f (allL_ok F) (i := (i : Int)) (by omega) (by omega)
  have hs : sn F (i : Int) = snA F.s i := by simp [sn, snA]
  rw [hs] at s1 s2 e1 e2
  unfold seL seH rlB rhB
  rw [fun_un hc, fun_ov hc]
  refine ⟨by
    have : rcLo F (allL F) (endB (hgt F.v) (snA F.s i).k) = lastNot (fun n => decide (0 < n) && unM F (allL F) (endB (hgt F.v) (snA F.s i).k) n) 24 0 2097152 := rfl
    omega, ?_⟩
  split
  · rename_i h0
    have := e2 h0
    have e : rcHi F (allL F) (endA (snA F.s i).k) = firstNot (fun n => ovM F (allL F) (endA (snA F.s i).k) n) 24 0 2097152 := rfl
    omega
  · exact s2
end
def Bks (w : World) (L : List (Nat × TypeId × List Value)) : Prop := ∀ (i b : Nat) (T : TypeId) (cs : List Value), L[i]? = some (b, T, cs) → Bk w b T cs
theorem Bks.get {w : World} {L : List (Nat × TypeId × List Value)} (h : Bks w L) (i : Nat) {b : Nat} {T : TypeId} {cs : List Value} (e : L[i]? = some (b, T, cs)) : Bk w b T cs := h i b T cs e
theorem Bks.below {w w' : World} {L : List (Nat × TypeId × List Value)} (h : Bks w L) (hb : Below w.heap.size w w') : Bks w' L := fun i b T cs e => (h i b T cs e).below hb
theorem Bks.add {w : World} {L : List (Nat × TypeId × List Value)} (h : Bks w L) {b : Nat} {T : TypeId} {cs : List Value} (k : Bk w b T cs) : Bks w (L ++ [(b, T, cs)]) := fun i b' T' cs' e => by
  rcases Nat.lt_or_ge i L.length with c | c
  · rw [List.getElem?_append_left c] at e; exact h i _ _ _ e
  · rw [List.getElem?_append_right c] at e
    rcases Nat.eq_zero_or_pos (i - L.length) with c2 | c2
    · rw [c2] at e; simp at e; obtain ⟨rfl, rfl, rfl⟩ := e; exact k
    · rw [List.getElem?_eq_none (by simp; omega)] at e; cases e
theorem Bks.nil (w : World) : Bks w [] := fun i b T cs e => by simp at e
theorem Seen_w (F : Fl) (vv vs : Value) (i : Nat) (w : World) (hF : FlIn w F vv vs) (ho : okFl F = true) (hc : canI F (allL F) = true) (hi : i < F.s.length) : Calls Tryz.prog 24 #[flV F vv vs, .int .i64 (i : Int)] w fun e w' => e = .returned (.tuple #[.agg #[.int .i64 (seL F (snA F.s i)), .int .i64 (seH F (snA F.s i))], .int .i64 0]) ∧ Below w.heap.size w w' := by
  have h := Seen_any F vv vs (i : Int) w hF
  unfold seV seS at h
  rw [if_pos (rdE_0 ho (inB_tt (by omega) (by omega)) hc)] at h
  exact h
theorem Start_w (F : Fl) (vv vs : Value) (a b : Int) (w : World) (hF : FlIn w F vv vs) (ho : okFl F = true) (hc : canI F (allL F) = true) (ha : lvLo F (allL F) 0 = a) (hb : lvHi F (allL F) 0 = b) :
    Calls Tryz.prog 46 #[flV F vv vs] w fun e w' => e = .returned (.tuple #[.agg #[.int .i64 a, .int .i64 b], .int .i64 0]) ∧ Below w.heap.size w w' := by
  have h := Start_any F vv vs w hF
  unfold leV lvS at h
  rw [if_pos (rdE_0 ho (inB_tt (by omega) (by omega)) hc), fun_un2 hc, fun_ov2 hc] at h
  subst ha hb
  exact h
set_option maxRecDepth 100000 in
set_option maxHeartbeats 4000000 in
theorem law_wtrue (F : Fl) (vv vs : Value) (W x : Int) (a : List Int) (ao : Option Addr) (an ac : Nat) (lev mi : Int) (l : List Int) (o : Option Addr) (m c : Nat) (w : World) (hF : FlIn w F vv vs) (hT : (I64 W ∧ I64 x) ∧ Ints w (.slice ao an ac) a ∧ an ≤ ac) (_ : -9223372036854775808 ≤ lev) (_ : lev ≤ 9223372036854775807) (_ : -9223372036854775808 ≤ mi) (_ : mi ≤ 9223372036854775807) (hl : Ints w (.slice o m c) l ∧ m ≤ c) :
    Calls Tryz.prog 14 #[flV F vv vs, .agg #[.int .i64 W, .int .i64 x, .slice ao an ac], .int .i64 lev, .int .i64 mi, .slice o m c] w fun e w' => e = .returned (.bool true) ∧ Below w.heap.size w w' := by
  have hmc := hl.2
  obtain ⟨os, cs, rfl, ms⟩ := hF.s.parts
  obtain ⟨ov, cv, rfl, mv⟩ := hF.v.parts
  obtain ⟨sl, hsl⟩ : ∃ k, F.s.length = k := ⟨_, rfl⟩
  obtain ⟨vl, hvl⟩ : ∃ k, F.v.length = k := ⟨_, rfl⟩
  rw [hsl] at hF ms ⊢
  rw [hvl] at hF mv ⊢
  have HSL := Lib.hid hsl
  have HVL := Lib.hid hvl
  clear hsl hvl
  have HF := Lib.hid (hF.alloc (flO F (.slice ov vl cv) (.slice os sl cs)))
  have BP := Lib.hid (Bk.new w 30 (flL F (.slice ov vl cv) (.slice os sl cs)))
  clear hF
  have BT := Lib.hid (Bk.new1 w (flO F (.slice ov vl cv) (.slice os sl cs)) 74 [.int .i64 W, .int .i64 x, .slice ao an ac])
  have HL := Lib.hid ((hl.1.alloc (flO F (.slice ov vl cv) (.slice os sl cs))).alloc (Obj.cells #[.int .i64 W, .int .i64 x, .slice ao an ac] 74))
  have HA := Lib.hid ((hT.2.1.alloc (flO F (.slice ov vl cv) (.slice os sl cs))).alloc (Obj.cells #[.int .i64 W, .int .i64 x, .slice ao an ac] 74))
  have HLw := Lib.hid hl.1
  have HAw := Lib.hid hT.2.1
  clear hl hT
  go_enter Tryz.func14, Tryz.ntmps14
  go_wp2_with fail
  refine (sane_any _).mono ?_
  rintro e w1 ⟨rfl, hb⟩
  have HF1 := Lib.hid ((HF.out.alloc (Obj.cells #[.int .i64 W, .int .i64 x, .slice ao an ac] 74)).below hb)
  have HK1 := Lib.hid ((((Bks.nil _).add (BP.out.alloc (Obj.cells #[.int .i64 W, .int .i64 x, .slice ao an ac] 74))).add BT.out).below hb)
  have HL1 := Lib.hid (HL.out.below hb)
  have HA1 := Lib.hid (HA.out.below hb)
  have HB1 := Lib.hid (bafter (bafter hb))
  clear hb HF BP BT HL HA
  go_wp2_with (first | (refine ld_at rfl (T := 30) rfl rfl (HK1.out.get 0 rfl) Tryz.underlying30 rfl (by kernel_rfl) ?_) | (refine ld_at rfl (T := 74) rfl rfl (HK1.out.get 1 rfl) Tryz.underlying74 rfl (by kernel_rfl) ?_) | fail)
  cases ho : okFl F with
  | false =>
    refine (Check_c F _ _ 30 _ HF1.out (by unfold chkF; rw [if_neg (by rw [ho]; decide)])).mono ?_
    rintro e w2 ⟨rfl, hb⟩
    have HB2 := Lib.hid (bthen HB1.out hb)
    clear hb
    go_wp2_with fail
    go_ret
    exact ⟨rfl, HB2.out⟩
  | true =>
    have hO := (okFl_iff F).1 ho
    refine (Check_c F _ _ 0 _ HF1.out (by unfold chkF; rw [if_pos ho])).mono ?_
    rintro e w2 ⟨rfl, hb⟩
    have HF2 := Lib.hid (HF1.out.below hb)
    have HK2 := Lib.hid (HK1.out.below hb)
    have HL2 := Lib.hid (HL1.out.below hb)
    have HA2 := Lib.hid (HA1.out.below hb)
    have HB2 := Lib.hid (bthen HB1.out hb)
    clear hb HF1 HK1 HL1 HA1 HB1
    by_cases hm : m ≤ 24
    · have c0 := (HK2.out.get 0 rfl).cell 0
      have cl := (HK2.out.get 0 rfl).lt
      simp only [List.getElem?_cons_zero] at c0
      go_wp2_with fail
      clear c0 cl
      refine (times_l F _ _ HF2.out.v hO.v).mono ?_
      rintro e w3 ⟨⟨ta, tb, tc, rfl, hp⟩, hb⟩
      have HF3 := Lib.hid (HF2.out.below hb)
      have HK3 := Lib.hid (HK2.out.below hb)
      have HL3 := Lib.hid (HL2.out.below hb)
      have HA3 := Lib.hid (HA2.out.below hb)
      have HP3 := Lib.hid hp
      have HB3 := Lib.hid (bthen HB2.out hb)
      clear hb hp HF2 HK2 HL2 HA2 HB2
      go_wp2_with (first | (refine ld_at rfl (T := 30) rfl rfl (HK3.out.get 0 rfl) Tryz.underlying30 rfl (by kernel_rfl) ?_) | (refine ld_at rfl (T := 74) rfl rfl (HK3.out.get 1 rfl) Tryz.underlying74 rfl (by kernel_rfl) ?_) | fail)
      refine (fair_l F _ _ _ W x a ao an ac _ HF3.out HP3.out hO HA3.out).mono ?_
      rintro e w4 ⟨⟨fb, rfl, hfair⟩, hb⟩
      have HL4 := Lib.hid (HL3.out.below hb)
      have HA4 := Lib.hid (HA3.out.below hb)
      have HF4 := Lib.hid (HF3.out.below hb)
      have HP4 := Lib.hid (HP3.out.below hb)
      have HK4 := Lib.hid (HK3.out.below hb)
      have HB4 := Lib.hid (bthen HB3.out hb)
      clear HF3 HP3 HK3 HB3
      clear hb HL3 HA3
      cases fb with
      | false =>
        clear hfair
        go_wp2_with fail
        go_ret
        exact ⟨rfl, HB4.out⟩
      | true =>
        obtain ⟨hsl, hf⟩ := hfair rfl
        have HSN := Lib.hid hsl
        clear hfair hsl
        obtain ⟨H, hH⟩ : ∃ H, hgt F.v = H := ⟨_, rfl⟩
        try rw [hH]
        have HH := Lib.hid hH
        by_cases g1 : lev < 0
        · go_wp2_with fail
          go_ret
          exact ⟨rfl, HB4.out⟩
        · by_cases g2 : H < lev
          · go_wp2_with fail
            go_ret
            exact ⟨rfl, HB4.out⟩
          · by_cases g3 : mi < 0
            · go_wp2_with fail
              go_ret
              exact ⟨rfl, HB4.out⟩
            · by_cases g4 : 1048576 < mi
              · go_wp2_with fail
                go_ret
                exact ⟨rfl, HB4.out⟩
              · have hc := tr_can hO hf (allL_ok F)
                have hH0 := okF_hgt hO
                have hW : 0 ≤ W ∧ W ≤ 4000 := by have := hf.w1; have := hf.w2; have := hO.w1; have := hO.w3; omega
                obtain ⟨W0, W1⟩ := hW
                have hx0 := hf.x0
                have hxn := hf.xn
                obtain ⟨b1, b2⟩ := tr_bo hO hf
                obtain ⟨b3, b4⟩ := tr_we hO hf
                obtain ⟨b5, b6⟩ := tr_start hO hf (allL_ok F)
                have hbb := bounds_bd hO hc
                have hsee := fun (i : Nat) hi => tr_se hO hf (i := i) hi
                obtain ⟨v1, v2⟩ := tr_level hO hf (allL_ok F) (m := mi) (by omega)
                obtain ⟨v3, v4⟩ := tr_reached hO hf (allL_ok F) (l := lev) (by omega) (by omega)
                have lb1 := (lvLo_spec hO (allI_lt F) mi).1
                have lb2 := (lvHi_spec hO (allI_lt F) mi).1
                have rb1 := (rcLo_spec hO (allI_lt F) (x := lev) (by omega) (by omega)).1
                have rb2 := (rcHi_spec hO (allI_lt F) (x := lev) (by omega) (by omega)).1
                have rb3 := rc_le hO (allI_lt F) hc (x := lev) (by omega) (by omega)
                have hab : ∀ (w : World) (l m : Int), PtR w (.slice ta tb tc) F.v → 0 ≤ l → l ≤ hgt F.v → 0 ≤ m → m ≤ 2097152 → Calls Tryz.prog 60 #[.agg #[.int .i64 W, .int .i64 x, .slice ao an ac], .slice ta tb tc, .int .i64 l, .int .i64 m] w fun e w' => e = .returned (.tuple #[.int .i64 (sgn (cmT F W x l m)), .bool true]) ∧ Below w.heap.size w w' := fun w l m h l0 ln m0 m1 => above_l F _ W x l m ao an ac w h hO W0 W1 hx0 hxn l0 ln m0 m1
                have hbo := fun w h => Bounds_any F (.slice ov vl cv) (.slice os sl cs) w h
                simp only [boV_Q, boQ_can ho hc, rdE_0 ho rfl hc] at hbo
                have hwe := fun w h => Wear_any F (.slice ov vl cv) (.slice os sl cs) w h
                rw [weE_can ho hc] at hwe
                have p2b : 1 ≤ wB F ∧ wB F ≤ 480000000000 := hbb.1
                have p4b : 1 ≤ wD F ∧ wD F ≤ 480000000000 := hbb.2
                obtain ⟨q1, hq1⟩ : ∃ q, (wA F).tdiv (wB F) = q := ⟨_, rfl⟩
                obtain ⟨q2, hq2⟩ : ∃ q, (wC F + wD F - 1).tdiv (wD F) = q := ⟨_, rfl⟩
                rw [hq1, hq2] at hwe
                rw [hq1] at b3
                rw [hq2] at b4
                obtain ⟨p1, hp1⟩ : ∃ q, wA F = q := ⟨_, rfl⟩
                obtain ⟨p2, hp2⟩ : ∃ q, wB F = q := ⟨_, rfl⟩
                obtain ⟨p3, hp3⟩ : ∃ q, wC F = q := ⟨_, rfl⟩
                obtain ⟨p4, hp4⟩ : ∃ q, wD F = q := ⟨_, rfl⟩
                simp only [hp1, hp2, hp3, hp4] at hbo
                rw [hp1, hp2] at b1
                rw [hp3, hp4] at b2
                rw [hp2] at p2b
                rw [hp4] at p4b
                have m1 := mul_bd W0 W1 (show 0 ≤ p2 by omega) p2b.2
                have m2 := mul_bd W0 W1 (show 0 ≤ p4 by omega) p4b.2
                obtain ⟨z1, hz1⟩ : ∃ z, W * p2 = z := ⟨_, rfl⟩
                obtain ⟨z2, hz2⟩ : ∃ z, W * p4 = z := ⟨_, rfl⟩
                have hwz1 : IntKind.i64.wrap (W * p2) = z1 := by rw [IntWalk.i64_in _ (by omega)]; exact hz1
                have hwz2 : IntKind.i64.wrap (W * p4) = z2 := by rw [IntWalk.i64_in _ (by omega)]; exact hz2
                rw [hz1] at b1
                rw [hz2] at b2
                obtain ⟨s1, hs1⟩ : ∃ q, lvLo F (allL F) 0 = q := ⟨_, rfl⟩
                obtain ⟨s2, hs2⟩ : ∃ q, lvHi F (allL F) 0 = q := ⟨_, rfl⟩
                obtain ⟨y1, hy1⟩ : ∃ q, lvLo F (allL F) mi = q := ⟨_, rfl⟩
                obtain ⟨y2, hy2⟩ : ∃ q, lvHi F (allL F) mi = q := ⟨_, rfl⟩
                obtain ⟨u1, hu1⟩ : ∃ q, rcLo F (allL F) lev = q := ⟨_, rfl⟩
                obtain ⟨u2, hu2⟩ : ∃ q, rcHi F (allL F) lev = q := ⟨_, rfl⟩
                rw [hs1] at b5
                rw [hs2] at b6
                rw [hy1] at v1 lb1
                rw [hy2] at v2 lb2
                rw [hu2] at v3 rb2 rb3
                rw [hu1] at v4 rb1 rb3
                rw [hH] at lb1 lb2 hxn
                obtain ⟨⟨lb3, lb4⟩, lb5, lb6⟩ := And.intro lb1 lb2
                obtain ⟨⟨rb4, rb5⟩, rb6, rb7⟩ := And.intro rb1 rb2
                have hck : ckV F l = 32 := by
                  rcases ck_or F l with h | h | h
                  · exact absurd h (ck_can hO hc)
                  · exact h
                  · unfold ckV at h; rw [if_pos ho] at h; split at h <;> omega
                obtain ⟨g5, hg5⟩ : ∃ g, sgn (cmT F W x y1 mi) = g := ⟨_, rfl⟩
                obtain ⟨g6, hg6⟩ : ∃ g, sgn (cmT F W x y2 mi) = g := ⟨_, rfl⟩
                obtain ⟨g7, hg7⟩ : ∃ g, sgn (cmT F W x lev u2) = g := ⟨_, rfl⟩
                obtain ⟨g8, hg8⟩ : ∃ g, sgn (cmT F W x lev (max 0 (u1 - 1))) = g := ⟨_, rfl⟩
                have o5 : g5 ≤ 0 := by rw [← hg5]; exact (sgn_le _).1.2 v1
                have o6 : 0 ≤ g6 := by rw [← hg6]; exact (sgn_le _).2.2 v2
                have o7 : 0 ≤ g7 := by rw [← hg7]; exact (sgn_le _).2.2 v3
                have o8 : 0 < u1 → g8 < 0 := fun h => by
                  have e : max 0 (u1 - 1) = u1 - 1 := by omega
                  rw [e] at hg8
                  have := v4 h
                  rw [← hg8]
                  unfold sgn
                  rw [if_pos this]
                  decide
                have HAB := Lib.hid hab
                have HBO := Lib.hid hbo
                have HWE := Lib.hid hwe
                have HCK := Lib.hid hck
                have HSEE := Lib.hid hsee
                have HSS := Lib.hid (And.intro hs1 hs2)
                have HYY := Lib.hid (And.intro hy1 hy2)
                have HUU := Lib.hid (And.intro hu1 hu2)
                have HG := Lib.hid (And.intro (And.intro hg5 hg6) (And.intro hg7 hg8))
                have O8 := Lib.hid o8
                clear hab hbo hwe hck hsee hs1 hs2 hy1 hy2 hu1 hu2 hg5 hg6 hg7 hg8 o8 v1 v2 v3 v4 lb1 lb2 rb1 rb2 hp1 hp2 hp3 hp4 hq1 hq2 hz1 hz2 hbb hf hH m1 m2
                go_wp2_with (first | (refine ld_at rfl (T := 30) rfl rfl (HK4.out.get 0 rfl) Tryz.underlying30 rfl (by kernel_rfl) ?_) | (refine ld_at rfl (T := 74) rfl rfl (HK4.out.get 1 rfl) Tryz.underlying74 rfl (by kernel_rfl) ?_) | fail)
                refine (Possible_c F _ _ true _ HF4.out ho hc).mono ?_
                rintro e w5 ⟨rfl, hb⟩
                have HF5 := Lib.hid (HF4.out.below hb)
                have HP5 := Lib.hid (HP4.out.below hb)
                have HK5 := Lib.hid (HK4.out.below hb)
                have HB5 := Lib.hid (bthen HB4.out hb)
                clear HF4 HP4 HK4 HB4
                clear hb
                go_wp2_with (first | (refine ld_at rfl (T := 30) rfl rfl (HK5.out.get 0 rfl) Tryz.underlying30 rfl (by kernel_rfl) ?_) | (refine ld_at rfl (T := 74) rfl rfl (HK5.out.get 1 rfl) Tryz.underlying74 rfl (by kernel_rfl) ?_) | fail)
                refine (HBO.out _ HF5.out).mono ?_
                rintro e w6 ⟨rfl, hb⟩
                have hb' := (hb.alloc hb.size (Obj.cells #[.int .i64 p1, .int .i64 p2] 41)).alloc (Nat.le_trans hb.size (by simp)) (Obj.cells #[.int .i64 p3, .int .i64 p4] 41)
                have HF6 := Lib.hid (HF5.out.below hb')
                have HP6 := Lib.hid (HP5.out.below hb')
                have HK6 := Lib.hid (HK5.out.below hb')
                have HB6 := Lib.hid (bthen HB5.out hb')
                clear HF5 HP5 HK5 HB5
                have HK6 := Lib.hid ((HK6.out.add ((Bk.new w6 41 [.int .i64 p1, .int .i64 p2]).alloc (Obj.cells #[.int .i64 p3, .int .i64 p4] 41))).add (Bk.new1 w6 (Obj.cells #[.int .i64 p1, .int .i64 p2] 41) 41 [.int .i64 p3, .int .i64 p4]))
                clear hb hb'
                go_wp2_with (first | (refine ld_at rfl (T := 30) rfl rfl (HK6.out.get 0 rfl) Tryz.underlying30 rfl (by kernel_rfl) ?_) | (refine ld_at rfl (T := 74) rfl rfl (HK6.out.get 1 rfl) Tryz.underlying74 rfl (by kernel_rfl) ?_) | fail)
                refine (HWE.out _ HF6.out).mono ?_
                rintro e w7 ⟨rfl, hb⟩
                have hb' := hb.alloc hb.size (Obj.cells #[.int .i64 q1, .int .i64 q2] 27)
                have HF7 := Lib.hid (HF6.out.below hb')
                have HP7 := Lib.hid (HP6.out.below hb')
                have HK7 := Lib.hid (HK6.out.below hb')
                have HB7 := Lib.hid (bthen HB6.out hb')
                clear HF6 HP6 HK6 HB6
                have HK7 := Lib.hid (HK7.out.add (Bk.new w7 27 [.int .i64 q1, .int .i64 q2]))
                clear hb hb'
                go_wp2_with (first | (refine ld_at rfl (T := 30) rfl rfl (HK7.out.get 0 rfl) Tryz.underlying30 rfl (by kernel_rfl) ?_) | (refine ld_at rfl (T := 74) rfl rfl (HK7.out.get 1 rfl) Tryz.underlying74 rfl (by kernel_rfl) ?_) | fail)
                refine (Start_w F _ _ s1 s2 _ HF7.out ho hc HSS.out.1 HSS.out.2).mono ?_
                rintro e w8 ⟨rfl, hb⟩
                have hb' := hb.alloc hb.size (Obj.cells #[.int .i64 s1, .int .i64 s2] 27)
                have HF8 := Lib.hid (HF7.out.below hb')
                have HP8 := Lib.hid (HP7.out.below hb')
                have HK8 := Lib.hid (HK7.out.below hb')
                have HB8 := Lib.hid (bthen HB7.out hb')
                clear HF7 HP7 HK7 HB7
                have HK8 := Lib.hid (HK8.out.add (Bk.new w8 27 [.int .i64 s1, .int .i64 s2]))
                clear hb hb'
                have t0 := (HK8.out.get 1 rfl).cell 0
                have t1 := (HK8.out.get 1 rfl).cell 1
                have tl := (HK8.out.get 1 rfl).lt
                simp only [List.getElem?_cons_zero, List.getElem?_cons_succ] at t0 t1
                have a0 := (HK8.out.get 2 rfl).cell 0
                have a1 := (HK8.out.get 2 rfl).cell 1
                have al := (HK8.out.get 2 rfl).lt
                simp only [List.getElem?_cons_zero, List.getElem?_cons_succ] at a0 a1
                have b0 := (HK8.out.get 3 rfl).cell 0
                have b1 := (HK8.out.get 3 rfl).cell 1
                have bl := (HK8.out.get 3 rfl).lt
                simp only [List.getElem?_cons_zero, List.getElem?_cons_succ] at b0 b1
                have d0 := (HK8.out.get 4 rfl).cell 0
                have d1 := (HK8.out.get 4 rfl).cell 1
                have dl := (HK8.out.get 4 rfl).lt
                simp only [List.getElem?_cons_zero, List.getElem?_cons_succ] at d0 d1
                have e0 := (HK8.out.get 5 rfl).cell 0
                have e1 := (HK8.out.get 5 rfl).cell 1
                have el := (HK8.out.get 5 rfl).lt
                simp only [List.getElem?_cons_zero, List.getElem?_cons_succ] at e0 e1
                have f0 := (HK8.out.get 0 rfl).cell 0
                have f1 := (HK8.out.get 0 rfl).cell 1
                have f2 := (HK8.out.get 0 rfl).cell 2
                have f3 := (HK8.out.get 0 rfl).cell 3
                have f4 := (HK8.out.get 0 rfl).cell 4
                have f5 := (HK8.out.get 0 rfl).cell 5
                have fl := (HK8.out.get 0 rfl).lt
                simp only [List.getElem?_cons_zero, List.getElem?_cons_succ] at f0 f1 f2 f3 f4 f5
                go_wp2_with fail
                clear t0 t1 tl a0 a1 al b0 b1 bl d0 d1 dl e0 e1 el f0 f1 f2 f3 f4 f5 fl
                refine (CheckClash_any F _ _ l o m c _ HF8.out (HLw.out.below HB8.out) hmc (by omega)).mono ?_
                rw [HCK.out]
                rintro e w9 ⟨rfl, hb⟩
                have HF9 := Lib.hid (HF8.out.below hb)
                have HP9 := Lib.hid (HP8.out.below hb)
                have HK9 := Lib.hid (HK8.out.below hb)
                have HB9 := Lib.hid (bthen HB8.out hb)
                clear HF8 HP8 HK8 HB8
                clear hb
                have t2 := (HK9.out.get 1 rfl).cell 2
                have tl := (HK9.out.get 1 rfl).lt
                simp only [List.getElem?_cons_zero, List.getElem?_cons_succ] at t2
                go_wp2_with fail
                clear t2 tl
                go_loopw [172] (fun t wr => ∃ j : Nat, j ≤ an ∧ t = .int .i64 (j : Int) ∧ Hid (Below w9.heap.size w9 wr)) (fun t _ => an - (intOf t).toNat)
                case atStart => exact ⟨0, by omega, rfl, Lib.hid (Below.refl _ _)⟩
                case round =>
                  obtain ⟨j, hj, rfl, hbl⟩ := hrel
                  by_cases hjn : j < an
                  · as_aux_lemma =>
                    have hjs : j < F.s.length := by rw [← HSN.out]; exact hjn
                    have hjb : j < sl := by rw [← HSL.out]; exact hjs
                    obtain ⟨slo, hslo⟩ : ∃ q, seL F (snA F.s j) = q := ⟨_, rfl⟩
                    obtain ⟨shi, hshi⟩ : ∃ q, seH F (snA F.s j) = q := ⟨_, rfl⟩
                    obtain ⟨y, hy⟩ : ∃ q, a[j]?.getD 0 = q := ⟨_, rfl⟩
                    obtain ⟨ba, fa, rfl, hba, hca⟩ := ((HAw.out.below HB9.out).below hbl.out).cells (by omega)
                    have a0 := hca j hjn
                    have hse := HSEE.out j hjs
                    simp only [Int.toNat_natCast] at hse
                    rw [hslo, hshi, hy] at hse
                    rw [hy] at a0
                    have hsw := fun w h => Seen_w F (.slice ov vl cv) (.slice os sl cs) j w h ho hc hjs
                    simp only [hslo, hshi] at hsw
                    have HSW := Lib.hid hsw
                    obtain ⟨y1', y2'⟩ := hse
                    have hbe := hbl.out
                    have HFr := Lib.hid (HF9.out.below hbe)
                    have HKr := Lib.hid (HK9.out.below hbe)
                    clear hbe hsw hca hslo hshi hy
                    go_wp2_with (first | (refine ld_at rfl (T := 30) rfl rfl (HKr.out.get 0 rfl) Tryz.underlying30 rfl (by kernel_rfl) ?_) | (refine ld_at rfl (T := 74) rfl rfl (HKr.out.get 1 rfl) Tryz.underlying74 rfl (by kernel_rfl) ?_) | fail)
                    refine (HSW.out _ HFr.out).mono ?_
                    rintro e w10 ⟨rfl, hb⟩
                    have hb' := hb.alloc hb.size (Obj.cells #[.int .i64 slo, .int .i64 shi] 27)
                    have hx := Bk.new w10 27 [.int .i64 slo, .int .i64 shi]
                    have x0 := hx.cell 0
                    have x1 := hx.cell 1
                    have xl := hx.lt
                    simp only [List.getElem?_cons_zero, List.getElem?_cons_succ] at x0 x1
                    have HBM := Lib.hid (bthen hbl.out hb')
                    clear hb hb' hx HFr HKr HSW a0
                    go_wp2_with fail
                    exact ⟨⟨j + 1, by omega, by go_num, HBM⟩, by simp [intOf]; omega⟩
                  · as_aux_lemma =>
                    obtain rfl : j = an := by omega
                    have hbe := hbl.out
                    have HF10 := Lib.hid (HF9.out.below hbe)
                    have HP10 := Lib.hid (HP9.out.below hbe)
                    have HK10 := Lib.hid (HK9.out.below hbe)
                    have HB10 := Lib.hid (bthen HB9.out hbe)
                    clear HF9 HP9 HK9 HB9
                    clear hbe
                    go_wp2_with (first | (refine ld_at rfl (T := 30) rfl rfl (HK10.out.get 0 rfl) Tryz.underlying30 rfl (by kernel_rfl) ?_) | (refine ld_at rfl (T := 74) rfl rfl (HK10.out.get 1 rfl) Tryz.underlying74 rfl (by kernel_rfl) ?_) | fail)
                    refine (Level_yes F _ _ mi y1 y2 _ HF10.out ho hc (by omega) (by omega) HYY.out.1 HYY.out.2).mono ?_
                    rintro e w11 ⟨rfl, hb⟩
                    have hb' := hb.alloc hb.size (Obj.cells #[.int .i64 y1, .int .i64 y2] 27)
                    have HF11 := Lib.hid (HF10.out.below hb')
                    have HP11 := Lib.hid (HP10.out.below hb')
                    have HK11 := Lib.hid (HK10.out.below hb')
                    have HB11 := Lib.hid (bthen HB10.out hb')
                    clear HF10 HP10 HK10 HB10
                    have HK11 := Lib.hid (HK11.out.add (Bk.new w11 27 [.int .i64 y1, .int .i64 y2]))
                    clear hb hb'
                    have xc0 := (HK11.out.get 6 rfl).cell 0
                    have xc1 := (HK11.out.get 6 rfl).cell 1
                    have xcl := (HK11.out.get 6 rfl).lt
                    simp only [List.getElem?_cons_zero, List.getElem?_cons_succ] at xc0 xc1
                    go_wp2_with (first | (refine ld_at rfl (T := 30) rfl rfl (HK11.out.get 0 rfl) Tryz.underlying30 rfl (by kernel_rfl) ?_) | (refine ld_at rfl (T := 74) rfl rfl (HK11.out.get 1 rfl) Tryz.underlying74 rfl (by kernel_rfl) ?_) | fail)
                    clear xc0 xc1 xcl
                    refine (HAB.out _ y1 mi HP11.out (by omega) (by rw [HH.out]; omega) (by omega) (by omega)).mono ?_
                    rw [HG.out.1.1]
                    rintro e w12 ⟨rfl, hb⟩
                    have HF12 := Lib.hid (HF11.out.below hb)
                    have HP12 := Lib.hid (HP11.out.below hb)
                    have HK12 := Lib.hid (HK11.out.below hb)
                    have HB12 := Lib.hid (bthen HB11.out hb)
                    clear HF11 HP11 HK11 HB11
                    clear hb
                    have xc0 := (HK12.out.get 6 rfl).cell 0
                    have xc1 := (HK12.out.get 6 rfl).cell 1
                    have xcl := (HK12.out.get 6 rfl).lt
                    simp only [List.getElem?_cons_zero, List.getElem?_cons_succ] at xc0 xc1
                    go_wp2_with (first | (refine ld_at rfl (T := 30) rfl rfl (HK12.out.get 0 rfl) Tryz.underlying30 rfl (by kernel_rfl) ?_) | (refine ld_at rfl (T := 74) rfl rfl (HK12.out.get 1 rfl) Tryz.underlying74 rfl (by kernel_rfl) ?_) | fail)
                    clear xc0 xc1 xcl
                    refine (HAB.out _ y2 mi HP12.out (by omega) (by rw [HH.out]; omega) (by omega) (by omega)).mono ?_
                    rw [HG.out.1.2]
                    rintro e w13 ⟨rfl, hb⟩
                    have HF13 := Lib.hid (HF12.out.below hb)
                    have HP13 := Lib.hid (HP12.out.below hb)
                    have HK13 := Lib.hid (HK12.out.below hb)
                    have HB13 := Lib.hid (bthen HB12.out hb)
                    clear HF12 HP12 HK12 HB12
                    clear hb
                    go_wp2_with (first | (refine ld_at rfl (T := 30) rfl rfl (HK13.out.get 0 rfl) Tryz.underlying30 rfl (by kernel_rfl) ?_) | (refine ld_at rfl (T := 74) rfl rfl (HK13.out.get 1 rfl) Tryz.underlying74 rfl (by kernel_rfl) ?_) | fail)
                    refine (Reached_yes F _ _ lev u1 u2 _ HF13.out ho hc (by omega) (by rw [HH.out]; omega) HUU.out.1 HUU.out.2).mono ?_
                    rintro e w14 ⟨rfl, hb⟩
                    have hb' := hb.alloc hb.size (Obj.cells #[.int .i64 u1, .int .i64 u2] 27)
                    have HF14 := Lib.hid (HF13.out.below hb')
                    have HP14 := Lib.hid (HP13.out.below hb')
                    have HK14 := Lib.hid (HK13.out.below hb')
                    have HB14 := Lib.hid (bthen HB13.out hb')
                    clear HF13 HP13 HK13 HB13
                    have HK14 := Lib.hid (HK14.out.add (Bk.new w14 27 [.int .i64 u1, .int .i64 u2]))
                    clear hb hb'
                    have xc0 := (HK14.out.get 7 rfl).cell 0
                    have xc1 := (HK14.out.get 7 rfl).cell 1
                    have xcl := (HK14.out.get 7 rfl).lt
                    simp only [List.getElem?_cons_zero, List.getElem?_cons_succ] at xc0 xc1
                    go_wp2_with (first | (refine ld_at rfl (T := 30) rfl rfl (HK14.out.get 0 rfl) Tryz.underlying30 rfl (by kernel_rfl) ?_) | (refine ld_at rfl (T := 74) rfl rfl (HK14.out.get 1 rfl) Tryz.underlying74 rfl (by kernel_rfl) ?_) | fail)
                    clear xc0 xc1 xcl
                    refine (HAB.out _ lev u2 HP14.out (by omega) (by rw [HH.out]; omega) (by omega) (by omega)).mono ?_
                    rw [HG.out.2.1]
                    rintro e w15 ⟨rfl, hb⟩
                    have HF15 := Lib.hid (HF14.out.below hb)
                    have HP15 := Lib.hid (HP14.out.below hb)
                    have HK15 := Lib.hid (HK14.out.below hb)
                    have HB15 := Lib.hid (bthen HB14.out hb)
                    clear HF14 HP14 HK14 HB14
                    clear hb
                    have xc0 := (HK15.out.get 7 rfl).cell 0
                    have xc1 := (HK15.out.get 7 rfl).cell 1
                    have xcl := (HK15.out.get 7 rfl).lt
                    simp only [List.getElem?_cons_zero, List.getElem?_cons_succ] at xc0 xc1
                    have hwr : IntKind.i64.wrap (u1 - 1) = u1 - 1 := IntWalk.i64_in _ (by omega)
                    go_wp2_with (first | (refine ld_at rfl (T := 30) rfl rfl (HK15.out.get 0 rfl) Tryz.underlying30 rfl (by kernel_rfl) ?_) | (refine ld_at rfl (T := 74) rfl rfl (HK15.out.get 1 rfl) Tryz.underlying74 rfl (by kernel_rfl) ?_) | fail)
                    clear xc0 xc1 xcl
                    refine (HAB.out _ lev (max 0 (u1 - 1)) HP15.out (by omega) (by rw [HH.out]; omega) (by omega) (by omega)).mono ?_
                    rw [HG.out.2.2]
                    rintro e w16 ⟨rfl, hb⟩
                    have HF16 := Lib.hid (HF15.out.below hb)
                    have HP16 := Lib.hid (HP15.out.below hb)
                    have HK16 := Lib.hid (HK15.out.below hb)
                    have HB16 := Lib.hid (bthen HB15.out hb)
                    clear HF15 HP15 HK15 HB15
                    clear hb
                    have xc0 := (HK16.out.get 7 rfl).cell 0
                    have xc1 := (HK16.out.get 7 rfl).cell 1
                    have xcl := (HK16.out.get 7 rfl).lt
                    simp only [List.getElem?_cons_zero, List.getElem?_cons_succ] at xc0 xc1
                    have o8 := O8.out
                    by_cases hu : u1 = 0
                    · go_wp2_with fail
                      go_ret
                      exact ⟨rfl, HB16.out⟩
                    · have o9 := o8 (by omega)
                      go_wp2_with fail
                      go_ret
                      exact ⟨rfl, HB16.out⟩
    · go_wp2_with fail
      go_ret
      exact ⟨rfl, HB2.out⟩
end Go.Proofs.YtnfndiafabhhdaaGreat
