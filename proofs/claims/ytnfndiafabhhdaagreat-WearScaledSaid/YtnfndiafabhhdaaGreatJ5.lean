/- With Wear narrowed to a wear within Bounds a case is possible, with one outside none is (WearNarrow): the walk. -/
import Derived.Test.YtnfndiafabhhdaaGreatF3
import Derived.Test.YtnfndiafabhhdaaGreatA5
import Derived.Test.YtnfndiafabhhdaaGreatF2
import Derived.Test.YtnfndiafabhhdaaGreatE9
import Derived.Deep.CutRange
import Derived.Test.YtnfndiafabhhdaaGreatA4
import Derived.Test.YtnfndiafabhhdaaGreatF1
namespace Go.Proofs.YtnfndiafabhhdaaGreat
open Go.ChangeShapes Go.WideShapes Go.ChangeAt Go.RowKit
theorem Check_c (F : Fl) (vv vs : Value) (c : Int) (w : World) (hF : FlIn w F vv vs) (hc : chkF F = c) : Calls Tryz.prog 37 #[flV F vv vs] w fun e w' => e = .returned (.int .i64 c) ∧ Below w.heap.size w w' := by
  rw [← hc]; exact Check_any F vv vs w hF
theorem Possible_c (F : Fl) (vv vs : Value) (b : Bool) (w : World) (hF : FlIn w F vv vs) (ho : okFl F = true) (hc : canI F (allL F) = b) : Calls Tryz.prog 35 #[flV F vv vs] w fun e w' => e = .returned (.tuple #[.bool b, .int .i64 0]) ∧ Below w.heap.size w w' := by
  have := Possible_any F vv vs w hF
  rw [ho, hc, Bool.true_and] at this
  unfold chkF at this
  rwa [if_pos ho] at this
theorem Bounds_no (F : Fl) (vv vs : Value) (w : World) (hF : FlIn w F vv vs) (ho : okFl F = true) (hc : canI F (allL F) = false) : Calls Tryz.prog 32 #[flV F vv vs] w fun e w' => e = .returned (.tuple #[raZ, raZ, .int .i64 31]) ∧ Below w.heap.size w w' := by
  have h := Bounds_any F vv vs w hF
  have e : rdE F true = 31 := by unfold rdE; rw [if_pos ho, if_pos rfl, if_neg (by rw [hc]; decide)]
  unfold boV at h
  rwa [if_neg (by rw [e]; decide), e] at h
theorem Bounds_yes (F : Fl) (vv vs : Value) (w : World) (a1 a2 b1 b2 : Int) (hF : FlIn w F vv vs) (ho : okFl F = true) (hc : canI F (allL F) = true) (h1 : lowN1 (1000 * (solvedW F (allL F)).hi.d) (solvedW F (allL F)).hi.n = a1) (h2 : lowN2 (1000 * (solvedW F (allL F)).hi.d) (solvedW F (allL F)).hi.n = a2)
    (h3 : lowN1 (1000 * (solvedW F (allL F)).lo.d) (solvedW F (allL F)).lo.n = b1) (h4 : lowN2 (1000 * (solvedW F (allL F)).lo.d) (solvedW F (allL F)).lo.n = b2) : Calls Tryz.prog 32 #[flV F vv vs] w fun e w' => e = .returned (.tuple #[.agg #[.int .i64 a1, .int .i64 a2], .agg #[.int .i64 b1, .int .i64 b2], .int .i64 0]) ∧ Below w.heap.size w w' := by
  have h := Bounds_any F vv vs w hF
  have e : rdE F true = 0 := by unfold rdE; rw [if_pos ho, if_pos rfl, if_pos hc]
  unfold boV at h
  rw [if_pos e, knR_eq hc] at h
  subst h1 h2 h3 h4
  exact h
theorem bounds_bd {F : Fl} (h : OkF F) (hc : canI F (allL F) = true) : (1 ≤ lowN2 (1000 * (solvedW F (allL F)).hi.d) (solvedW F (allL F)).hi.n ∧ lowN2 (1000 * (solvedW F (allL F)).hi.d) (solvedW F (allL F)).hi.n ≤ 480000000000) ∧ (1 ≤ lowN2 (1000 * (solvedW F (allL F)).lo.d) (solvedW F (allL F)).lo.n ∧ lowN2 (1000 * (solvedW F (allL F)).lo.d) (solvedW F (allL F)).lo.n ≤ 480000000000) := by
  have b := knR_B h
  rw [knR_eq hc] at b
  have h1 := lowN_bd (n := 1000 * (solvedW F (allL F)).hi.d) (d := (solvedW F (allL F)).hi.n) (by have := b.d0; omega) b.c0
  have h2 := lowN_bd (n := 1000 * (solvedW F (allL F)).lo.d) (d := (solvedW F (allL F)).lo.n) (by have := b.b0; omega) b.a0
  have := b.c1
  have := b.a1
  omega
set_option maxRecDepth 100000 in
set_option maxHeartbeats 4000000 in
theorem law_narrow (F : Fl) (vv vs : Value) (n : Int) (w : World) (hF : FlIn w F vv vs) (n1 : -9223372036854775808 ≤ n) (n2 : n ≤ 9223372036854775807) : Calls Tryz.prog 7 #[flV F vv vs, .int .i64 n] w fun e w' => e = .returned (.bool true) ∧ Below w.heap.size w w' := by
  obtain ⟨os, cs, rfl, ms⟩ := hF.s.parts
  obtain ⟨ov, cv, rfl, mv⟩ := hF.v.parts
  obtain ⟨sl, hsl⟩ : ∃ k, F.s.length = k := ⟨_, rfl⟩
  obtain ⟨vl, hvl⟩ : ∃ k, F.v.length = k := ⟨_, rfl⟩
  rw [hsl] at hF ms ⊢
  rw [hvl] at hF mv ⊢
  have HSL := Lib.hid hsl
  have HVL := Lib.hid hvl
  clear hsl hvl
  have HF := Lib.hid (hF.alloc (flO F (.slice ov vl cv) (.slice os sl cs)))
  have BP := Lib.hid (Bk.new w 30 (flL F (.slice ov vl cv) (.slice os sl cs)))
  clear hF
  go_enter Tryz.func7, Tryz.ntmps7
  go_wp2_with fail
  refine (sane_any _).mono ?_
  rintro e w1 ⟨rfl, hb⟩
  have HF1 := Lib.hid (HF.out.below hb)
  have BP1 := Lib.hid (BP.out.below hb)
  have HB1 := Lib.hid (bafter hb)
  clear hb HF BP
  go_wp2_with (first | (refine ld_at rfl (T := 30) rfl rfl BP1.out Tryz.underlying30 rfl (by kernel_rfl) ?_) | fail)
  by_cases hok : okFl F = true
  · have hO := (okFl_iff F).1 hok
    refine (Check_c F _ _ 0 w1 HF1.out (by unfold chkF; rw [if_pos hok])).mono ?_
    rintro e w2 ⟨rfl, hb⟩
    have HF2 := Lib.hid (HF1.out.below hb)
    have BP2 := Lib.hid (BP1.out.below hb)
    have HB2 := Lib.hid (bthen HB1.out hb)
    clear hb HF1 BP1 HB1
    have c3 := BP2.out.cell 3
    have c4 := BP2.out.cell 4
    simp only [List.getElem?_cons_zero, List.getElem?_cons_succ] at c3 c4
    by_cases h1 : n < F.wlo
    · go_wp2_with fail
      go_ret
      exact ⟨rfl, HB2.out⟩
    · by_cases h2 : n > F.whi
      · go_wp2_with fail
        go_ret
        exact ⟨rfl, HB2.out⟩
      · have hw1 : F.wlo ≤ n := by omega
        have hw2 : n ≤ F.whi := by omega
        have n0 : 0 < n := by have := hO.w1; omega
        have n4 : n ≤ 4000 := by have := hO.w3; omega
        have hG := okF_nar hO hw1 hw2
        have hGo := (okFl_iff _).2 hG
        have hall : allL (narF F n) = allL F := rfl
        have hmem : -2 ∈ allL F := by exact allI_mem.2 (by omega)
        have hnar := nar_can hO hw1 hw2 (fun i hi => (allL_ok F i hi).2) hmem
        go_wp2_with (first | (refine ld_at rfl (T := 30) rfl rfl BP2.out Tryz.underlying30 rfl (by kernel_rfl) ?_) | fail)
        cases hc : canI F (allL F) with
        | false =>
          have hn2 : canI (narF F n) (allL (narF F n)) = false := by
            cases hx : canI (narF F n) (allL F) with
            | false => rw [hall]; exact hx
            | true =>
              have := has_can hO (fun i hi => (allL_ok F i hi).2) n0 (hnar.1 hx)
              rw [hc] at this
              cases this
          refine (Bounds_no F _ _ w2 HF2.out hok hc).mono ?_
          rintro e w3 ⟨rfl, hb⟩
          have HF3 := Lib.hid (HF2.out.below hb)
          have BP3 := Lib.hid (BP2.out.below hb)
          have HB3 := Lib.hid (bthen HB2.out hb)
          have HGO := Lib.hid hGo
          have HN2 := Lib.hid hn2
          clear hb HF2 BP2 HB2 c3 c4 hO hG hGo hall hmem hnar hn2 hc hok
          have y0 := BP3.out.cell 0
          have y1 := BP3.out.cell 1
          have y2 := BP3.out.cell 2
          have y3 := BP3.out.cell 3
          have y4 := BP3.out.cell 4
          have y5 := BP3.out.cell 5
          have yl := BP3.out.lt
          simp only [List.getElem?_cons_zero, List.getElem?_cons_succ] at y0 y1 y2 y3 y4 y5
          go_wp2_with fail
          have hF4 : FlIn _ (narF F n) (.slice ov vl cv) (.slice os sl cs) := FlIn.mk ((((HF3.out.v.alloc raO).alloc raO).alloc (Obj.cells #[.slice ov vl cv, .int .i64 F.f.lv, .int .i64 F.f.er, .int .i64 n, .int .i64 n, .slice os sl cs] 30))) ((((HF3.out.s.alloc raO).alloc raO).alloc (Obj.cells #[.slice ov vl cv, .int .i64 F.f.lv, .int .i64 F.f.er, .int .i64 n, .int .i64 n, .slice os sl cs] 30)))
          refine (Possible_c (narF F n) _ _ false _ hF4 HGO.out HN2.out).mono ?_
          rintro e w4 ⟨rfl, hb⟩
          have HB4 := Lib.hid (HB3.out.trans ((bafter (bafter (bafter hb))).mono HB3.out.size))
          clear hb hF4 HF3 BP3 HB3 y0 y1 y2 y3 y4 y5 yl
          go_wp2_with fail
          go_ret
          exact ⟨rfl, HB4.out⟩
        | true =>
          have hbd := bounds_bd hO hc
          have hB := knR_B hO
          rw [knR_eq hc] at hB
          have k1 := (low_le (n := 1000 * (solvedW F (allL F)).hi.d) (d := (solvedW F (allL F)).hi.n) (N := n) (D := 1) (by have := hB.d0; omega) hB.c0 (by decide)).1
          have k2 := (low_le (n := 1000 * (solvedW F (allL F)).lo.d) (d := (solvedW F (allL F)).lo.n) (N := n) (D := 1) (by have := hB.b0; omega) hB.a0 (by decide)).2
          have hkey := hnar.trans (wear_in hc)
          rw [Int.mul_one] at k1 k2
          obtain ⟨a1, ha1⟩ : ∃ x, lowN1 (1000 * (solvedW F (allL F)).hi.d) (solvedW F (allL F)).hi.n = x := ⟨_, rfl⟩
          obtain ⟨a2, ha2⟩ : ∃ x, lowN2 (1000 * (solvedW F (allL F)).hi.d) (solvedW F (allL F)).hi.n = x := ⟨_, rfl⟩
          obtain ⟨b1, hb1⟩ : ∃ x, lowN1 (1000 * (solvedW F (allL F)).lo.d) (solvedW F (allL F)).lo.n = x := ⟨_, rfl⟩
          obtain ⟨b2, hb2⟩ : ∃ x, lowN2 (1000 * (solvedW F (allL F)).lo.d) (solvedW F (allL F)).lo.n = x := ⟨_, rfl⟩
          have hBo := Bounds_yes F _ _ w2 a1 a2 b1 b2 HF2.out hok hc ha1 ha2 hb1 hb2
          rw [ha2, hb2] at hbd
          rw [ha1, ha2, Int.mul_one] at k1
          rw [hb1, hb2, Int.mul_one] at k2
          rw [← k1, ← k2] at hkey
          have m1 := mul_bd (Int.le_of_lt n0) n4 (by omega : 0 ≤ a2) hbd.1.2
          have m2 := mul_bd (Int.le_of_lt n0) n4 (by omega : 0 ≤ b2) hbd.2.2
          obtain ⟨p1, hp1⟩ : ∃ x, n * a2 = x := ⟨_, rfl⟩
          obtain ⟨p2, hp2⟩ : ∃ x, n * b2 = x := ⟨_, rfl⟩
          rw [hp1] at hkey m1
          rw [hp2] at hkey m2
          have q1 : 1 ≤ a2 := hbd.1.1
          have q2 : a2 ≤ 480000000000 := hbd.1.2
          have q3 : 1 ≤ b2 := hbd.2.1
          have q4 : b2 ≤ 480000000000 := hbd.2.2
          have HGO := Lib.hid hGo
          have HKEY := Lib.hid hkey
          have HALL := Lib.hid hall
          refine hBo.mono ?_
          rintro e w3 ⟨rfl, hb⟩
          have HF3 := Lib.hid (HF2.out.below hb)
          have BP3 := Lib.hid (BP2.out.below hb)
          have HB3 := Lib.hid (bthen HB2.out hb)
          clear hb HF2 BP2 HB2 c3 c4 hO hG hGo hall hmem hnar hc hok hBo ha1 ha2 hb1 hb2 hbd hB k1 k2 hkey
          have y0 := BP3.out.cell 0
          have y1 := BP3.out.cell 1
          have y2 := BP3.out.cell 2
          have y3 := BP3.out.cell 3
          have y4 := BP3.out.cell 4
          have y5 := BP3.out.cell 5
          have yl := BP3.out.lt
          simp only [List.getElem?_cons_zero, List.getElem?_cons_succ] at y0 y1 y2 y3 y4 y5
          go_wp2_with fail
          have hF4 : FlIn _ (narF F n) (.slice ov vl cv) (.slice os sl cs) := FlIn.mk ((((HF3.out.v.alloc (Obj.cells #[.int .i64 a1, .int .i64 a2] 41)).alloc (Obj.cells #[.int .i64 b1, .int .i64 b2] 41)).alloc (Obj.cells #[.slice ov vl cv, .int .i64 F.f.lv, .int .i64 F.f.er, .int .i64 n, .int .i64 n, .slice os sl cs] 30))) ((((HF3.out.s.alloc (Obj.cells #[.int .i64 a1, .int .i64 a2] 41)).alloc (Obj.cells #[.int .i64 b1, .int .i64 b2] 41)).alloc (Obj.cells #[.slice ov vl cv, .int .i64 F.f.lv, .int .i64 F.f.er, .int .i64 n, .int .i64 n, .slice os sl cs] 30)))
          have hR1 := ((Bk.new w3 41 [.int .i64 a1, .int .i64 a2]).alloc (Obj.cells #[.int .i64 b1, .int .i64 b2] 41)).alloc (Obj.cells #[.slice ov vl cv, .int .i64 F.f.lv, .int .i64 F.f.er, .int .i64 n, .int .i64 n, .slice os sl cs] 30)
          have hR2 := (Bk.new1 w3 (Obj.cells #[.int .i64 a1, .int .i64 a2] 41) 41 [.int .i64 b1, .int .i64 b2]).alloc (Obj.cells #[.slice ov vl cv, .int .i64 F.f.lv, .int .i64 F.f.er, .int .i64 n, .int .i64 n, .slice os sl cs] 30)
          have HR1 := Lib.hid hR1
          have HR2 := Lib.hid hR2
          obtain ⟨b, hbb⟩ : ∃ b, canI (narF F n) (allL F) = b := ⟨_, rfl⟩
          refine (Possible_c (narF F n) _ _ b _ hF4 HGO.out (by rw [HALL.out]; exact hbb)).mono ?_
          rintro e w4 ⟨rfl, hb⟩
          have HB4 := Lib.hid (HB3.out.trans ((bafter (bafter (bafter hb))).mono HB3.out.size))
          have S1 := HR1.out.below hb
          have S2 := HR2.out.below hb
          have r1 := S1.cell 0
          have r2 := S1.cell 1
          have r3 := S2.cell 0
          have r4 := S2.cell 1
          simp only [List.getElem?_cons_zero, List.getElem?_cons_succ] at r1 r2 r3 r4
          have hkey := HKEY.out
          rw [hbb] at hkey
          have HP1 := Lib.hid hp1
          have HP2 := Lib.hid hp2
          have o1 : -9223372036854775808 ≤ n * a2 := by rw [hp1]; omega
          have o2 : n * a2 ≤ 9223372036854775807 := by rw [hp1]; omega
          have o3 : -9223372036854775808 ≤ n * b2 := by rw [hp2]; omega
          have o4 : n * b2 ≤ 9223372036854775807 := by rw [hp2]; omega
          rw [← hp1, ← hp2] at hkey
          clear hb hF4 HF3 BP3 HB3 y0 y1 y2 y3 y4 y5 yl hR1 hR2 HR1 HR2 S1 S2 hbb HKEY HALL hp1 hp2 m1 m2
          have HK := Lib.hid hkey
          clear hkey
          go_wp2_with fail
          all_goals
            go_ret
            refine ⟨ret_bool ?_, HB4.out⟩
            have hk := HK.out
            clear HK
            cases b <;> simp at hk ⊢ <;> omega
  · refine (Check_c F _ _ 30 w1 HF1.out (by unfold chkF; rw [if_neg hok])).mono ?_
    rintro e w2 ⟨rfl, hb⟩
    have HB2 := Lib.hid (bthen HB1.out hb)
    clear hb HF1 BP1 HB1
    go_wp2_with fail
    go_ret
    exact ⟨rfl, HB2.out⟩
theorem rdE_0 {F : Fl} {R : Bool} (ho : okFl F = true) (hR : R = true) (hc : canI F (allL F) = true) : rdE F R = 0 := by
  unfold rdE; rw [if_pos ho, if_pos hR, if_pos hc]
theorem rdE_31 {F : Fl} {R : Bool} (ho : okFl F = true) (hR : R = true) (hc : canI F (allL F) = false) : rdE F R = 31 := by
  unfold rdE; rw [if_pos ho, if_pos hR, if_neg (by rw [hc]; decide)]
theorem rdE_1 {F : Fl} {R : Bool} (ho : okFl F = true) (hR : R = false) : rdE F R = 1 := by
  unfold rdE; rw [if_pos ho, if_neg (by rw [hR]; decide)]
theorem inB_tt {n lo hi : Int} (a : lo ≤ n) (b : n ≤ hi) : inB n lo hi = true := by simp [inB, a, b]
theorem fun_un {F : Fl} (hc : canI F (allL F) = true) (x : Int) : (fun n => decide (0 < n) && unB F x n) = fun n => decide (0 < n) && unM F (allL F) x n := funext fun n => by rw [unB_eq hc]
theorem fun_ov {F : Fl} (hc : canI F (allL F) = true) (x : Int) : (fun n => ovB F x n) = fun n => ovM F (allL F) x n := funext fun n => ovB_eq hc x n
theorem fun_un2 {F : Fl} (hc : canI F (allL F) = true) (m : Int) : (fun n => decide (0 < n) && unB F n m) = fun n => decide (0 < n) && unM F (allL F) n m := funext fun n => by rw [unB_eq hc]
theorem fun_ov2 {F : Fl} (hc : canI F (allL F) = true) (m : Int) : (fun n => ovB F n m) = fun n => ovM F (allL F) n m := funext fun n => ovB_eq hc n m
theorem Reached_yes (F : Fl) (vv vs : Value) (x a b : Int) (w : World) (hF : FlIn w F vv vs) (ho : okFl F = true) (hc : canI F (allL F) = true) (x0 : 0 ≤ x) (xn : x ≤ hgt F.v) (ha : rcLo F (allL F) x = a) (hb : rcHi F (allL F) x = b) :
    Calls Tryz.prog 20 #[flV F vv vs, .int .i64 x] w fun e w' => e = .returned (.tuple #[.agg #[.int .i64 a, .int .i64 b], .int .i64 0]) ∧ Below w.heap.size w w' := by
  have h := Reached_any F vv vs x w hF
  unfold reV rcS at h
  rw [if_pos (rdE_0 ho (inB_tt x0 xn) hc), fun_un hc, fun_ov hc] at h
  subst ha hb
  exact h
theorem Reached_no (F : Fl) (vv vs : Value) (x c : Int) (w : World) (hF : FlIn w F vv vs) (hc : rdE F (inB x 0 (hgt F.v)) = c) (c0 : c ≠ 0) :
    Calls Tryz.prog 20 #[flV F vv vs, .int .i64 x] w fun e w' => e = .returned (.tuple #[raZ, .int .i64 c]) ∧ Below w.heap.size w w' := by
  have h := Reached_any F vv vs x w hF
  unfold reV at h
  rwa [hc, if_neg c0] at h
theorem Level_yes (F : Fl) (vv vs : Value) (m a b : Int) (w : World) (hF : FlIn w F vv vs) (ho : okFl F = true) (hc : canI F (allL F) = true) (m0 : 0 ≤ m) (mn : m ≤ 2097152) (ha : lvLo F (allL F) m = a) (hb : lvHi F (allL F) m = b) :
    Calls Tryz.prog 22 #[flV F vv vs, .int .i64 m] w fun e w' => e = .returned (.tuple #[.agg #[.int .i64 a, .int .i64 b], .int .i64 0]) ∧ Below w.heap.size w w' := by
  have h := Level_any F vv vs m w hF
  unfold leV lvS at h
  rw [if_pos (rdE_0 ho (inB_tt m0 mn) hc), fun_un2 hc, fun_ov2 hc] at h
  subst ha hb
  exact h
theorem Level_no (F : Fl) (vv vs : Value) (m c : Int) (w : World) (hF : FlIn w F vv vs) (hc : rdE F (inB m 0 2097152) = c) (c0 : c ≠ 0) :
    Calls Tryz.prog 22 #[flV F vv vs, .int .i64 m] w fun e w' => e = .returned (.tuple #[raZ, .int .i64 c]) ∧ Below w.heap.size w w' := by
  have h := Level_any F vv vs m w hF
  unfold leV at h
  rwa [hc, if_neg c0] at h
theorem asR_t {F : Fl} {x m : Int} (x0 : 0 ≤ x) (xn : x ≤ hgt F.v) (m0 : 0 ≤ m) (mn : m ≤ 2097152) : asR F x m = true := by unfold asR; rw [inB_tt x0 xn, inB_tt m0 mn]; rfl
theorem Surely_yes (F : Fl) (vv vs : Value) (x m : Int) (s : Bool) (w : World) (hF : FlIn w F vv vs) (ho : okFl F = true) (hc : canI F (allL F) = true) (x0 : 0 ≤ x) (xn : x ≤ hgt F.v) (m0 : 0 ≤ m) (mn : m ≤ 2097152) (hs : (!ovM F (allL F) x m) = s) :
    Calls Tryz.prog 28 #[flV F vv vs, .int .i64 x, .int .i64 m] w fun e w' => e = .returned (.tuple #[.bool s, .int .i64 0]) ∧ Below w.heap.size w w' := by
  have h := Surely_any F vv vs x m w hF
  unfold suV at h
  rw [if_pos (rdE_0 ho (asR_t x0 xn m0 mn) hc), ovB_eq hc, hs] at h
  exact h
theorem Ever_yes (F : Fl) (vv vs : Value) (x m : Int) (s : Bool) (w : World) (hF : FlIn w F vv vs) (ho : okFl F = true) (hc : canI F (allL F) = true) (x0 : 0 ≤ x) (xn : x ≤ hgt F.v) (m0 : 0 ≤ m) (mn : m ≤ 2097152) (hs : evM F (allL F) x m = s) :
    Calls Tryz.prog 30 #[flV F vv vs, .int .i64 x, .int .i64 m] w fun e w' => e = .returned (.tuple #[.bool s, .int .i64 0]) ∧ Below w.heap.size w w' := by
  have h := Ever_any F vv vs x m w hF
  unfold evV at h
  rw [if_pos (rdE_0 ho (asR_t x0 xn m0 mn) hc), evB_eq hc, hs] at h
  exact h
theorem allI_lt (F : Fl) : ∀ i ∈ allL F, i < (F.s.length : Int) := fun i hi => (allL_ok F i hi).2
def skA (F : Fl) (x y : Int) : Int := if rdE F (skR F x y) = 0 then skLo F (knR F).hi x y else 0
def skB (F : Fl) (x y : Int) : Int := if rdE F (skR F x y) = 0 then skHi F (knR F).lo x y else 0
theorem Sinks_c (F : Fl) (vv vs : Value) (x y a b e : Int) (w : World) (hF : FlIn w F vv vs) (ha : skA F x y = a) (hb : skB F x y = b) (he : rdE F (skR F x y) = e) :
    Calls Tryz.prog 26 #[flV F vv vs, .int .i64 x, .int .i64 y] w fun e' w' => e' = .returned (.tuple #[.agg #[.int .i64 a, .int .i64 b], .int .i64 e]) ∧ Below w.heap.size w w' := by
  have h := Sinks_any F vv vs x y w hF
  subst ha hb he
  unfold skV at h
  unfold skA skB
  by_cases h0 : rdE F (skR F x y) = 0
  · rw [if_pos h0, h0] at *
    simpa using h
  · rw [if_neg h0] at *
    simpa [h0] using h
theorem sk_bd {F : Fl} (h : OkF F) {b : Bd} (bn : 0 < b.n) (bd : 0 < b.d) (q : b.d ≤ 4 * b.n) {x y : Int} (y0 : 0 ≤ y) (yx : y ≤ x) (xn : x ≤ hgt F.v) :
    (0 ≤ skLo F b x y ∧ skLo F b x y ≤ 1920000000000) ∧ (0 ≤ skHi F b x y ∧ skHi F b x y ≤ 1920000000001) := by
  have D1 := tm_bd h.v (show 0 ≤ x by omega) xn
  have D2 := tm_bd h.v y0 (show y ≤ vX F.v F.v.length by unfold hgt at xn; omega)
  have L := tm_le h.v y0 yx xn
  have n0 : 0 ≤ skN F x y := by unfold skN; omega
  have m1 := mul_bd D1.1.1 D1.1.2 (Int.le_of_lt D2.2.1) D2.2.2
  have m2 := mul_bd D2.1.1 D2.1.2 (Int.le_of_lt D1.2.1) D1.2.2
  have n1 : skN F x y ≤ 480000000000 := by unfold skN; omega
  have d0 : 0 < skD F x y := Int.mul_pos D1.2.1 D2.2.1
  have e0 : 0 < skD F x y * b.n := Int.mul_pos d0 bn
  have e1 : b.n ≤ skD F x y * b.n := by
    have := Int.mul_le_mul_of_nonneg_right (show (1 : Int) ≤ skD F x y by omega) (Int.le_of_lt bn)
    omega
  have e2 : 0 ≤ skN F x y * b.d := Int.mul_nonneg n0 (Int.le_of_lt bd)
  have e3 : skN F x y * b.d ≤ 1920000000000 * (skD F x y * b.n) := by
    have h1 := Int.mul_le_mul_of_nonneg_right n1 (Int.le_of_lt bd)
    have h2 : 480000000000 * b.d ≤ 1920000000000 * b.n := by omega
    have h3 : 1920000000000 * b.n ≤ 1920000000000 * (skD F x y * b.n) := by omega
    omega
  have k0 : 0 ≤ skN F x y * b.d / (skD F x y * b.n) := Int.ediv_nonneg e2 (Int.le_of_lt e0)
  have k1 : skN F x y * b.d / (skD F x y * b.n) ≤ 1920000000000 := by
    have := Int.ediv_le_ediv e0 e3
    rwa [Int.mul_ediv_cancel _ (by omega)] at this
  unfold skLo skHi
  refine ⟨⟨k0, k1⟩, ?_⟩
  split <;> omega
set_option maxRecDepth 100000 in
set_option maxHeartbeats 4000000 in
theorem law_apart (F : Fl) (vv vs : Value) (a b c : Int) (w : World) (hF : FlIn w F vv vs) (_ : -9223372036854775808 ≤ a) (_ : a ≤ 9223372036854775807) (_ : -9223372036854775808 ≤ b) (_ : b ≤ 9223372036854775807) (_ : -9223372036854775808 ≤ c) (_ : c ≤ 9223372036854775807) : Calls Tryz.prog 9 #[flV F vv vs, .int .i64 a, .int .i64 b, .int .i64 c] w fun e w' => e = .returned (.bool true) ∧ Below w.heap.size w w' := by
  obtain ⟨os, cs, rfl, ms⟩ := hF.s.parts
  obtain ⟨ov, cv, rfl, mv⟩ := hF.v.parts
  obtain ⟨sl, hsl⟩ : ∃ k, F.s.length = k := ⟨_, rfl⟩
  obtain ⟨vl, hvl⟩ : ∃ k, F.v.length = k := ⟨_, rfl⟩
  rw [hsl] at hF ms ⊢
  rw [hvl] at hF mv ⊢
  have HSL := Lib.hid hsl
  have HVL := Lib.hid hvl
  clear hsl hvl
  have HF := Lib.hid (hF.alloc (flO F (.slice ov vl cv) (.slice os sl cs)))
  have BP := Lib.hid (Bk.new w 30 (flL F (.slice ov vl cv) (.slice os sl cs)))
  clear hF
  go_enter Tryz.func9, Tryz.ntmps9
  go_wp2_with fail
  refine (sane_any _).mono ?_
  rintro e w1 ⟨rfl, hb⟩
  have HF1 := Lib.hid (HF.out.below hb)
  have BP1 := Lib.hid (BP.out.below hb)
  have HB1 := Lib.hid (bafter hb)
  clear hb HF BP
  go_wp2_with (first | (refine ld_at rfl (T := 30) rfl rfl BP1.out Tryz.underlying30 rfl (by kernel_rfl) ?_) | fail)
  by_cases hok : okFl F = true
  · have hO := (okFl_iff F).1 hok
    refine (Check_c F _ _ 0 w1 HF1.out (by unfold chkF; rw [if_pos hok])).mono ?_
    rintro e w2 ⟨rfl, hb⟩
    have HF2 := Lib.hid (HF1.out.below hb)
    have BP2 := Lib.hid (BP1.out.below hb)
    have HB2 := Lib.hid (bthen HB1.out hb)
    clear HF1 BP1 HB1
    clear hb
    by_cases ab : a < b
    · go_wp2_with fail
      go_ret
      exact ⟨rfl, HB2.out⟩
    by_cases bc : b < c
    · go_wp2_with fail
      go_ret
      exact ⟨rfl, HB2.out⟩
    obtain ⟨xL, hxL⟩ : ∃ k, skA F a b = k := ⟨_, rfl⟩
    obtain ⟨xH, hxH⟩ : ∃ k, skB F a b = k := ⟨_, rfl⟩
    obtain ⟨x1, hx1⟩ : ∃ k, rdE F (skR F a b) = k := ⟨_, rfl⟩
    obtain ⟨yL, hyL⟩ : ∃ k, skA F b c = k := ⟨_, rfl⟩
    obtain ⟨yH, hyH⟩ : ∃ k, skB F b c = k := ⟨_, rfl⟩
    obtain ⟨y1, hy1⟩ : ∃ k, rdE F (skR F b c) = k := ⟨_, rfl⟩
    obtain ⟨zL, hzL⟩ : ∃ k, skA F a c = k := ⟨_, rfl⟩
    obtain ⟨zH, hzH⟩ : ∃ k, skB F a c = k := ⟨_, rfl⟩
    obtain ⟨z1, hz1⟩ : ∃ k, rdE F (skR F a c) = k := ⟨_, rfl⟩
    have HXL := Lib.hid hxL
    have HXH := Lib.hid hxH
    have HX1 := Lib.hid hx1
    have HYL := Lib.hid hyL
    have HYH := Lib.hid hyH
    have HY1 := Lib.hid hy1
    have HZL := Lib.hid hzL
    have HZH := Lib.hid hzH
    have HZ1 := Lib.hid hz1
    by_cases hP : 0 ≤ c ∧ a ≤ hgt F.v
    · have r1 : skR F a b = true := by unfold skR inB; simp; omega
      have r2 : skR F b c = true := by unfold skR inB; simp; omega
      have r3 : skR F a c = true := by unfold skR inB; simp; omega
      cases hc : canI F (allL F) with
      | true =>
        have e0 := rdE_0 hok (show true = true from rfl) hc
        rw [r1, e0] at hx1
        rw [r2, e0] at hy1
        rw [r3, e0] at hz1
        subst hx1 hy1 hz1
        unfold skA at hxL hyL hzL
        unfold skB at hxH hyH hzH
        rw [r1, if_pos e0] at hxL hxH
        rw [r2, if_pos e0] at hyL hyH
        rw [r3, if_pos e0] at hzL hzH
        obtain ⟨Q1, Q2⟩ := kn_quarter hO hc
        have B := knR_B hO
        have s1 := (sk_add hO B.c0 (x := a) (y := b) (z := c) (by omega) (by omega) (by omega)).1
        have s2 := (sk_add hO B.a0 (x := a) (y := b) (z := c) (by omega) (by omega) (by omega)).2
        have t1 := (sk_bd hO B.c0 B.d0 Q2 (x := a) (y := b) (by omega) (by omega) (by omega)).1
        have t2 := (sk_bd hO B.a0 B.b0 Q1 (x := a) (y := b) (by omega) (by omega) (by omega)).2
        have t3 := (sk_bd hO B.c0 B.d0 Q2 (x := b) (y := c) (by omega) (by omega) (by omega)).1
        have t4 := (sk_bd hO B.a0 B.b0 Q1 (x := b) (y := c) (by omega) (by omega) (by omega)).2
        have t5 := (sk_bd hO B.c0 B.d0 Q2 (x := a) (y := c) (by omega) (by omega) (by omega)).1
        have t6 := (sk_bd hO B.a0 B.b0 Q1 (x := a) (y := c) (by omega) (by omega) (by omega)).2
        have u : a = b → xL = 0 ∧ xH = 0 := by
          intro h
          subst h
          rw [← hxL, ← hxH]
          exact ⟨(sk_same F _ a).1, (sk_same F _ a).2⟩
        rw [hxL, hyL, hzL] at s1
        rw [hxH, hyH, hzH] at s2
        rw [hxL] at t1
        rw [hxH] at t2
        rw [hyL] at t3
        rw [hyH] at t4
        rw [hzL] at t5
        rw [hzH] at t6
        obtain ⟨t11, t12⟩ := t1
        obtain ⟨t21, t22⟩ := t2
        obtain ⟨t31, t32⟩ := t3
        obtain ⟨t41, t42⟩ := t4
        obtain ⟨t51, t52⟩ := t5
        obtain ⟨t61, t62⟩ := t6
        obtain ⟨s11, s12⟩ := s1
        obtain ⟨s21, s22⟩ := s2
        clear hxL hxH hyL hyH hzL hzH e0 Q1 Q2 B r1 r2 r3 hc hO hok hP
        go_wp2_with (first | (refine ld_at rfl (T := 30) rfl rfl BP2.out Tryz.underlying30 rfl (by kernel_rfl) ?_) | fail)
        refine (Sinks_c F _ _ a b xL xH _ _ HF2.out HXL.out HXH.out HX1.out).mono ?_
        rintro e w3 ⟨rfl, hb⟩
        have HF3 := Lib.hid ((HF2.out.below hb).alloc (Obj.cells #[.int .i64 xL, .int .i64 xH] 27))
        have BP3 := Lib.hid ((BP2.out.below hb).alloc (Obj.cells #[.int .i64 xL, .int .i64 xH] 27))
        have HB3 := Lib.hid ((bthen HB2.out hb).alloc (bthen HB2.out hb).size (Obj.cells #[.int .i64 xL, .int .i64 xH] 27))
        have HN3 := Lib.hid (Bk.new w3 27 [.int .i64 xL, .int .i64 xH])
        clear HF2 BP2 HB2
        clear hb
        go_wp2_with (first | (refine ld_at rfl (T := 30) rfl rfl BP3.out Tryz.underlying30 rfl (by kernel_rfl) ?_) | fail)
        refine (Sinks_c F _ _ b c yL yH _ _ HF3.out HYL.out HYH.out HY1.out).mono ?_
        rintro e w4 ⟨rfl, hb⟩
        have HF4 := Lib.hid ((HF3.out.below hb).alloc (Obj.cells #[.int .i64 yL, .int .i64 yH] 27))
        have BP4 := Lib.hid ((BP3.out.below hb).alloc (Obj.cells #[.int .i64 yL, .int .i64 yH] 27))
        have HB4 := Lib.hid ((bthen HB3.out hb).alloc (bthen HB3.out hb).size (Obj.cells #[.int .i64 yL, .int .i64 yH] 27))
        have HN4 := Lib.hid (Bk.new w4 27 [.int .i64 yL, .int .i64 yH])
        clear HF3 BP3 HB3
        have HX4 := Lib.hid ((HN3.out.below hb).alloc (Obj.cells #[.int .i64 yL, .int .i64 yH] 27))
        clear hb HN3
        go_wp2_with (first | (refine ld_at rfl (T := 30) rfl rfl BP4.out Tryz.underlying30 rfl (by kernel_rfl) ?_) | fail)
        refine (Sinks_c F _ _ a c zL zH _ _ HF4.out HZL.out HZH.out HZ1.out).mono ?_
        rintro e w5 ⟨rfl, hb⟩
        have HF5 := Lib.hid ((HF4.out.below hb).alloc (Obj.cells #[.int .i64 zL, .int .i64 zH] 27))
        have BP5 := Lib.hid ((BP4.out.below hb).alloc (Obj.cells #[.int .i64 zL, .int .i64 zH] 27))
        have HB5 := Lib.hid ((bthen HB4.out hb).alloc (bthen HB4.out hb).size (Obj.cells #[.int .i64 zL, .int .i64 zH] 27))
        have HN5 := Lib.hid (Bk.new w5 27 [.int .i64 zL, .int .i64 zH])
        clear HF4 BP4 HB4
        have HX5 := HX4.out.below hb
        have HY5 := HN4.out.below hb
        have xc0 := HX5.cell 0
        have xc1 := HX5.cell 1
        have xcl := HX5.lt
        have yc0 := HY5.cell 0
        have yc1 := HY5.cell 1
        have ycl := HY5.lt
        simp only [List.getElem?_cons_zero, List.getElem?_cons_succ] at xc0 xc1 yc0 yc1
        clear hb HX4 HN4 HX5 HY5
        go_wp2_with fail
        have z5 := HN5.out.cell 0
        have z6 := HN5.out.cell 1
        have z7 := HN5.out.lt
        simp only [List.getElem?_cons_zero, List.getElem?_cons_succ] at z5 z6
        go_quiet (fail)
        have HB6 := Lib.hid (below_drewN HB5.out)
        by_cases hab : a = b
        · obtain ⟨rfl, rfl⟩ := u hab
          subst hab
          clear u
          go_wp2_with fail
          all_goals
            go_ret
            exact ⟨rfl, HB6.out _⟩
        · clear u
          have hne : (a == b) = false := by simpa using hab
          go_wp2_with fail
          all_goals
            go_ret
            exact ⟨rfl, HB6.out _⟩
      | false =>
        have e0 := rdE_31 hok (show true = true from rfl) hc
        rw [r1, e0] at hx1
        rw [r2, e0] at hy1
        rw [r3, e0] at hz1
        subst hx1 hy1 hz1
        clear hxL hxH hyL hyH hzL hzH e0 r1 r2 r3 hc hO hok hP
        go_wp2_with (first | (refine ld_at rfl (T := 30) rfl rfl BP2.out Tryz.underlying30 rfl (by kernel_rfl) ?_) | fail)
        refine (Sinks_c F _ _ a b xL xH _ _ HF2.out HXL.out HXH.out HX1.out).mono ?_
        rintro e w3 ⟨rfl, hb⟩
        have HF3 := Lib.hid ((HF2.out.below hb).alloc (Obj.cells #[.int .i64 xL, .int .i64 xH] 27))
        have BP3 := Lib.hid ((BP2.out.below hb).alloc (Obj.cells #[.int .i64 xL, .int .i64 xH] 27))
        have HB3 := Lib.hid ((bthen HB2.out hb).alloc (bthen HB2.out hb).size (Obj.cells #[.int .i64 xL, .int .i64 xH] 27))
        have HN3 := Lib.hid (Bk.new w3 27 [.int .i64 xL, .int .i64 xH])
        clear HF2 BP2 HB2
        clear hb
        go_wp2_with (first | (refine ld_at rfl (T := 30) rfl rfl BP3.out Tryz.underlying30 rfl (by kernel_rfl) ?_) | fail)
        refine (Sinks_c F _ _ b c yL yH _ _ HF3.out HYL.out HYH.out HY1.out).mono ?_
        rintro e w4 ⟨rfl, hb⟩
        have HF4 := Lib.hid ((HF3.out.below hb).alloc (Obj.cells #[.int .i64 yL, .int .i64 yH] 27))
        have BP4 := Lib.hid ((BP3.out.below hb).alloc (Obj.cells #[.int .i64 yL, .int .i64 yH] 27))
        have HB4 := Lib.hid ((bthen HB3.out hb).alloc (bthen HB3.out hb).size (Obj.cells #[.int .i64 yL, .int .i64 yH] 27))
        have HN4 := Lib.hid (Bk.new w4 27 [.int .i64 yL, .int .i64 yH])
        clear HF3 BP3 HB3
        have HX4 := Lib.hid ((HN3.out.below hb).alloc (Obj.cells #[.int .i64 yL, .int .i64 yH] 27))
        clear hb HN3
        go_wp2_with (first | (refine ld_at rfl (T := 30) rfl rfl BP4.out Tryz.underlying30 rfl (by kernel_rfl) ?_) | fail)
        refine (Sinks_c F _ _ a c zL zH _ _ HF4.out HZL.out HZH.out HZ1.out).mono ?_
        rintro e w5 ⟨rfl, hb⟩
        have HF5 := Lib.hid ((HF4.out.below hb).alloc (Obj.cells #[.int .i64 zL, .int .i64 zH] 27))
        have BP5 := Lib.hid ((BP4.out.below hb).alloc (Obj.cells #[.int .i64 zL, .int .i64 zH] 27))
        have HB5 := Lib.hid ((bthen HB4.out hb).alloc (bthen HB4.out hb).size (Obj.cells #[.int .i64 zL, .int .i64 zH] 27))
        have HN5 := Lib.hid (Bk.new w5 27 [.int .i64 zL, .int .i64 zH])
        clear HF4 BP4 HB4
        have HX5 := HX4.out.below hb
        have HY5 := HN4.out.below hb
        have xc0 := HX5.cell 0
        have xc1 := HX5.cell 1
        have xcl := HX5.lt
        have yc0 := HY5.cell 0
        have yc1 := HY5.cell 1
        have ycl := HY5.lt
        simp only [List.getElem?_cons_zero, List.getElem?_cons_succ] at xc0 xc1 yc0 yc1
        clear hb HX4 HN4 HX5 HY5
        go_wp2_with fail
        go_ret
        exact ⟨rfl, HB5.out⟩
    · have r3 : skR F a c = false := by
        cases hx : skR F a c with
        | false => rfl
        | true => unfold skR inB at hx; simp at hx; omega
      rw [rdE_1 hok r3] at hz1
      subst hz1
      clear hxL hxH hyL hyH hzL hzH hx1 hy1 r3 hO hok hP
      go_wp2_with (first | (refine ld_at rfl (T := 30) rfl rfl BP2.out Tryz.underlying30 rfl (by kernel_rfl) ?_) | fail)
      refine (Sinks_c F _ _ a b xL xH _ _ HF2.out HXL.out HXH.out HX1.out).mono ?_
      rintro e w3 ⟨rfl, hb⟩
      have HF3 := Lib.hid ((HF2.out.below hb).alloc (Obj.cells #[.int .i64 xL, .int .i64 xH] 27))
      have BP3 := Lib.hid ((BP2.out.below hb).alloc (Obj.cells #[.int .i64 xL, .int .i64 xH] 27))
      have HB3 := Lib.hid ((bthen HB2.out hb).alloc (bthen HB2.out hb).size (Obj.cells #[.int .i64 xL, .int .i64 xH] 27))
      have HN3 := Lib.hid (Bk.new w3 27 [.int .i64 xL, .int .i64 xH])
      clear HF2 BP2 HB2
      clear hb
      go_wp2_with (first | (refine ld_at rfl (T := 30) rfl rfl BP3.out Tryz.underlying30 rfl (by kernel_rfl) ?_) | fail)
      refine (Sinks_c F _ _ b c yL yH _ _ HF3.out HYL.out HYH.out HY1.out).mono ?_
      rintro e w4 ⟨rfl, hb⟩
      have HF4 := Lib.hid ((HF3.out.below hb).alloc (Obj.cells #[.int .i64 yL, .int .i64 yH] 27))
      have BP4 := Lib.hid ((BP3.out.below hb).alloc (Obj.cells #[.int .i64 yL, .int .i64 yH] 27))
      have HB4 := Lib.hid ((bthen HB3.out hb).alloc (bthen HB3.out hb).size (Obj.cells #[.int .i64 yL, .int .i64 yH] 27))
      have HN4 := Lib.hid (Bk.new w4 27 [.int .i64 yL, .int .i64 yH])
      clear HF3 BP3 HB3
      have HX4 := Lib.hid ((HN3.out.below hb).alloc (Obj.cells #[.int .i64 yL, .int .i64 yH] 27))
      clear hb HN3
      go_wp2_with (first | (refine ld_at rfl (T := 30) rfl rfl BP4.out Tryz.underlying30 rfl (by kernel_rfl) ?_) | fail)
      refine (Sinks_c F _ _ a c zL zH _ _ HF4.out HZL.out HZH.out HZ1.out).mono ?_
      rintro e w5 ⟨rfl, hb⟩
      have HF5 := Lib.hid ((HF4.out.below hb).alloc (Obj.cells #[.int .i64 zL, .int .i64 zH] 27))
      have BP5 := Lib.hid ((BP4.out.below hb).alloc (Obj.cells #[.int .i64 zL, .int .i64 zH] 27))
      have HB5 := Lib.hid ((bthen HB4.out hb).alloc (bthen HB4.out hb).size (Obj.cells #[.int .i64 zL, .int .i64 zH] 27))
      have HN5 := Lib.hid (Bk.new w5 27 [.int .i64 zL, .int .i64 zH])
      clear HF4 BP4 HB4
      have HX5 := HX4.out.below hb
      have HY5 := HN4.out.below hb
      have xc0 := HX5.cell 0
      have xc1 := HX5.cell 1
      have xcl := HX5.lt
      have yc0 := HY5.cell 0
      have yc1 := HY5.cell 1
      have ycl := HY5.lt
      simp only [List.getElem?_cons_zero, List.getElem?_cons_succ] at xc0 xc1 yc0 yc1
      clear hb HX4 HN4 HX5 HY5
      go_wp2_with fail
      all_goals
        go_ret
        exact ⟨rfl, HB5.out⟩
  · refine (Check_c F _ _ 30 w1 HF1.out (by unfold chkF; rw [if_neg hok])).mono ?_
    rintro e w2 ⟨rfl, hb⟩
    have HB2 := Lib.hid (bthen HB1.out hb)
    clear hb HF1 BP1 HB1
    go_wp2_with fail
    go_ret
    exact ⟨rfl, HB2.out⟩
theorem sn_app (L : List Sn) (x : Sn) : cellsL (snF (L ++ [x])) 4 (L.length + 1) = cellsL (snF L) 4 L.length ++ [.int .i64 x.lo, .int .i64 x.hi, .int .i64 x.k.lv, .int .i64 x.k.er] := by
  rw [cellsL, cellsL_congr (g := snF L)]
  · have : snA (L ++ [x]) L.length = x := by simp [snA]
    simp [List.range_succ, snF, this]
  · intro i j hi _
    have : snA (L ++ [x]) i = snA L i := by simp [snA, List.getElem?_append_left hi]
    simp only [snF, this]
section
variable {F : Fl} {A : List Int} {x : Int}
theorem wid2 (h : x = -2) : widF F (A ++ [x]) = ⟨F.v, (widF F A).f, F.wlo, F.whi, (widF F A).s⟩ := by
  subst h
  simp [widF]
theorem wid1 (h : x = -1) : widF F (A ++ [x]) = ⟨F.v, F.f, (widF F A).wlo, (widF F A).whi, (widF F A).s⟩ := by
  subst h
  simp [widF]
theorem widS (h : 0 ≤ x) (h2 : x < F.s.length) : widF F (A ++ [x]) = ⟨F.v, (widF F A).f, (widF F A).wlo, (widF F A).whi, (widF F A).s ++ [sn F x]⟩ := by
  have e1 : ¬ (-1 : Int) = x := by omega
  have e2 : ¬ (-2 : Int) = x := by omega
  simp [widF, e1, e2, h, h2]
theorem widN (h1 : x ≠ -1) (h2 : x ≠ -2) (h3 : ¬ (0 ≤ x ∧ x < F.s.length)) : widF F (A ++ [x]) = widF F A := by
  have e1 : ¬ (-1 : Int) = x := by omega
  have e2 : ¬ (-2 : Int) = x := by omega
  have e3 : 0 ≤ x → ¬ x < F.s.length := fun a b => h3 ⟨a, b⟩
  simp [widF, e1, e2, List.filter_append]
  intro a
  exact Int.not_lt.1 (e3 a)
end
theorem take_it {l : List Int} {k : Nat} (hk : k < l.length) : l.take (k + 1) = l.take k ++ [l[k]?.getD 0] := by
  rw [List.take_add_one, List.getElem?_eq_getElem hk]
  rfl
theorem wid_len (F : Fl) (A : List Int) : (widF F A).s.length ≤ A.length := by
  simp only [widF, List.length_map]
  exact List.length_filter_le _ _
theorem step_stw {P : Program} {ops : Array Oper} {o : Oper} {a : Act} {w : World} {K : Act → World → Prop} {Q : Exit → Act → World → Prop} {X : Prop} (hgd : o.guard = none) {T : TypeId} {x y : Operand} (ho : o.op = .store T x y)
    {b : Nat} (hx : a.eval x = .pointer (some ⟨b, 0, none⟩)) {cs old : List Value} (hy : a.eval y = .agg cs.toArray) {T' : TypeId} (hg : Bk w b T' old) (hi : (P.info? T).map (·.size) = some cs.length)
    (hl : old.length = cs.length) (h1 : cs.all (·.oneCell') = true)
    (h : ∀ w', Bk w' b T' cs → Bes b w w' → K (a.put o.dst undef) w') : if Region.wanted o (yielded ops a.tmps) = true then Oper.wp P o a w K Q else X := by
  have hw : Region.wanted o (yielded ops a.tmps) = true := by simp [Region.wanted, hgd]
  rw [if_pos hw]
  exact wp_store_row T x y ho b cs.toArray hx hy T' old.toArray hg (by simpa using hi) (by simpa using hl) (by simpa using h1) (h _ (setRow_heap w b _ _ _ _ hg) (bes_setRow _))
set_option maxRecDepth 100000 in
set_option maxHeartbeats 4000000 in
theorem widest_any (F : Fl) (vv vs : Value) (l : List Int) (o : Option Addr) (m c : Nat) (w : World) (hF : FlIn w F vv vs) (hn : F.s.length ≤ 24) (hl : Ints w (.slice o m c) l) (hm : m ≤ 24) :
    Calls Tryz.prog 43 #[flV F vv vs, .int .i64 (hgt F.v), .slice o m c] w fun e w' => (∃ a b, e = .returned (flV (widF F l) vv (.slice a (widF F l).s.length b)) ∧ FlIn w' (widF F l) vv (.slice a (widF F l).s.length b)) ∧ Below w.heap.size w w' := by
  have hlen := hl.len
  obtain ⟨os, cs, rfl, ms⟩ := hF.s.parts
  obtain ⟨ov, cv, rfl, mv⟩ := hF.v.parts
  obtain ⟨ls, hls⟩ : ∃ n, F.s.length = n := ⟨_, rfl⟩
  obtain ⟨lv, hlv⟩ : ∃ n, F.v.length = n := ⟨_, rfl⟩
  have HSL := Lib.hid hls
  have HVL := Lib.hid hlv
  rw [hls] at hF hn ms ⊢
  rw [hlv] at hF mv ⊢
  have HF00 := Lib.hid hF
  have hF0 := (hF.alloc (flO F (.slice ov lv cv) (.slice os ls cs))).alloc (Obj.cells flZ.toArray 30)
  have hL0 := (hl.alloc (flO F (.slice ov lv cv) (.slice os ls cs))).alloc (Obj.cells flZ.toArray 30)
  have hB := (Bk.new w 30 (flL F (.slice ov lv cv) (.slice os ls cs))).alloc (Obj.cells flZ.toArray 30)
  have hZ := Bk.new1 w (flO F (.slice ov lv cv) (.slice os ls cs)) 30 flZ
  have hw0 : Below w.heap.size w ((w.alloc (flO F (.slice ov lv cv) (.slice os ls cs))).alloc (Obj.cells flZ.toArray 30)) := (ballo _ _).alloc (by simp) _
  obtain ⟨W, hW⟩ : ∃ W, (w.alloc (flO F (.slice ov lv cv) (.slice os ls cs))).alloc (Obj.cells flZ.toArray 30) = W := ⟨_, rfl⟩
  rw [hW] at hF0 hB hZ hw0 hL0
  have HF0 := Lib.hid hF0
  have HB := Lib.hid hB
  have HZ := Lib.hid hZ
  have HW0 := Lib.hid hw0
  have HL0 := Lib.hid hL0
  have c0 := hB.cell 0
  have cl := hB.lt
  simp only [flL, List.getElem?_cons_zero] at c0
  obtain ⟨H, hH⟩ : ∃ H, hgt F.v = H := ⟨_, rfl⟩
  have HH := Lib.hid hH
  rw [hH]
  clear hF0 hB hZ hw0 hL0 hF hl hls hlv hH
  go_enter Tryz.func43, Tryz.ntmps43
  go_upto_region 1 with fail
  try rw [hW]
  clear hW
  go_cut [7] from 10 to 15 (fun p wx => ∃ ob, p = .pointer (some ⟨ob, 0, none⟩) ∧ W.heap.size ≤ ob ∧ Hid (Bk wx ob 30 [.slice ov lv cv, .int .i64 H, .int .i64 1000, .int .i64 1, .int .i64 4000, .slice none 0 0]) ∧ Hid (Below W.heap.size W wx))
  case first =>
    refine WpK.begin (S := fun _ => True) (kp := fun _ => true) (f := 8) (up := #[false, false, false, false, false, false, false, false]) (by kernel_rfl) (by kernel_rfl) (by kernel_rfl) ?_
    refine WpK.take (i := 0) (v := ?_) ((toArray_at _ _).trans rfl) (by kernel_rfl) (by kernel_rfl) (by kernel_rfl) (by kernel_rfl) (by kernel_rfl) (fun _ _ _ h => h) (Or.inl ⟨by rfl, ?_⟩) trivial ?_
    rotate_left
    · (intro x hx; go_simp <;> with_reducible rfl)
    simp only [Act.put, puts]
    refine WpK.take (i := 2) (v := ?_) ((toArray_at _ _).trans rfl) (by kernel_rfl) (by kernel_rfl) (by kernel_rfl) (by kernel_rfl) (by kernel_rfl) (fun _ _ _ h => h) (Or.inl ⟨by rfl, ?_⟩) trivial ?_
    rotate_left
    · (intro x hx; go_simp <;> with_reducible rfl)
    simp only [Act.put, puts]
    refine WpK.take (i := 4) (v := ?_) ((toArray_at _ _).trans rfl) (by kernel_rfl) (by kernel_rfl) (by kernel_rfl) (by kernel_rfl) (by kernel_rfl) (fun _ _ _ h => h) (Or.inl ⟨by rfl, ?_⟩) trivial ?_
    rotate_left
    · (intro x hx; go_simp <;> with_reducible rfl)
    simp only [Act.put, puts]
    refine WpK.weaken (S := fun x => Below W.heap.size W x) (kp := (fun i => decide (i < 7))) (fun _ => trivial) _ ?_
    have hS0 := (show Below W.heap.size W W.drew from (Below.refl _ _).drew)
    refine WpK.take (i := 1) (v := ?_) ((toArray_at _ _).trans rfl) (by kernel_rfl) (by kernel_rfl) (by kernel_rfl) (by kernel_rfl) (by kernel_rfl) (fun _ _ _ h => h) (Or.inl ⟨by rfl, ?_⟩) hS0 ?_
    rotate_left
    · (intro x hx; obtain ⟨hcx, hfx⟩ := bcell hx; go_simp <;> with_reducible rfl)
    try simp only [Act.put, puts]
    clear hS0 c0
    refine WpK.two (i := 3) (k := 6) (by kernel_rfl) ((toArray_at _ _).trans rfl) ((toArray_at _ _).trans rfl) ?_ ?_
    all_goals
      intro K hK
      have HK := Lib.hid hK
      clear hK
    · go_simp
      refine (look_any H 1000 _).mono ?_
      rintro e W2 ⟨rfl, hb2⟩
      have hW2 : Below W.heap.size W W2 := Below.trans (Below.drew (Below.refl _ _)) hb2
      refine HK.out _ _ (fun _ => hW2) (fun _ => ?_)
      clear HK K
      try simp only [puts]
      have hS0 := hW2
      refine WpK.take (i := 5) (v := ?_) ((toArray_at _ _).trans rfl) (by kernel_rfl) (by kernel_rfl) (by kernel_rfl) (by kernel_rfl) (by kernel_rfl) (fun _ _ _ h => h) (Or.inl ⟨by rfl, ?_⟩) hS0 ?_
      rotate_left
      · (intro x hx; clear hx; go_simp <;> with_reducible rfl)
      try simp only [Act.put, puts]
      clear hS0
      refine WpK.one (i := 6) (by kernel_rfl) ((toArray_at _ _).trans rfl) ?_
      intro K hK
      have HK := Lib.hid hK
      clear hK
      go_simp
      have hX : Below W.heap.size W (W2.alloc (Obj.cells flZ.toArray 30)) := hW2.alloc hW2.size _
      refine HK.out _ _ (fun _ => hX) (fun _ => ?_)
      clear HK K
      try simp only [puts]
      refine WpK.one (i := 7) (by kernel_rfl) ((toArray_at _ _).trans rfl) ?_
      intro K hK
      have HK := Lib.hid hK
      clear hK
      refine step_stw rfl rfl rfl (cs := [.slice ov lv cv, .int .i64 H, .int .i64 1000, .int .i64 1, .int .i64 4000, .slice none 0 0]) rfl (Bk.new W2 _ flZ) (by kernel_rfl) rfl rfl ?_
      intro WX hkk hsk
      have hWX := bes_then hX hsk hW2.size hX.size
      refine HK.out _ _ (fun h => absurd h (by decide)) (fun _ => ?_)
      clear HK K
      try simp only [puts]
      refine WpK.done (by kernel_rfl) ?_
      have HKK := Lib.hid hkk
      have HWX := Lib.hid hWX
      go_wp2_with fail
      go_meet
      case rel => exact ⟨_, rfl, hW2.size, HKK, HWX⟩
    · go_simp
      have hX1 : Below W.heap.size W (W.drew.alloc (Obj.cells flZ.toArray 30)) := (Below.drew (Below.refl _ _)).alloc (Nat.le_refl _) _
      refine HK.out _ _ (fun _ => hX1) (fun _ => ?_)
      clear HK K
      try simp only [puts]
      refine WpK.one (i := 3) (by kernel_rfl) ((toArray_at _ _).trans rfl) ?_
      intro K hK
      have HK := Lib.hid hK
      clear hK
      go_simp
      refine (look_any H 1000 _).mono ?_
      rintro e W2 ⟨rfl, hb2⟩
      have hX : Below W.heap.size W W2 := hX1.trans (hb2.mono hX1.size)
      refine HK.out _ _ (fun _ => hX) (fun _ => ?_)
      clear HK K
      try simp only [puts]
      refine WpK.one (i := 5) (by kernel_rfl) ((toArray_at _ _).trans rfl) ?_
      intro K hK
      have HK := Lib.hid hK
      clear hK
      go_simp
      refine HK.out _ _ (fun _ => hX) (fun _ => ?_)
      clear HK K
      try simp only [puts]
      refine WpK.one (i := 7) (by kernel_rfl) ((toArray_at _ _).trans rfl) ?_
      intro K hK
      have HK := Lib.hid hK
      clear hK
      refine step_stw rfl rfl rfl (cs := [.slice ov lv cv, .int .i64 H, .int .i64 1000, .int .i64 1, .int .i64 4000, .slice none 0 0]) rfl ((Bk.new W.drew _ flZ).below hb2) (by kernel_rfl) rfl rfl ?_
      intro WX hkk hsk
      have hWX := bes_then hX hsk (Nat.le_refl _) hX.size
      refine HK.out _ _ (fun h => absurd h (by decide)) (fun _ => ?_)
      clear HK K
      try simp only [puts]
      refine WpK.done (by kernel_rfl) ?_
      have HKK := Lib.hid hkk
      have HWX := Lib.hid hWX
      go_wp2_with fail
      go_meet
      case rel => exact ⟨_, rfl, (Nat.le_refl _), HKK, HWX⟩
  case rest =>
    rename World => w1
    obtain ⟨ob, rfl, hob, HO1, H01⟩ := hcut
    clear c0
    go_wp2_with fail
    go_loopw [18] (fun t wr => ∃ (k : Nat) (v : Value), k ≤ m ∧ t = .int .i64 (k : Int) ∧ Hid (wr.ownsRow (ob + 1) 88 4 v (widF F (l.take k)).s.length (cellsL (snF (widF F (l.take k)).s) 4 (widF F (l.take k)).s.length)) ∧ Hid (Bk wr ob 30 [.slice ov lv cv, .int .i64 (widF F (l.take k)).f.lv, .int .i64 (widF F (l.take k)).f.er, .int .i64 (widF F (l.take k)).wlo, .int .i64 (widF F (l.take k)).whi, v]) ∧ Hid (Below W.heap.size W wr)) (fun t _ => m - (intOf t).toNat)
    case atStart =>
      refine ⟨0, .slice none 0 0, Nat.zero_le _, rfl, Lib.hid (World.ownsRow_nil _ _ _ _), Lib.hid ?_, H01⟩
      have e : widF F (l.take 0) = ⟨F.v, ⟨H, 1000⟩, 1, 4000, []⟩ := by rw [← HH.out]; simp [widF]
      rw [e]
      exact HO1.out
    case round =>
      obtain ⟨k, v, hk, rfl, hOw, hBk, hBl⟩ := hrel
      have hF := HB.out.below hBl.out
      have c1 := hF.cell 1
      have c2 := hF.cell 2
      have c3 := hF.cell 3
      have c4 := hF.cell 4
      have c5 := hF.cell 5
      have cl := hF.lt
      simp only [flL, List.getElem?_cons_zero, List.getElem?_cons_succ] at c1 c2 c3 c4 c5
      have hq1 := hBk.out.cell 1
      have hq2 := hBk.out.cell 2
      have hq3 := hBk.out.cell 3
      have hq4 := hBk.out.cell 4
      have hq5 := hBk.out.cell 5
      have hr1 := hBk.out.frozen 1
      have hr2 := hBk.out.frozen 2
      have hr3 := hBk.out.frozen 3
      have hr4 := hBk.out.frozen 4
      have hql := hBk.out.lt
      simp only [List.getElem?_cons_zero, List.getElem?_cons_succ] at hq1 hq2 hq3 hq4 hq5
      have hneb : ob ≠ w.heap.size := by have := HB.out.lt; omega
      clear hF
      by_cases hkm : k < m
      · have hst := take_it (l := l) (k := k) (by omega)
        obtain ⟨p, off, rfl, hp, hcs⟩ := (HL0.out.below hBl.out).cells (by omega)
        have d0 := hcs k hkm
        obtain ⟨x, hx⟩ : ∃ x, l[k]?.getD 0 = x := ⟨_, rfl⟩
        rw [hx] at d0 hst
        have hwl := wid_len F (l.take k)
        rw [List.length_take] at hwl
        have hsp1 := fun h => wid1 (F := F) (A := l.take k) (x := x) h
        have hsp2 := fun h => wid2 (F := F) (A := l.take k) (x := x) h
        have hsp3 := fun h1 h2 => widS (F := F) (A := l.take k) (x := x) h1 h2
        have hsp4 := fun h1 h2 h3 => widN (F := F) (A := l.take k) (x := x) h1 h2 h3
        rw [← hst] at hsp1 hsp2 hsp3 hsp4
        obtain ⟨G, hG⟩ : ∃ G, widF F (l.take k) = G := ⟨_, rfl⟩
        rw [hG] at hsp1 hsp2 hsp3 hsp4 hOw hBk hq1 hq2 hq3 hq4 hwl
        have HWL := Lib.hid hwl
        clear hG hst hcs hx hwl
        by_cases h2 : x = -2
        · have HST := Lib.hid (hsp2 h2)
          subst h2
          clear hsp1 hsp2 hsp3 hsp4
          go_wp2_with fail
          refine ⟨⟨k + 1, v, by omega, by go_num, ?_, ?_, Lib.hid ((hBl.out.setCell hob _).setCell hob _)⟩, by simp [intOf]; omega⟩
          · rw [HST.out]
            exact Lib.hid (OwnR.setCell (OwnR.setCell (show OwnR wr (ob + 1) 88 4 v G.s.length (snF G.s) from hOw.out) (Nat.lt_succ_self _) _) (Nat.lt_succ_self _) _)
          · rw [HST.out]
            exact Lib.hid ((hBk.out.set 3 _).set 4 _)
        · have hne2 : (x == -2) = false := by simpa using h2
          by_cases h1 : x = -1
          · have HST := Lib.hid (hsp1 h1)
            subst h1
            clear hsp1 hsp2 hsp3 hsp4
            go_wp2_with fail
            refine ⟨⟨k + 1, v, by omega, by go_num, ?_, ?_, Lib.hid ((hBl.out.setCell hob _).setCell hob _)⟩, by simp [intOf]; omega⟩
            · rw [HST.out]
              exact Lib.hid (OwnR.setCell (OwnR.setCell (show OwnR wr (ob + 1) 88 4 v G.s.length (snF G.s) from hOw.out) (Nat.lt_succ_self _) _) (Nat.lt_succ_self _) _)
            · rw [HST.out]
              exact Lib.hid ((hBk.out.set 1 _).set 2 _)
          · have hne1 : (x == -1) = false := by simpa using h1
            by_cases h3 : 0 ≤ x ∧ x < F.s.length
            · have HST := Lib.hid (hsp3 h3.1 h3.2)
              rw [HSL.out] at h3
              obtain ⟨h30, h31⟩ := h3
              clear hsp1 hsp2 hsp3 hsp4
              obtain ⟨ix, rfl⟩ : ∃ k : Nat, x = (k : Int) := ⟨x.toNat, by omega⟩
              have hFr := HF0.out.s.below hBl.out
              obtain ⟨bs, fs, rfl, hbs, hcs⟩ := hFr.cells (by rw [HSL.out]; omega)
              have e0 := hcs ix 0 (by rw [HSL.out]; omega) (by omega)
              have e1 := hcs ix 1 (by rw [HSL.out]; omega) (by omega)
              have e2 := hcs ix 2 (by rw [HSL.out]; omega) (by omega)
              have e3 := hcs ix 3 (by rw [HSL.out]; omega) (by omega)
              simp only [snF, Nat.add_zero] at e0 e1 e2 e3
              have hsx : sn F (ix : Int) = snA F.s ix := by simp [sn, snA]
              rw [hsx] at HST
              obtain ⟨y, hxx⟩ : ∃ y, snA F.s ix = y := ⟨_, rfl⟩
              rw [hxx] at e0 e1 e2 e3 HST
              clear hcs hxx hFr hsx hq1 hq2 hq3 hq4 hr1 hr2 hr3 hr4 c1 c2 c3 c4
              obtain ⟨xa, xb, xc, xd⟩ := y
              simp only at e0 e1 e2 e3
              go_wp2_with fail
              refine WpK.begin (S := fun _ => True) (kp := fun _ => true) (f := 11) (up := #[false, false, false, false, false, false, false, false, false, false, false]) (by kernel_rfl) (by kernel_rfl) (by kernel_rfl) ?_
              refine WpK.take (i := 0) (v := ?_) ((toArray_at _ _).trans rfl) (by kernel_rfl) (by kernel_rfl) (by kernel_rfl) (by kernel_rfl) (by kernel_rfl) (fun _ _ _ h => h) (Or.inl ⟨by rfl, ?_⟩) trivial ?_
              rotate_left
              · (intro x hx; go_simp <;> with_reducible rfl)
              simp only [Act.put, puts]
              refine WpK.take (i := 2) (v := ?_) ((toArray_at _ _).trans rfl) (by kernel_rfl) (by kernel_rfl) (by kernel_rfl) (by kernel_rfl) (by kernel_rfl) (fun _ _ _ h => h) (Or.inl ⟨by rfl, ?_⟩) trivial ?_
              rotate_left
              · (intro x hx; go_simp <;> with_reducible rfl)
              simp only [Act.put, puts]
              refine WpK.take (i := 4) (v := ?_) ((toArray_at _ _).trans rfl) (by kernel_rfl) (by kernel_rfl) (by kernel_rfl) (by kernel_rfl) (by kernel_rfl) (fun _ _ _ h => h) (Or.inl ⟨by rfl, ?_⟩) trivial ?_
              rotate_left
              · (intro x hx; go_simp <;> with_reducible rfl)
              simp only [Act.put, puts]
              refine WpK.weaken (S := fun y => Below wr.heap.size wr y) (kp := (fun i => decide (i < 8))) (fun _ => trivial) _ ?_
              have hS0 := (show Below wr.heap.size wr wr.drew from (Below.refl _ _).drew)
              refine WpK.take (i := 1) (v := ?_) ((toArray_at _ _).trans rfl) (by kernel_rfl) (by kernel_rfl) (by kernel_rfl) (by kernel_rfl) (by kernel_rfl) (fun _ _ _ h => h) (Or.inl ⟨by rfl, ?_⟩) hS0 ?_
              rotate_left
              · (intro x hx; obtain ⟨hcx, hfx⟩ := bcell hx; go_simp <;> with_reducible rfl)
              try simp only [Act.put, puts]
              refine WpK.take (i := 3) (v := ?_) ((toArray_at _ _).trans rfl) (by kernel_rfl) (by kernel_rfl) (by kernel_rfl) (by kernel_rfl) (by kernel_rfl) (fun _ _ _ h => h) (Or.inl ⟨by rfl, ?_⟩) hS0 ?_
              rotate_left
              · (intro x hx; obtain ⟨hcx, hfx⟩ := bcell hx; go_simp <;> with_reducible rfl)
              try simp only [Act.put, puts]
              refine WpK.take (i := 5) (v := ?_) ((toArray_at _ _).trans rfl) (by kernel_rfl) (by kernel_rfl) (by kernel_rfl) (by kernel_rfl) (by kernel_rfl) (fun _ _ _ h => h) (Or.inl ⟨by rfl, ?_⟩) hS0 ?_
              rotate_left
              · (intro x hx; obtain ⟨hcx, hfx⟩ := bcell hx; go_simp <;> with_reducible rfl)
              try simp only [Act.put, puts]
              refine WpK.take (i := 6) (v := ?_) ((toArray_at _ _).trans rfl) (by kernel_rfl) (by kernel_rfl) (by kernel_rfl) (by kernel_rfl) (by kernel_rfl) (fun _ _ _ h => h) (Or.inl ⟨by rfl, ?_⟩) hS0 ?_
              rotate_left
              · (intro x hx; obtain ⟨hcx, hfx⟩ := bcell hx; go_simp <;> with_reducible rfl)
              try simp only [Act.put, puts]
              clear hS0
              have hszr := hBl.out.size
              refine WpK.one (i := 7) (by kernel_rfl) ((toArray_at _ _).trans rfl) ?_
              intro K hK
              have HK := Lib.hid hK
              clear hK
              go_simp
              refine HK.out _ _ (fun _ => (Below.drew (Below.refl _ _)).alloc (Nat.le_refl _) _) (fun _ => ?_)
              clear HK K
              try simp only [puts]
              refine WpK.one (i := 8) (by kernel_rfl) ((toArray_at _ _).trans rfl) ?_
              intro K hK
              have HK := Lib.hid hK
              clear hK
              refine step_own Tryz.underlying28 seen_el (by decide) (by decide) rfl (.tmp 45) (.tmp 51) rfl (ob + 1) v G.s.length (cellsL (snF G.s) 4 G.s.length) rfl (owns_below hOw.out ((Below.drew (Below.refl _ _)).alloc (Nat.le_refl _) _)) ⟨wr.drew.heap.size, 0, none⟩ _ [.int .i64 xa, .int .i64 xb, .int .i64 xc, .int .i64 xd] rfl rfl (news_bk (Bk.new _ _ [_, _, _, _])) ?_ ?_ ?_ ?_
              · intro u hu; simp at hu; rcases hu with rfl | rfl | rfl | rfl <;> rfl
              · have := HWL.out; omega
              · simp; omega
              intro g2 c2 q hO4 hP4 hG4 hN4
              have hw4 : Below (ob + 1) wr q := ((Below.drew (Below.refl _ _)).alloc (by simp; omega) _).trans hP4
              have hK4 := (hw4.block ob (Nat.lt_succ_self _)).trans hBk.out
              have hK4 : Bk q ob 30 _ := hK4
              refine HK.out _ _ (fun h => absurd h (by decide)) (fun _ => ?_)
              clear HK K
              try simp only [puts]
              have cq := hK4.cell 5
              have fq := hK4.frozen 5
              have lq := hK4.lt
              simp only [List.getElem?_cons_zero, List.getElem?_cons_succ] at cq
              refine WpK.one (i := 9) (by kernel_rfl) ((toArray_at _ _).trans rfl) ?_
              intro K hK
              have HK := Lib.hid hK
              clear hK
              go_simp
              refine HK.out _ _ (fun h => absurd h (by decide)) (fun _ => ?_)
              clear HK K
              try simp only [puts]
              refine WpK.one (i := 10) (by kernel_rfl) ((toArray_at _ _).trans rfl) ?_
              intro K hK
              have HK := Lib.hid hK
              clear hK
              go_simp
              refine HK.out _ _ (fun h => absurd h (by decide)) (fun _ => ?_)
              clear HK K
              try simp only [puts]
              refine WpK.done (by kernel_rfl) ?_
              have hK5 := hK4.set 5 (.slice (some ⟨g2, 0, none⟩) (G.s.length + 1) c2)
              simp only [List.set_cons_zero, List.set_cons_succ] at hK5
              have hB5 := (hBl.out.trans (hw4.mono (by omega))).setCell (p := ⟨ob, 5, none⟩) hob (.slice (some ⟨g2, 0, none⟩) (G.s.length + 1) c2)
              have hO5 := OwnR.setCell (f := snF (G.s ++ [⟨xa, xb, ⟨xc, xd⟩⟩])) (b := ob) (j := 5) (n := G.s.length + 1) (k := 4) (by unfold OwnR; rw [sn_app]; exact hO4) (Nat.lt_succ_self _) (.slice (some ⟨g2, 0, none⟩) (G.s.length + 1) c2)
              unfold OwnR at hO5
              clear cq fq lq hK4 hw4 hO4 hP4 hG4 hN4
              go_wp2_with fail
              refine ⟨⟨k + 1, .slice (some ⟨g2, 0, none⟩) (G.s.length + 1) c2, by omega, by go_num, ?_, ?_, Lib.hid hB5⟩, by simp [intOf]; omega⟩
              · rw [HST.out, List.length_append]
                exact Lib.hid hO5
              · rw [HST.out]
                exact Lib.hid hK5
            · have HST := Lib.hid (hsp4 h1 h2 h3)
              rw [HSL.out] at h3
              clear hsp1 hsp2 hsp3 hsp4
              by_cases h30 : x < 0
              · clear h3
                go_wp2_with fail
                refine ⟨⟨k + 1, v, by omega, by go_num, ?_, ?_, hBl⟩, by simp [intOf]; omega⟩
                · rw [HST.out]; exact hOw
                · rw [HST.out]; exact hBk
              · have h31 : (ls : Int) ≤ x := by omega
                clear h3
                go_wp2_with fail
                refine ⟨⟨k + 1, v, by omega, by go_num, ?_, ?_, hBl⟩, by simp [intOf]; omega⟩
                · rw [HST.out]; exact hOw
                · rw [HST.out]; exact hBk
      · obtain rfl : k = m := by omega
        have hfull : l.take k = l := by rw [List.take_of_length_le]; omega
        rw [hfull] at hOw hBk
        obtain ⟨G, hG⟩ : ∃ G, widF F l = G := ⟨_, rfl⟩
        have hGv : G.v = F.v := by rw [← hG]; rfl
        rw [hG] at hOw hBk
        have HG := Lib.hid hG
        have hrw : Row wr v 4 G.s.length (snF G.s) := OwnR.row (show OwnR wr (ob + 1) 88 4 v _ (snF G.s) from hOw.out)
        obtain ⟨x4, n4, rfl, _⟩ := hrw.parts
        have hZr := HZ.out.below hBl.out
        have HZr := Lib.hid hZr
        have HWr := Lib.hid (HW0.out.trans (hBl.out.mono HW0.out.size))
        have HGV := Lib.hid hGv
        have hbl := HZ.out.lt
        clear hfull hZr hrw hG hGv c1 c2 c3 c4 c5 hq1 hq2 hq3 hq4 hq5 hr1 hr2 hr3 hr4
        go_wp2_with (first | (refine ld_at rfl (T := 30) rfl rfl hBk.out Tryz.underlying30 rfl (by kernel_rfl) ?_) | (refine st_at rfl (T := 30) rfl rfl (cs := [.slice ov lv cv, .int .i64 G.f.lv, .int .i64 G.f.er, .int .i64 G.wlo, .int .i64 G.whi, .slice x4 G.s.length n4]) rfl HZr.out (by kernel_rfl) rfl rfl ?_; intro wk hkk hsk) | fail)
        refine bodyPost_ret (v := flV G (.slice ov lv cv) (.slice x4 G.s.length n4)) (results_cell_row rfl _ _ (w.heap.size + 1) _ _ (0, 0) _ rfl hkk Tryz.underlying30 rfl (by kernel_rfl)) rfl ?_
        have hv1 := HF00.out.v.below (bes_then HWr.out hsk (by omega) HWr.out.size)
        have hs1 : Row wk (.slice x4 G.s.length n4) 4 G.s.length (snF G.s) := OwnR.row (show OwnR wk (ob + 1) 88 4 _ _ (snF G.s) from owns_bes hOw.out hsk (by omega))
        rw [← HGV.out] at hv1
        have hgo := HG.out
        subst hgo
        exact ⟨⟨x4, n4, rfl, hv1, hs1⟩, bes_then HWr.out hsk (by omega) HWr.out.size⟩
theorem bk_grown {w w' : World} {b : Nat} {T : TypeId} {A : List Value} {row : Option Nat} (h : Bk w b T A) (hg : w.grownBy w' row) (hne : row ≠ some b) : Bk w' b T A := by
  unfold Bk at h ⊢
  rw [hg.block b (Bk.lt h) (by
    cases row with
    | none => simp
    | some k => intro e; exact hne e.symm)]
  exact h
theorem scaled_any (a b c d k : Int) (w : World) (h1 : -4611686018427387904 ≤ a * k ∧ a * k ≤ 4611686018427387904) (h2 : -4611686018427387904 ≤ b * k ∧ b * k ≤ 4611686018427387904) (k0 : 1 ≤ k) (k1 : k ≤ 20) (h : (a * k ≤ c ∧ c ≤ a * k + k - 1) ∧ (d ≤ b * k ∧ b * k - k + 1 ≤ d)) :
    Calls Tryz.prog 47 #[.agg #[.int .i64 a, .int .i64 b], .agg #[.int .i64 c, .int .i64 d], .int .i64 k] w fun e w' => e = .returned (.bool true) ∧ Below w.heap.size w w' := by
  obtain ⟨x, hx⟩ : ∃ x, a * k = x := ⟨_, rfl⟩
  obtain ⟨y, hy⟩ : ∃ x, b * k = x := ⟨_, rfl⟩
  rw [hx] at h1 h
  rw [hy] at h2 h
  obtain ⟨⟨h3, h4⟩, h5, h6⟩ := h
  have w1 : IntKind.i64.wrap (a * k) = x := by rw [hx]; exact IntWalk.i64_in _ (by omega)
  have w2 : IntKind.i64.wrap (b * k) = y := by rw [hy]; exact IntWalk.i64_in _ (by omega)
  have w3 : IntKind.i64.wrap (x + k) = x + k := IntWalk.i64_in _ (by omega)
  have w4 : IntKind.i64.wrap (x + k - 1) = x + k - 1 := IntWalk.i64_in _ (by omega)
  have w5 : IntKind.i64.wrap (y - k) = y - k := IntWalk.i64_in _ (by omega)
  have w6 : IntKind.i64.wrap (y - k + 1) = y - k + 1 := IntWalk.i64_in _ (by omega)
  clear hx hy h1 h2
  go_enter Tryz.func47, Tryz.ntmps47
  go_wp2
  all_goals
    go_ret
    exact ⟨ret_bool (by simp; try omega), (Below.alloc (Below.alloc (Below.refl _ _) (Nat.le_refl _) _) (by simp) _)⟩
theorem rg_app (L : List Rg) (x : Rg) : cellsL (rgF (L ++ [x])) 3 (L.length + 1) = cellsL (rgF L) 3 L.length ++ [.int .i64 x.h, .int .i64 x.v, .int .i64 x.d] := by
  rw [cellsL, cellsL_congr (g := rgF L)]
  · have : rg (L ++ [x]) L.length = x := by simp [rg]
    simp [List.range_succ, rgF, this]
  · intro i j hi _
    have : rg (L ++ [x]) i = rg L i := by simp [rg, List.getElem?_append_left hi]
    simp only [rgF, this]
theorem sclV_step {k : Int} {v : List Rg} {i : Nat} (hi : i < v.length) : sclV k (v.take (i + 1)) = sclV k (v.take i) ++ [⟨(rg v i).h, (rg v i).v, (rg v i).d * k⟩] := by
  have e : v.take (i + 1) = v.take i ++ [rg v i] := by
    unfold rg
    rw [List.take_add_one, List.getElem?_eq_getElem hi]
    rfl
  rw [e]
  simp [sclV]
theorem sclS_step {k : Int} {s : List Sn} {i : Nat} (hi : i < s.length) : sclS k (s.take (i + 1)) = sclS k (s.take i) ++ [⟨(snA s i).lo * k, (snA s i).hi * k, (snA s i).k⟩] := by
  have e : s.take (i + 1) = s.take i ++ [snA s i] := by
    unfold snA
    rw [List.take_add_one, List.getElem?_eq_getElem hi]
    rfl
  rw [e]
  simp [sclS]
theorem sclV_len {k : Int} {v : List Rg} {i : Nat} (hi : i ≤ v.length) : (sclV k (v.take i)).length = i := by simp [sclV, hi]
theorem sclS_len {k : Int} {s : List Sn} {i : Nat} (hi : i ≤ s.length) : (sclS k (s.take i)).length = i := by simp [sclS, hi]
def SlPost (F : Fl) (k : Int) (e : Ending) (w' : World) : Prop :=
  (∃ c0 c1 c2 c3 c4 c5 n0 n5 m0 m5, e = .returned (.tuple #[.agg #[.slice c0 n0 m0, .int .i64 c1, .int .i64 c2, .int .i64 c3, .int .i64 c4, .slice c5 n5 m5], .bool false])) ∨
  (∃ a b c d, e = .returned (.tuple #[flV (sclF k F) (.slice a F.v.length b) (.slice c F.s.length d), .bool true]) ∧ FlIn w' (sclF k F) (.slice a F.v.length b) (.slice c F.s.length d) ∧ (∀ i, i < F.v.length → (rg F.v i).d * k ≤ 20000) ∧ ∀ x ∈ F.s, x.hi * k ≤ 1048576)
set_option maxRecDepth 100000 in
set_option maxHeartbeats 4000000 in
theorem slower_any (F : Fl) (vv vs : Value) (k : Int) (w : World) (hF : FlIn w F vv vs) (hO : OkF F) (k0 : 1 ≤ k) (k1 : k ≤ 20) :
    Calls Tryz.prog 45 #[flV F vv vs, .int .i64 k] w fun e w' => SlPost F k e w' ∧ Below w.heap.size w w' := by
  have hn24 := hO.n
  have hv24 : 1 ≤ F.v.length ∧ F.v.length ≤ 24 := by have := hO.v; simp only [okVs, Bool.and_eq_true, decide_eq_true_eq] at this; exact this.1
  have hring : ∀ i, i < F.v.length → 0 ≤ (rg F.v i).d ∧ (rg F.v i).d ≤ 20000 := fun i hi => by
    have h := hO.v
    simp only [okVs, Bool.and_eq_true] at h
    obtain ⟨_, _, h1⟩ := okRg_bd (okFrom_at h.2 i hi)
    omega
  have hseen : ∀ i, i < F.s.length → (0 ≤ (snA F.s i).lo ∧ (snA F.s i).lo ≤ 1048576) ∧ (0 ≤ (snA F.s i).hi ∧ (snA F.s i).hi ≤ 1048576) := fun i hi => by
    have h := hO.s (snA F.s i) (by simp [snA, List.getElem?_eq_getElem hi])
    simp only [okSn, Bool.and_eq_true, decide_eq_true_eq] at h
    omega
  obtain ⟨os, cs, rfl, ms⟩ := hF.s.parts
  obtain ⟨ov, cv, rfl, mv⟩ := hF.v.parts
  obtain ⟨ls, hls⟩ : ∃ n, F.s.length = n := ⟨_, rfl⟩
  obtain ⟨lv, hlv⟩ : ∃ n, F.v.length = n := ⟨_, rfl⟩
  have HSL := Lib.hid hls
  have HVL := Lib.hid hlv
  rw [hls] at hF hn24 ms hseen ⊢
  rw [hlv] at hF hv24 mv hring ⊢
  have hF0 := (hF.alloc (flO F (.slice ov lv cv) (.slice os ls cs))).alloc (Obj.cells flZ.toArray 30)
  have hB := (Bk.new w 30 (flL F (.slice ov lv cv) (.slice os ls cs))).alloc (Obj.cells flZ.toArray 30)
  have hZ := Bk.new1 w (flO F (.slice ov lv cv) (.slice os ls cs)) 30 flZ
  have hw0 : Below w.heap.size w ((w.alloc (flO F (.slice ov lv cv) (.slice os ls cs))).alloc (Obj.cells flZ.toArray 30)) := (ballo _ _).alloc (by simp) _
  obtain ⟨W, hW⟩ : ∃ W, (w.alloc (flO F (.slice ov lv cv) (.slice os ls cs))).alloc (Obj.cells flZ.toArray 30) = W := ⟨_, rfl⟩
  rw [hW] at hF0 hB hZ hw0
  have HF0 := Lib.hid hF0
  have HB := Lib.hid hB
  have HZ := Lib.hid hZ
  have HW0 := Lib.hid hw0
  have HRG := Lib.hid hring
  have HSN := Lib.hid hseen
  have HFW := Lib.hid hF
  have c1 := hB.cell 1
  have c2 := hB.cell 2
  have c3 := hB.cell 3
  have c4 := hB.cell 4
  have cl := hB.lt
  simp only [flL, List.getElem?_cons_zero, List.getElem?_cons_succ] at c1 c2 c3 c4
  clear hF0 hB hZ hw0 hF hls hlv hring hseen
  go_enter Tryz.func45, Tryz.ntmps45
  go_upto_region 1 with fail
  try rw [hW]
  clear hW
  go_upto_region 2 with fail
  have hO1 := Bk.new W 30 [.slice none 0 0, .int .i64 F.f.lv, .int .i64 F.f.er, .int .i64 F.wlo, .int .i64 F.whi, .slice none 0 0]
  have h01 := ballo W (Obj.cells #[.slice none 0 0, .int .i64 F.f.lv, .int .i64 F.f.er, .int .i64 F.wlo, .int .i64 F.whi, .slice none 0 0] 30)
  obtain ⟨w1, hw1⟩ : ∃ X, W.alloc (Obj.cells #[.slice none 0 0, .int .i64 F.f.lv, .int .i64 F.f.er, .int .i64 F.wlo, .int .i64 F.whi, .slice none 0 0] 30) = X := ⟨_, rfl⟩
  rw [hw1] at hO1 h01
  have HO1 := Lib.hid hO1
  have H01 := Lib.hid h01
  have hB1 := HB.out.below h01
  have c0 := hB1.cell 0
  have cl1 := hB1.lt
  simp only [flL, List.getElem?_cons_zero] at c0
  try rw [hw1]
  clear hw1 hO1 h01 c1 c2 c3 c4 cl hB1
  go_wp2_with fail
  clear c0 cl1
  go_loopw [19] (fun t wr => ∃ (i : Nat) (v : Value), i ≤ lv ∧ t = .int .i64 (i : Int) ∧ Hid (wr.ownsRow (W.heap.size + 1) 169 3 v i (cellsL (rgF (sclV k (F.v.take i))) 3 i)) ∧ Hid (Bk wr W.heap.size 30 [v, .int .i64 F.f.lv, .int .i64 F.f.er, .int .i64 F.wlo, .int .i64 F.whi, .slice none 0 0]) ∧ Hid (Below W.heap.size W wr) ∧ Hid (∀ j, j < i → (rg F.v j).d * k ≤ 20000)) (fun t _ => lv - (intOf t).toNat)
  case atStart => exact ⟨0, .slice none 0 0, Nat.zero_le _, rfl, Lib.hid (World.ownsRow_nil _ _ _ _), HO1, H01, Lib.hid (fun j hj => by omega)⟩
  case round =>
    obtain ⟨i, v, hi, rfl, hOw, hBk, hBl, hall⟩ := hrel
    have hrow : Row wr v 3 i (rgF (sclV k (F.v.take i))) := OwnR.row (show OwnR wr (W.heap.size + 1) 169 3 v i (rgF (sclV k (F.v.take i))) from hOw.out)
    have x0 := hBk.out.cell 0
    have xf := hBk.out.frozen 0
    have xl := hBk.out.lt
    simp only [List.getElem?_cons_zero] at x0
    have HROW := Lib.hid hrow
    clear hrow
    by_cases hil : i < lv
    · have hFr := HF0.out.v.below hBl.out
      obtain ⟨bv, fv, rfl, hbv, hcs⟩ := hFr.cells (by rw [HVL.out]; omega)
      have d0 := hcs i 0 (by rw [HVL.out]; exact hil) (by omega)
      have d1 := hcs i 1 (by rw [HVL.out]; exact hil) (by omega)
      have d2 := hcs i 2 (by rw [HVL.out]; exact hil) (by omega)
      simp only [rgF, Nat.add_zero] at d0 d1 d2
      have hbd := HRG.out i hil
      have hst := sclV_step (k := k) (v := F.v) (i := i) (by rw [HVL.out]; exact hil)
      have hal : ∀ j, j < i + 1 → (rg F.v i).d * k ≤ 20000 → (rg F.v j).d * k ≤ 20000 := fun j hj h => by
        rcases Nat.lt_or_ge j i with q | q
        · exact hall.out j q
        · obtain rfl : j = i := by omega
          exact h
      have HAL := Lib.hid hal
      have hsl := sclV_len (k := k) (v := F.v) (i := i) (by rw [HVL.out]; omega)
      obtain ⟨x, hx⟩ : ∃ x, rg F.v i = x := ⟨_, rfl⟩
      rw [hx] at d0 d1 d2 hbd hst
      have HX := Lib.hid hx
      have HST := Lib.hid hst
      have HLN := Lib.hid hsl
      obtain ⟨x1, x2, x3⟩ := x
      simp only at d0 d1 d2 hbd
      have hdk : 0 ≤ x3 * k ∧ x3 * k ≤ 400000 := by
        have a := Int.mul_nonneg hbd.1 (show 0 ≤ k by omega)
        have b := Int.mul_le_mul hbd.2 k1 (by omega) (by omega : (0 : Int) ≤ 20000)
        omega
      obtain ⟨z, hz⟩ : ∃ z, x3 * k = z := ⟨_, rfl⟩
      rw [hz] at hdk
      have HZ3 := Lib.hid hz
      have hwz : IntKind.i64.wrap (x3 * k) = z := by rw [hz]; exact IntWalk.i64_in _ (by omega)
      clear hFr hcs hst hx hz hal hsl
      by_cases hgt : 20000 < z
      · obtain ⟨va, vb, rfl, _⟩ := HROW.out.parts
        have hwr : Below w.heap.size w wr := HW0.out.trans (hBl.out.mono HW0.out.size)
        have HWr := Lib.hid (hwr.alloc hwr.size (Obj.cells #[.int .i64 x1, .int .i64 x2, .int .i64 z] 169))
        have hZr := (HZ.out.below hBl.out).alloc (Obj.cells #[.int .i64 x1, .int .i64 x2, .int .i64 z] 169)
        have HBr := Lib.hid (hBk.out.alloc (Obj.cells #[.int .i64 x1, .int .i64 x2, .int .i64 z] 169))
        have HZr := Lib.hid hZr
        clear hwr hZr x0 xf
        go_wp2_with (first | (refine ld_at rfl (T := 30) rfl rfl HBr.out Tryz.underlying30 rfl (by kernel_rfl) ?_) | (refine st_at rfl (T := 30) rfl rfl (cs := [.slice va i vb, .int .i64 F.f.lv, .int .i64 F.f.er, .int .i64 F.wlo, .int .i64 F.whi, .slice none 0 0]) rfl HZr.out (by kernel_rfl) rfl rfl ?_; intro wk hkk hsk) | fail)
        refine bodyPost_ret (ret_cell_tmp rfl _ _ rfl hkk Tryz.underlying30 rfl (by kernel_rfl)) rfl ⟨.inl ⟨_, _, _, _, _, _, _, _, _, _, rfl⟩, ?_⟩
        exact bes_then HWr.out hsk (by omega) HWr.out.size
      · have hwo := owns_below hOw.out (ballo wr (Obj.cells #[.int .i64 x1, .int .i64 x2, .int .i64 z] 169))
        have HOX := Lib.hid (owns_below hwo (ballo _ (Obj.cells #[.int .i64 x1, .int .i64 x2, .int .i64 z] 169)))
        clear hwo
        go_wp2_with (with_reducible refine list_own Tryz.underlying23 ring_el (by decide) (by decide) rfl (.tmp 33) (.tmp 35) rfl (W.heap.size + 1) v i (cellsL (rgF (sclV k (F.v.take i))) 3 i) rfl HOX.out ⟨wr.heap.size + 1, 0, none⟩ _ [.int .i64 x1, .int .i64 x2, .int .i64 z] rfl rfl (news_bk (Bk.new1 _ _ _ [_, _, _])) ?_ ?_ ?_ ?_)
        · exact ⟨rfl, rfl, rfl⟩
        · omega
        · omega
        intro g c q hO4 hP4 hG4 hN4
        have hw4 : Below (W.heap.size + 1) wr q := ((ballo wr (Obj.cells #[.int .i64 x1, .int .i64 x2, .int .i64 z] 169)).mono (by omega)).trans (((ballo _ (Obj.cells #[.int .i64 x1, .int .i64 x2, .int .i64 z] 169)).mono (by simp; omega)).trans hP4)
        have hK4 : Bk q W.heap.size 30 _ := (hw4.block W.heap.size (Nat.lt_succ_self _)).trans hBk.out
        have cq := hK4.cell 0
        have fq := hK4.frozen 0
        have lq := hK4.lt
        simp only [List.getElem?_cons_zero] at cq
        have hK5 := hK4.set 0 (.slice (some ⟨g, 0, none⟩) (i + 1) c)
        simp only [List.set_cons_zero] at hK5
        have hB5 := (hBl.out.trans (hw4.mono (Nat.le_succ _))).setCell (p := ⟨W.heap.size, 0, none⟩) (Nat.le_refl _) (.slice (some ⟨g, 0, none⟩) (i + 1) c)
        have hra := rg_app (sclV k (F.v.take i)) ⟨x1, x2, x3 * k⟩
        rw [HLN.out, HZ3.out] at hra
        have hO5 := OwnR.setCell (f := rgF (sclV k (F.v.take i) ++ [⟨x1, x2, z⟩])) (b := W.heap.size) (j := 0) (n := i + 1) (k := 3) (by unfold OwnR; rw [hra]; exact hO4) (Nat.lt_succ_self _) (.slice (some ⟨g, 0, none⟩) (i + 1) c)
        unfold OwnR at hO5
        have HK5 := Lib.hid hK5
        have HB5 := Lib.hid hB5
        have HO5 := Lib.hid hO5
        clear hw4 hK4 hK5 hB5 hO5 hO4 hP4 hG4 hN4 hra
        go_wp2_with fail
        refine ⟨⟨i + 1, .slice (some ⟨g, 0, none⟩) (i + 1) c, by omega, by go_num, ?_, HK5, HB5, Lib.hid fun j hj => HAL.out j hj (by rw [HX.out]; show x3 * k ≤ 20000; rw [HZ3.out]; omega)⟩, by simp [intOf]; omega⟩
        rw [HST.out, HZ3.out]
        exact HO5
    · obtain rfl : i = lv := by omega
      have hfull : F.v.take i = F.v := by rw [List.take_of_length_le]; have := HVL.out; omega
      rw [hfull] at hOw
      rcases hOw.out.2 with ⟨_, h0⟩ | ⟨g, cap, cur, rfl, hbg, hg, hrest⟩
      · omega
      · have hc2 : Bk wr g 169 cur.toList := hg
        have HCV := Lib.hid (show ∀ wx, Bk wx g 169 cur.toList → OwnR wx (W.heap.size + 1) 169 3 (.slice (some ⟨g, 0, none⟩) i cap) i (rgF (sclV k F.v)) from fun wx hx => ⟨hOw.out.1, .inr ⟨g, cap, cur, rfl, hbg, hx, hrest⟩⟩)
        obtain ⟨CL, hCL⟩ : ∃ CL, cur.toList = CL := ⟨_, rfl⟩
        rw [hCL] at hc2 HCV
        have HC2 := Lib.hid hc2
        have hB5 := HB.out.below hBl.out
        have c5 := hB5.cell 5
        have cl5 := hB5.lt
        simp only [flL, List.getElem?_cons_zero, List.getElem?_cons_succ] at c5
        have hgo : g ≠ W.heap.size := by omega
        have HALL := Lib.hid hall.out
        clear hc2 hg hrest hOw hfull hCL hB5 x0 xf xl
        go_wp2_with fail
        clear c5 cl5
        have HBk0 := Lib.hid hBk.out
        have HBl0 := Lib.hid hBl.out
        clear hBk hBl hall
        go_loopw [42] (fun t wr => ∃ (j : Nat) (v : Value), j ≤ ls ∧ t = .int .i64 (j : Int) ∧ v.ownBlock ≠ some g ∧ Hid (wr.ownsRow (W.heap.size + 1) 88 4 v j (cellsL (snF (sclS k (F.s.take j))) 4 j)) ∧ Hid (Bk wr W.heap.size 30 [.slice (some ⟨g, 0, none⟩) i cap, .int .i64 F.f.lv, .int .i64 F.f.er, .int .i64 F.wlo, .int .i64 F.whi, v]) ∧ Hid (Bk wr g 169 CL) ∧ Hid (Below W.heap.size W wr) ∧ Hid (∀ p, p < j → (snA F.s p).hi * k ≤ 1048576)) (fun t _ => ls - (intOf t).toNat)
        case atStart => exact ⟨0, .slice none 0 0, Nat.zero_le _, rfl, (by intro e; cases e), Lib.hid (World.ownsRow_nil _ _ _ _), HBk0.out, HC2, HBl0.out, Lib.hid (fun p hp => by omega)⟩
        case round =>
          obtain ⟨j, v, hj, rfl, hvg, hOw, hBk, hCu, hBl, hall⟩ := hrel
          have hrow : Row wr v 4 j (snF (sclS k (F.s.take j))) := OwnR.row (show OwnR wr (W.heap.size + 1) 88 4 v j (snF (sclS k (F.s.take j))) from hOw.out)
          have x5 := hBk.out.cell 5
          have xf := hBk.out.frozen 5
          have xl := hBk.out.lt
          simp only [List.getElem?_cons_zero, List.getElem?_cons_succ] at x5
          have HROW := Lib.hid hrow
          clear hrow
          by_cases hjl : j < ls
          · have hFr := HF0.out.s.below hBl.out
            obtain ⟨bv, fv, rfl, hbv, hcs⟩ := hFr.cells (by rw [HSL.out]; omega)
            have d0 := hcs j 0 (by rw [HSL.out]; exact hjl) (by omega)
            have d1 := hcs j 1 (by rw [HSL.out]; exact hjl) (by omega)
            have d2 := hcs j 2 (by rw [HSL.out]; exact hjl) (by omega)
            have d3 := hcs j 3 (by rw [HSL.out]; exact hjl) (by omega)
            simp only [snF, Nat.add_zero] at d0 d1 d2 d3
            have hbd := HSN.out j hjl
            have hst := sclS_step (k := k) (s := F.s) (i := j) (by rw [HSL.out]; exact hjl)
            have hal : ∀ p, p < j + 1 → (snA F.s j).hi * k ≤ 1048576 → (snA F.s p).hi * k ≤ 1048576 := fun p hp h => by
              rcases Nat.lt_or_ge p j with q | q
              · exact hall.out p q
              · obtain rfl : p = j := by omega
                exact h
            have HAL := Lib.hid hal
            have hsl := sclS_len (k := k) (s := F.s) (i := j) (by rw [HSL.out]; omega)
            obtain ⟨x, hx⟩ : ∃ x, snA F.s j = x := ⟨_, rfl⟩
            rw [hx] at d0 d1 d2 d3 hbd hst
            have HX := Lib.hid hx
            have HST := Lib.hid hst
            have HLN := Lib.hid hsl
            obtain ⟨x1, x2, x3, x4⟩ := x
            simp only at d0 d1 d2 d3 hbd
            obtain ⟨⟨b1, b2⟩, b3, b4⟩ := hbd
            have hd1 : 0 ≤ x1 * k ∧ x1 * k ≤ 20971520 := by
              have a := Int.mul_nonneg b1 (show 0 ≤ k by omega)
              have b := Int.mul_le_mul b2 k1 (by omega) (by omega : (0 : Int) ≤ 1048576)
              omega
            have hd2 : 0 ≤ x2 * k ∧ x2 * k ≤ 20971520 := by
              have a := Int.mul_nonneg b3 (show 0 ≤ k by omega)
              have b := Int.mul_le_mul b4 k1 (by omega) (by omega : (0 : Int) ≤ 1048576)
              omega
            obtain ⟨z1, hz1⟩ : ∃ z, x1 * k = z := ⟨_, rfl⟩
            obtain ⟨z2, hz2⟩ : ∃ z, x2 * k = z := ⟨_, rfl⟩
            rw [hz1] at hd1
            rw [hz2] at hd2
            have HZ1 := Lib.hid hz1
            have HZ2 := Lib.hid hz2
            have hw1 : IntKind.i64.wrap (x1 * k) = z1 := by rw [hz1]; exact IntWalk.i64_in _ (by omega)
            have hw2 : IntKind.i64.wrap (x2 * k) = z2 := by rw [hz2]; exact IntWalk.i64_in _ (by omega)
            clear hFr hcs hst hx hz1 hz2 hal hsl
            by_cases hgt : 1048576 < z2
            · obtain ⟨va, vb, rfl, _⟩ := HROW.out.parts
              have hwr : Below w.heap.size w wr := HW0.out.trans (hBl.out.mono HW0.out.size)
              have HWr := Lib.hid (hwr.alloc hwr.size (Obj.cells #[.int .i64 z1, .int .i64 z2, .int .i64 x3, .int .i64 x4] 88))
              have hZr := (HZ.out.below hBl.out).alloc (Obj.cells #[.int .i64 z1, .int .i64 z2, .int .i64 x3, .int .i64 x4] 88)
              have HBr := Lib.hid (hBk.out.alloc (Obj.cells #[.int .i64 z1, .int .i64 z2, .int .i64 x3, .int .i64 x4] 88))
              have HZr := Lib.hid hZr
              clear hwr hZr x5 xf
              go_wp2_with (first | (refine ld_at rfl (T := 30) rfl rfl HBr.out Tryz.underlying30 rfl (by kernel_rfl) ?_) | (refine st_at rfl (T := 30) rfl rfl (cs := [.slice (some ⟨g, 0, none⟩) i cap, .int .i64 F.f.lv, .int .i64 F.f.er, .int .i64 F.wlo, .int .i64 F.whi, .slice va j vb]) rfl HZr.out (by kernel_rfl) rfl rfl ?_; intro wk hkk hsk) | fail)
              refine bodyPost_ret (ret_cell_tmp rfl _ _ rfl hkk Tryz.underlying30 rfl (by kernel_rfl)) rfl ⟨.inl ⟨_, _, _, _, _, _, _, _, _, _, rfl⟩, ?_⟩
              exact bes_then HWr.out hsk (by omega) HWr.out.size
            · have hwo := owns_below hOw.out (ballo wr (Obj.cells #[.int .i64 z1, .int .i64 z2, .int .i64 x3, .int .i64 x4] 88))
              have HOX := Lib.hid (owns_below hwo (ballo _ (Obj.cells #[.int .i64 z1, .int .i64 z2, .int .i64 x3, .int .i64 x4] 88)))
              clear hwo
              go_wp2_with (with_reducible refine list_own Tryz.underlying28 seen_el (by decide) (by decide) rfl (.tmp 64) (.tmp 66) rfl (W.heap.size + 1) v j (cellsL (snF (sclS k (F.s.take j))) 4 j) rfl HOX.out ⟨wr.heap.size + 1, 0, none⟩ _ [.int .i64 z1, .int .i64 z2, .int .i64 x3, .int .i64 x4] rfl rfl (news_bk (Bk.new1 _ _ _ [_, _, _, _])) ?_ ?_ ?_ ?_)
              · exact ⟨rfl, rfl, rfl, rfl⟩
              · omega
              · omega
              intro g2 c q hO4 hP4 hG4 hN4
              have hw4 : Below (W.heap.size + 1) wr q := ((ballo wr (Obj.cells #[.int .i64 z1, .int .i64 z2, .int .i64 x3, .int .i64 x4] 88)).mono (by omega)).trans (((ballo _ (Obj.cells #[.int .i64 z1, .int .i64 z2, .int .i64 x3, .int .i64 x4] 88)).mono (by simp; omega)).trans hP4)
              have hK4 : Bk q W.heap.size 30 _ := (hw4.block W.heap.size (Nat.lt_succ_self _)).trans hBk.out
              have hC4 := bk_grown ((hCu.out.alloc (Obj.cells #[.int .i64 z1, .int .i64 z2, .int .i64 x3, .int .i64 x4] 88)).alloc (Obj.cells #[.int .i64 z1, .int .i64 z2, .int .i64 x3, .int .i64 x4] 88)) hG4 hvg
              have hg2g : g2 ≠ g := by
                have hgl := hCu.out.lt
                rcases hN4 with h | h
                · intro e; rw [e] at h; exact hvg h
                · intro e; rw [e] at h; first | omega | (simp at h; omega)
              have cq := hK4.cell 5
              have fq := hK4.frozen 5
              have lq := hK4.lt
              simp only [List.getElem?_cons_zero, List.getElem?_cons_succ] at cq
              have hK5 := hK4.set 5 (.slice (some ⟨g2, 0, none⟩) (j + 1) c)
              simp only [List.set_cons_zero, List.set_cons_succ] at hK5
              have hC5 := hC4.far (p := ⟨W.heap.size, 5, none⟩) hgo (.slice (some ⟨g2, 0, none⟩) (j + 1) c)
              have hB5 := (hBl.out.trans (hw4.mono (Nat.le_succ _))).setCell (p := ⟨W.heap.size, 5, none⟩) (Nat.le_refl _) (.slice (some ⟨g2, 0, none⟩) (j + 1) c)
              have hra := sn_app (sclS k (F.s.take j)) ⟨x1 * k, x2 * k, ⟨x3, x4⟩⟩
              rw [HLN.out, HZ1.out, HZ2.out] at hra
              have hO5 := OwnR.setCell (f := snF (sclS k (F.s.take j) ++ [⟨z1, z2, ⟨x3, x4⟩⟩])) (b := W.heap.size) (j := 5) (n := j + 1) (k := 4) (by unfold OwnR; rw [hra]; exact hO4) (Nat.lt_succ_self _) (.slice (some ⟨g2, 0, none⟩) (j + 1) c)
              unfold OwnR at hO5
              have HK5 := Lib.hid hK5
              have HB5 := Lib.hid hB5
              have HO5 := Lib.hid hO5
              have HC5 := Lib.hid hC5
              have HGG := Lib.hid hg2g
              clear hw4 hK4 hK5 hB5 hO5 hO4 hP4 hG4 hN4 hra hC4 hC5 hg2g
              go_wp2_with fail
              refine ⟨⟨j + 1, .slice (some ⟨g2, 0, none⟩) (j + 1) c, by omega, by go_num, (by intro e; cases e; exact HGG.out rfl), ?_, HK5, HC5, HB5, Lib.hid fun p hp => HAL.out p hp (by rw [HX.out]; show x2 * k ≤ 1048576; rw [HZ2.out]; omega)⟩, by simp [intOf]; omega⟩
              rw [HST.out, HZ1.out, HZ2.out]
              exact HO5
          · obtain rfl : j = ls := by omega
            have hfull : F.s.take j = F.s := by rw [List.take_of_length_le]; have := HSL.out; omega
            rw [hfull] at hOw
            obtain ⟨va, vb, rfl, _⟩ := HROW.out.parts
            have hZr := HZ.out.below hBl.out
            have HZr := Lib.hid hZr
            have HWr := Lib.hid (HW0.out.trans (hBl.out.mono HW0.out.size))
            have HCC := Lib.hid (HCV.out wr hCu.out)
            have hbl := HZ.out.lt
            clear hZr x5 xf
            go_wp2_with (first | (refine ld_at rfl (T := 30) rfl rfl hBk.out Tryz.underlying30 rfl (by kernel_rfl) ?_) | (refine st_at rfl (T := 30) rfl rfl (cs := [.slice (some ⟨g, 0, none⟩) i cap, .int .i64 F.f.lv, .int .i64 F.f.er, .int .i64 F.wlo, .int .i64 F.whi, .slice va j vb]) rfl HZr.out (by kernel_rfl) rfl rfl ?_; intro wk hkk hsk) | fail)
            refine bodyPost_ret (ret_cell_tmp rfl _ _ rfl hkk Tryz.underlying30 rfl (by kernel_rfl)) rfl ⟨.inr ⟨some ⟨g, 0, none⟩, cap, va, vb, ?_, ⟨?_, ?_⟩, ?_, ?_⟩, ?_⟩
            · rw [HVL.out, HSL.out]; rfl
            · have h := OwnR.row (show OwnR wk (W.heap.size + 1) 169 3 _ i (rgF (sclV k F.v)) from owns_bes HCC.out hsk (by omega))
              unfold RgR
              rw [HVL.out]
              have e : (sclF k F).v.length = i := by show (sclV k F.v).length = i; rw [len_sclV, HVL.out]
              rw [e]
              exact h
            · have h := OwnR.row (show OwnR wk (W.heap.size + 1) 88 4 _ j (snF (sclS k F.s)) from owns_bes hOw.out hsk (by omega))
              unfold SnR
              rw [HSL.out]
              have e : (sclF k F).s.length = j := by rw [lenS, HSL.out]
              rw [e]
              exact h
            · exact fun p hp => HALL.out p (by have := HVL.out; omega)
            · intro x hx
              obtain ⟨p, hp, rfl⟩ := List.getElem_of_mem hx
              have := hall.out p (by have := HSL.out; omega)
              simpa [snA, List.getElem?_eq_getElem hp] using this
            · exact bes_then HWr.out hsk (by omega) HWr.out.size
theorem Reached_s (F : Fl) (vv vs : Value) (x : Int) (w : World) (hF : FlIn w F vv vs) (ho : okFl F = true) (hx : inB x 0 (hgt F.v) = false) : Calls Tryz.prog 20 #[flV F vv vs, .int .i64 x] w fun e w' => e = .returned (.tuple #[.agg #[.int .i64 0, .int .i64 0], .int .i64 1]) ∧ Below w.heap.size w w' :=
  Reached_no F vv vs x 1 w hF (by rw [hx]; exact rdE_1 ho rfl) (by decide)
theorem Start_yes (F : Fl) (vv vs : Value) (a b : Int) (w : World) (hF : FlIn w F vv vs) (ho : okFl F = true) (hc : canI F (allL F) = true) (ha : lvLo F (allL F) 0 = a) (hb : lvHi F (allL F) 0 = b) :
    Calls Tryz.prog 46 #[flV F vv vs] w fun e w' => e = .returned (.tuple #[.agg #[.int .i64 a, .int .i64 b], .int .i64 0]) ∧ Below w.heap.size w w' := by
  have h := Start_any F vv vs w hF
  unfold leV lvS at h
  rw [if_pos (rdE_0 ho (inB_tt (by omega) (by omega)) hc), fun_un2 hc, fun_ov2 hc] at h
  subst ha hb
  exact h
theorem Bounds_s (F : Fl) (vv vs : Value) (w : World) (hF : FlIn w F vv vs) (ho : okFl F = true) (hc : canI F (allL F) = true) : Calls Tryz.prog 32 #[flV F vv vs] w fun e w' => e = .returned (.tuple #[.agg #[.int .i64 (boQ F).a, .int .i64 (boQ F).b], .agg #[.int .i64 (boQ F).c, .int .i64 (boQ F).d], .int .i64 0]) ∧ Below w.heap.size w w' := by
  have h := Bounds_any F vv vs w hF
  rw [boV_Q, rdE_0 ho rfl hc] at h
  exact h
section
variable {F : Fl} {k : Int}
theorem allL_scl : allL (sclF k F) = allL F := by unfold allL; rw [lenS]
theorem boQ_scl (hk : 0 < k) (h : OkF F) (h' : OkF (sclF k F)) (hc : canI F (allL F) = true) : boQ (sclF k F) = boQ F := by
  have hc' : canI (sclF k F) (allL (sclF k F)) = true := by rw [allL_scl, canI_scl hk h h' (allI_lt F)]; exact hc
  obtain ⟨e1, e2⟩ := bounds_scl hk h h' (allI_lt F) hc
  have B := knR_B h
  have B' := knR_B h'
  unfold boQ
  rw [if_pos (rdE_0 ((okFl_iff _).2 h') rfl hc'), if_pos (rdE_0 ((okFl_iff _).2 h) rfl hc)]
  rw [knR_eq hc] at B ⊢
  rw [knR_eq hc', allL_scl] at B' ⊢
  have a0 := B.a0
  have b0 := B.b0
  have c0 := B.c0
  have d0 := B.d0
  have a0' := B'.a0
  have b0' := B'.b0
  have c0' := B'.c0
  have d0' := B'.d0
  have e : ∀ x y : Int, 1000 * x * y = 1000 * (y * x) := fun x y => by rw [Int.mul_assoc, Int.mul_comm x]
  obtain ⟨p1, p2⟩ := low_eqv (n := 1000 * (solvedW (sclF k F) (allL F)).hi.d) (d := (solvedW (sclF k F) (allL F)).hi.n) (n' := 1000 * (solvedW F (allL F)).hi.d) (d' := (solvedW F (allL F)).hi.n) (by omega) (by omega) c0' c0 (by rw [e, e]; omega)
  obtain ⟨p3, p4⟩ := low_eqv (n := 1000 * (solvedW (sclF k F) (allL F)).lo.d) (d := (solvedW (sclF k F) (allL F)).lo.n) (n' := 1000 * (solvedW F (allL F)).lo.d) (d' := (solvedW F (allL F)).lo.n) (by omega) (by omega) a0' a0 (by rw [e, e]; omega)
  rw [p1, p2, p3, p4]
end
def Bks (w : World) (L : List (Nat × TypeId × List Value)) : Prop := ∀ (i b : Nat) (T : TypeId) (cs : List Value), L[i]? = some (b, T, cs) → Bk w b T cs
theorem Bks.get {w : World} {L : List (Nat × TypeId × List Value)} (h : Bks w L) (i : Nat) {b : Nat} {T : TypeId} {cs : List Value} (e : L[i]? = some (b, T, cs)) : Bk w b T cs := h i b T cs e
theorem Bks.below {w w' : World} {L : List (Nat × TypeId × List Value)} (h : Bks w L) (hb : Below w.heap.size w w') : Bks w' L := fun i b T cs e => (h i b T cs e).below hb
theorem Bks.add {w : World} {L : List (Nat × TypeId × List Value)} (h : Bks w L) {b : Nat} {T : TypeId} {cs : List Value} (k : Bk w b T cs) : Bks w (L ++ [(b, T, cs)]) := fun i b' T' cs' e => by
  rcases Nat.lt_or_ge i L.length with c | c
  · rw [List.getElem?_append_left c] at e; exact h i _ _ _ e
  · rw [List.getElem?_append_right c] at e
    rcases Nat.eq_zero_or_pos (i - L.length) with c2 | c2
    · rw [c2] at e; simp at e; obtain ⟨rfl, rfl, rfl⟩ := e; exact k
    · rw [List.getElem?_eq_none (by simp; omega)] at e; cases e
theorem Bks.nil (w : World) : Bks w [] := fun i b T cs e => by simp at e
set_option maxRecDepth 100000 in
set_option maxHeartbeats 4000000 in
theorem law_scaled (F : Fl) (vv vs : Value) (k x m : Int) (w : World) (hF : FlIn w F vv vs) (_ : -9223372036854775808 ≤ k) (_ : k ≤ 9223372036854775807) (_ : -9223372036854775808 ≤ x) (_ : x ≤ 9223372036854775807) (_ : -9223372036854775808 ≤ m) (_ : m ≤ 9223372036854775807) :
    Calls Tryz.prog 11 #[flV F vv vs, .int .i64 k, .int .i64 x, .int .i64 m] w fun e w' => e = .returned (.bool true) ∧ Below w.heap.size w w' := by
  obtain ⟨os, cs, rfl, ms⟩ := hF.s.parts
  obtain ⟨ov, cv, rfl, mv⟩ := hF.v.parts
  obtain ⟨sl, hsl⟩ : ∃ k, F.s.length = k := ⟨_, rfl⟩
  obtain ⟨vl, hvl⟩ : ∃ k, F.v.length = k := ⟨_, rfl⟩
  rw [hsl] at hF ms ⊢
  rw [hvl] at hF mv ⊢
  have HSL := Lib.hid hsl
  have HVL := Lib.hid hvl
  clear hsl hvl
  have HF := Lib.hid (hF.alloc (flO F (.slice ov vl cv) (.slice os sl cs)))
  have BP := Lib.hid (Bk.new w 30 (flL F (.slice ov vl cv) (.slice os sl cs)))
  clear hF
  go_enter Tryz.func11, Tryz.ntmps11
  go_wp2_with fail
  refine (sane_any _).mono ?_
  rintro e w1 ⟨rfl, hb⟩
  have HF1 := Lib.hid (HF.out.below hb)
  have BP1 := Lib.hid (BP.out.below hb)
  have HB1 := Lib.hid (bafter hb)
  clear hb HF BP
  go_wp2_with (first | (refine ld_at rfl (T := 30) rfl rfl BP1.out Tryz.underlying30 rfl (by kernel_rfl) ?_) | fail)
  cases ho : okFl F with
  | false =>
    refine (Check_c F _ _ 30 _ HF1.out (by unfold chkF; rw [if_neg (by rw [ho]; decide)])).mono ?_
    rintro e w2 ⟨rfl, hb⟩
    have HF2 := Lib.hid (HF1.out.below hb)
    have BP2 := Lib.hid (BP1.out.below hb)
    have HB2 := Lib.hid (bthen HB1.out hb)
    clear HF1 BP1 HB1
    clear hb
    go_wp2_with fail
    go_ret
    exact ⟨rfl, HB2.out⟩
  | true =>
    have hO := (okFl_iff F).1 ho
    refine (Check_c F _ _ 0 _ HF1.out (by unfold chkF; rw [if_pos ho])).mono ?_
    rintro e w2 ⟨rfl, hb⟩
    have HF2 := Lib.hid (HF1.out.below hb)
    have BP2 := Lib.hid (BP1.out.below hb)
    have HB2 := Lib.hid (bthen HB1.out hb)
    clear hb HF1 BP1 HB1
    by_cases hr : 1 ≤ k ∧ k ≤ 20 ∧ 0 ≤ m ∧ m ≤ 100000
    · obtain ⟨k0, k1, m0, m1⟩ := hr
      go_wp2_with (first | (refine ld_at rfl (T := 30) rfl rfl BP2.out Tryz.underlying30 rfl (by kernel_rfl) ?_) | fail)
      refine (slower_any F _ _ k _ HF2.out hO k0 k1).mono ?_
      rintro e w3 ⟨(⟨q0, q1, q2, q3, q4, q5, n0, n5, p0, p5, rfl⟩ | ⟨ga, gb, gc, gd, rfl, hin, hdr, haf⟩), hb⟩
      · have HB3 := Lib.hid (bthen HB2.out hb)
        clear hb
        go_wp2_with fail
        go_ret
        exact ⟨rfl, HB3.out.alloc HB3.out.size _⟩
      · have kp : 0 < k := by omega
        have hO' := okF_scl kp hO hdr haf
        have ho' := (okFl_iff _).2 hO'
        have hcs : canI (sclF k F) (allL (sclF k F)) = canI F (allL F) := by rw [allL_scl]; exact canI_scl kp hO hO' (allI_lt F)
        have HSC := Lib.hid (And.intro hO' kp)
        have hb' := hb.alloc hb.size (flO (sclF k F) (.slice ga F.v.length gb) (.slice gc F.s.length gd))
        have HF3 := Lib.hid (HF2.out.below hb')
        have HG3 := Lib.hid (hin.alloc (flO (sclF k F) (.slice ga F.v.length gb) (.slice gc F.s.length gd)))
        have HB3 := Lib.hid (bthen HB2.out hb')
        have HK3 := Lib.hid (((Bks.nil _).add (BP2.out.below hb')).add (Bk.new w3 30 (flL (sclF k F) (.slice ga F.v.length gb) (.slice gc F.s.length gd))))
        clear hb hb' hin hdr haf HF2 BP2 HB2
        cases hc : canI F (allL F) with
        | false =>
          rw [hc] at hcs
          go_wp2_with (first | (refine ld_at rfl (T := 30) rfl rfl (HK3.out.get 0 rfl) Tryz.underlying30 rfl (by kernel_rfl) ?_) | fail)
          refine (Possible_c F _ _ false _ HF3.out ho hc).mono ?_
          rintro e w4 ⟨rfl, hb⟩
          have HF4 := Lib.hid (HF3.out.below hb)
          have HG4 := Lib.hid (HG3.out.below hb)
          have HK4 := Lib.hid (HK3.out.below hb)
          have HB4 := Lib.hid (bthen HB3.out hb)
          clear HF3 HG3 HK3 HB3
          clear hb
          go_wp2_with (first | (refine ld_at rfl (T := 30) rfl rfl (HK4.out.get 1 rfl) Tryz.underlying30 rfl (by kernel_rfl) ?_) | fail)
          refine (Possible_c (sclF k F) _ _ false _ HG4.out ho' hcs).mono ?_
          rintro e w5 ⟨rfl, hb⟩
          have HF5 := Lib.hid (HF4.out.below hb)
          have HG5 := Lib.hid (HG4.out.below hb)
          have HK5 := Lib.hid (HK4.out.below hb)
          have HB5 := Lib.hid (bthen HB4.out hb)
          clear HF4 HG4 HK4 HB4
          clear hb
          go_wp2_with fail
          go_ret
          exact ⟨rfl, HB5.out⟩
        | true =>
          rw [hc] at hcs
          have hbq := boQ_scl kp hO hO' hc
          obtain ⟨q, hq⟩ : ∃ q, boQ F = q := ⟨_, rfl⟩
          rw [hq] at hbq
          have hb1 := fun w h => Bounds_s F (.slice ov vl cv) (.slice os sl cs) w h ho hc
          have hb2 := fun w h => Bounds_s (sclF k F) (.slice ga F.v.length gb) (.slice gc F.s.length gd) w h ho' hcs
          obtain ⟨l1, l2, l3, l4⟩ := q
          simp only [hq] at hb1
          simp only [hbq] at hb2
          obtain ⟨s1, hs1⟩ : ∃ s, lvLo F (allL F) 0 = s := ⟨_, rfl⟩
          obtain ⟨s2, hs2⟩ : ∃ s, lvHi F (allL F) 0 = s := ⟨_, rfl⟩
          obtain ⟨y1, hy1⟩ : ∃ s, lvLo F (allL F) m = s := ⟨_, rfl⟩
          obtain ⟨y2, hy2⟩ : ∃ s, lvHi F (allL F) m = s := ⟨_, rfl⟩
          have hl0 := lv_scl kp hO hO' (allI_lt F) 0
          rw [Int.zero_mul] at hl0
          have hlm := lv_scl kp hO hO' (allI_lt F) m
          have hst2 : lvLo (sclF k F) (allL (sclF k F)) 0 = s1 ∧ lvHi (sclF k F) (allL (sclF k F)) 0 = s2 := by rw [allL_scl]; exact ⟨hl0.1.trans hs1, hl0.2.trans hs2⟩
          have hlv2 : lvLo (sclF k F) (allL (sclF k F)) (m * k) = y1 ∧ lvHi (sclF k F) (allL (sclF k F)) (m * k) = y2 := by rw [allL_scl]; exact ⟨hlm.1.trans hy1, hlm.2.trans hy2⟩
          have hmk : 0 ≤ m * k ∧ m * k ≤ 2000000 := by
            have a := Int.mul_nonneg m0 (show 0 ≤ k by omega)
            have b := Int.mul_le_mul m1 k1 (by omega) (by omega : (0 : Int) ≤ 100000)
            omega
          have hwm : IntKind.i64.wrap (m * k) = m * k := IntWalk.i64_in _ (by omega)
          have HK1 := Lib.hid hb1
          have HK2 := Lib.hid hb2
          have HST1 := Lib.hid (And.intro hs1 hs2)
          have HST2 := Lib.hid hst2
          have HLV1 := Lib.hid (And.intro hy1 hy2)
          have HLV2 := Lib.hid hlv2
          have HMK := Lib.hid hmk
          clear hb1 hb2 hs1 hs2 hy1 hy2 hl0 hlm hst2 hlv2 hbq hq hmk
          go_wp2_with (first | (refine ld_at rfl (T := 30) rfl rfl (HK3.out.get 0 rfl) Tryz.underlying30 rfl (by kernel_rfl) ?_) | fail)
          refine (Possible_c F _ _ true _ HF3.out ho hc).mono ?_
          rintro e w4 ⟨rfl, hb⟩
          have HF4 := Lib.hid (HF3.out.below hb)
          have HG4 := Lib.hid (HG3.out.below hb)
          have HK4 := Lib.hid (HK3.out.below hb)
          have HB4 := Lib.hid (bthen HB3.out hb)
          clear HF3 HG3 HK3 HB3
          clear hb
          go_wp2_with (first | (refine ld_at rfl (T := 30) rfl rfl (HK4.out.get 1 rfl) Tryz.underlying30 rfl (by kernel_rfl) ?_) | fail)
          refine (Possible_c (sclF k F) _ _ true _ HG4.out ho' hcs).mono ?_
          rintro e w5 ⟨rfl, hb⟩
          have HF5 := Lib.hid (HF4.out.below hb)
          have HG5 := Lib.hid (HG4.out.below hb)
          have HK5 := Lib.hid (HK4.out.below hb)
          have HB5 := Lib.hid (bthen HB4.out hb)
          clear HF4 HG4 HK4 HB4
          clear hb
          go_wp2_with (first | (refine ld_at rfl (T := 30) rfl rfl (HK5.out.get 0 rfl) Tryz.underlying30 rfl (by kernel_rfl) ?_) | fail)
          refine (HK1.out _ HF5.out).mono ?_
          rintro e w6 ⟨rfl, hb⟩
          have hb' := (hb.alloc hb.size (Obj.cells #[.int .i64 l1, .int .i64 l2] 41)).alloc (Nat.le_trans hb.size (by simp)) (Obj.cells #[.int .i64 l3, .int .i64 l4] 41)
          have HF6 := Lib.hid (HF5.out.below hb')
          have HG6 := Lib.hid (HG5.out.below hb')
          have HK6 := Lib.hid (HK5.out.below hb')
          have HB6 := Lib.hid (bthen HB5.out hb')
          clear HF5 HG5 HK5 HB5
          have HK6 := Lib.hid ((HK6.out.add ((Bk.new w6 41 [.int .i64 l1, .int .i64 l2]).alloc (Obj.cells #[.int .i64 l3, .int .i64 l4] 41))).add (Bk.new1 w6 (Obj.cells #[.int .i64 l1, .int .i64 l2] 41) 41 [.int .i64 l3, .int .i64 l4]))
          clear hb hb'
          go_wp2_with (first | (refine ld_at rfl (T := 30) rfl rfl (HK6.out.get 1 rfl) Tryz.underlying30 rfl (by kernel_rfl) ?_) | fail)
          refine (HK2.out _ HG6.out).mono ?_
          rintro e w7 ⟨rfl, hb⟩
          have hb' := (hb.alloc hb.size (Obj.cells #[.int .i64 l1, .int .i64 l2] 41)).alloc (Nat.le_trans hb.size (by simp)) (Obj.cells #[.int .i64 l3, .int .i64 l4] 41)
          have HF7 := Lib.hid (HF6.out.below hb')
          have HG7 := Lib.hid (HG6.out.below hb')
          have HK7 := Lib.hid (HK6.out.below hb')
          have HB7 := Lib.hid (bthen HB6.out hb')
          clear HF6 HG6 HK6 HB6
          have HK7 := Lib.hid ((HK7.out.add ((Bk.new w7 41 [.int .i64 l1, .int .i64 l2]).alloc (Obj.cells #[.int .i64 l3, .int .i64 l4] 41))).add (Bk.new1 w7 (Obj.cells #[.int .i64 l1, .int .i64 l2] 41) 41 [.int .i64 l3, .int .i64 l4]))
          clear hb hb'
          go_wp2_with (first | (refine ld_at rfl (T := 30) rfl rfl (HK7.out.get 0 rfl) Tryz.underlying30 rfl (by kernel_rfl) ?_) | fail)
          refine (Start_yes F _ _ s1 s2 _ HF7.out ho hc HST1.out.1 HST1.out.2).mono ?_
          rintro e w8 ⟨rfl, hb⟩
          have hb' := hb.alloc hb.size (Obj.cells #[.int .i64 s1, .int .i64 s2] 27)
          have HF8 := Lib.hid (HF7.out.below hb')
          have HG8 := Lib.hid (HG7.out.below hb')
          have HK8 := Lib.hid (HK7.out.below hb')
          have HB8 := Lib.hid (bthen HB7.out hb')
          clear HF7 HG7 HK7 HB7
          have HK8 := Lib.hid (HK8.out.add (Bk.new w8 27 [.int .i64 s1, .int .i64 s2]))
          clear hb hb'
          go_wp2_with (first | (refine ld_at rfl (T := 30) rfl rfl (HK8.out.get 1 rfl) Tryz.underlying30 rfl (by kernel_rfl) ?_) | fail)
          refine (Start_yes (sclF k F) _ _ s1 s2 _ HG8.out ho' hcs HST2.out.1 HST2.out.2).mono ?_
          rintro e w9 ⟨rfl, hb⟩
          have hb' := hb.alloc hb.size (Obj.cells #[.int .i64 s1, .int .i64 s2] 27)
          have HF9 := Lib.hid (HF8.out.below hb')
          have HG9 := Lib.hid (HG8.out.below hb')
          have HK9 := Lib.hid (HK8.out.below hb')
          have HB9 := Lib.hid (bthen HB8.out hb')
          clear HF8 HG8 HK8 HB8
          have HK9 := Lib.hid (HK9.out.add (Bk.new w9 27 [.int .i64 s1, .int .i64 s2]))
          clear hb hb'
          go_wp2_with (first | (refine ld_at rfl (T := 30) rfl rfl (HK9.out.get 0 rfl) Tryz.underlying30 rfl (by kernel_rfl) ?_) | fail)
          refine (Level_yes F _ _ m y1 y2 _ HF9.out ho hc m0 (by omega) HLV1.out.1 HLV1.out.2).mono ?_
          rintro e w10 ⟨rfl, hb⟩
          have hb' := hb.alloc hb.size (Obj.cells #[.int .i64 y1, .int .i64 y2] 27)
          have HF10 := Lib.hid (HF9.out.below hb')
          have HG10 := Lib.hid (HG9.out.below hb')
          have HK10 := Lib.hid (HK9.out.below hb')
          have HB10 := Lib.hid (bthen HB9.out hb')
          clear HF9 HG9 HK9 HB9
          have HK10 := Lib.hid (HK10.out.add (Bk.new w10 27 [.int .i64 y1, .int .i64 y2]))
          clear hb hb'
          go_wp2_with (first | (refine ld_at rfl (T := 30) rfl rfl (HK10.out.get 1 rfl) Tryz.underlying30 rfl (by kernel_rfl) ?_) | fail)
          refine (Level_yes (sclF k F) _ _ (m * k) y1 y2 _ HG10.out ho' hcs HMK.out.1 (by have := HMK.out; omega) HLV2.out.1 HLV2.out.2).mono ?_
          rintro e w11 ⟨rfl, hb⟩
          have hb' := hb.alloc hb.size (Obj.cells #[.int .i64 y1, .int .i64 y2] 27)
          have HF11 := Lib.hid (HF10.out.below hb')
          have HG11 := Lib.hid (HG10.out.below hb')
          have HK11 := Lib.hid (HK10.out.below hb')
          have HB11 := Lib.hid (bthen HB10.out hb')
          clear HF10 HG10 HK10 HB10
          have HK11 := Lib.hid (HK11.out.add (Bk.new w11 27 [.int .i64 y1, .int .i64 y2]))
          clear hb hb'
          have hbe := ballo (w11.alloc (Obj.cells #[.int .i64 y1, .int .i64 y2] 27)) (Obj.cells #[.int .i64 0, .int .i64 0, .int .i64 0, .int .i64 0, .int .i64 0, .int .i64 0] 33)
          have hE := Bk.new1 w11 (Obj.cells #[.int .i64 y1, .int .i64 y2] 27) 33 [.int .i64 0, .int .i64 0, .int .i64 0, .int .i64 0, .int .i64 0, .int .i64 0]
          have HF12 := Lib.hid (HF11.out.below hbe)
          have HG12 := Lib.hid (HG11.out.below hbe)
          have HK12 := Lib.hid (HK11.out.below hbe)
          have HB12 := Lib.hid (bthen HB11.out hbe)
          clear HF11 HG11 HK11 HB11
          have HE := Lib.hid (show ∀ j, j < 6 → ((w11.alloc (Obj.cells #[.int .i64 y1, .int .i64 y2] 27)).alloc (Obj.cells #[.int .i64 0, .int .i64 0, .int .i64 0, .int .i64 0, .int .i64 0, .int .i64 0] 33)).cell? ⟨w11.heap.size + 1, j, none⟩ = some (.int .i64 0) from fun j hj => by
            rw [hE.cell j]
            rcases j with _ | _ | _ | _ | _ | _ | j <;> first | rfl | omega)
          have hElt := hE.lt
          go_wp2_with fail
          obtain ⟨W, hW⟩ : ∃ W, (w11.alloc (Obj.cells #[.int .i64 y1, .int .i64 y2] 27)).alloc (Obj.cells #[.int .i64 0, .int .i64 0, .int .i64 0, .int .i64 0, .int .i64 0, .int .i64 0] 33) = W := ⟨_, rfl⟩
          rw [hW] at HE hElt HF12 HG12 HK12 HB12
          try rw [hW]
          clear hW hbe hE hwm
          go_loopw [129] (fun t wr => ∃ j : Nat, j ≤ 6 ∧ t = .int .i64 (j : Int) ∧ wr = W) (fun t _ => 6 - (intOf t).toNat)
          case atStart => exact ⟨0, by omega, rfl, rfl⟩
          case round =>
            obtain ⟨j, hj, rfl, rfl⟩ := hrel
            by_cases hj6 : j < 6
            · have hcell := HE.out j hj6
              go_wp2_with fail
              exact ⟨⟨j + 1, by omega, by go_num, by first | rfl | trivial⟩, by simp [intOf]; omega⟩
            · obtain rfl : j = 6 := by omega
              have a0 := (HK12.out.get 2 rfl).cell 0
              have a1 := (HK12.out.get 2 rfl).cell 1
              have al := (HK12.out.get 2 rfl).lt
              simp only [List.getElem?_cons_zero, List.getElem?_cons_succ] at a0 a1
              have b0 := (HK12.out.get 3 rfl).cell 0
              have b1 := (HK12.out.get 3 rfl).cell 1
              have bl := (HK12.out.get 3 rfl).lt
              simp only [List.getElem?_cons_zero, List.getElem?_cons_succ] at b0 b1
              have c0 := (HK12.out.get 4 rfl).cell 0
              have c1 := (HK12.out.get 4 rfl).cell 1
              have cl := (HK12.out.get 4 rfl).lt
              simp only [List.getElem?_cons_zero, List.getElem?_cons_succ] at c0 c1
              have d0 := (HK12.out.get 5 rfl).cell 0
              have d1 := (HK12.out.get 5 rfl).cell 1
              have dl := (HK12.out.get 5 rfl).lt
              simp only [List.getElem?_cons_zero, List.getElem?_cons_succ] at d0 d1
              have e0 := (HK12.out.get 6 rfl).cell 0
              have e1 := (HK12.out.get 6 rfl).cell 1
              have el := (HK12.out.get 6 rfl).lt
              simp only [List.getElem?_cons_zero, List.getElem?_cons_succ] at e0 e1
              have f0 := (HK12.out.get 7 rfl).cell 0
              have f1 := (HK12.out.get 7 rfl).cell 1
              have fl := (HK12.out.get 7 rfl).lt
              simp only [List.getElem?_cons_zero, List.getElem?_cons_succ] at f0 f1
              have g0 := (HK12.out.get 8 rfl).cell 0
              have g1 := (HK12.out.get 8 rfl).cell 1
              have gl := (HK12.out.get 8 rfl).lt
              simp only [List.getElem?_cons_zero, List.getElem?_cons_succ] at g0 g1
              have h0 := (HK12.out.get 9 rfl).cell 0
              have h1 := (HK12.out.get 9 rfl).cell 1
              have hl := (HK12.out.get 9 rfl).lt
              simp only [List.getElem?_cons_zero, List.getElem?_cons_succ] at h0 h1
              go_wp2_with (first | (refine ld_at rfl (T := 30) rfl rfl (HK12.out.get 0 rfl) Tryz.underlying30 rfl (by kernel_rfl) ?_) | fail)
              clear a0 a1 al b0 b1 bl c0 c1 cl d0 d1 dl e0 e1 el f0 f1 fl g0 g1 gl h0 h1 hl
              cases hx : inB x 0 (hgt F.v) with
              | false =>
                have hx' : inB x 0 (hgt (sclF k F).v) = false := by rw [hgtF]; exact hx
                refine (Reached_s F _ _ x _ HF12.out ho hx).mono ?_
                rintro e w13 ⟨rfl, hb⟩
                have hb' := hb.alloc hb.size (Obj.cells #[.int .i64 0, .int .i64 0] 27)
                have HF13 := Lib.hid (HF12.out.below hb')
                have HG13 := Lib.hid (HG12.out.below hb')
                have HK13 := Lib.hid (HK12.out.below hb')
                have HB13 := Lib.hid (bthen HB12.out hb')
                clear HF12 HG12 HK12 HB12
                have HK13 := Lib.hid (HK13.out.add (Bk.new w13 27 [.int .i64 0, .int .i64 0]))
                clear hb hb'
                go_wp2_with (first | (refine ld_at rfl (T := 30) rfl rfl (HK13.out.get 1 rfl) Tryz.underlying30 rfl (by kernel_rfl) ?_) | fail)
                refine (Reached_s (sclF k F) _ _ x _ HG13.out ho' hx').mono ?_
                rintro e w14 ⟨rfl, hb⟩
                have hb' := hb.alloc hb.size (Obj.cells #[.int .i64 0, .int .i64 0] 27)
                have HF14 := Lib.hid (HF13.out.below hb')
                have HG14 := Lib.hid (HG13.out.below hb')
                have HK14 := Lib.hid (HK13.out.below hb')
                have HB14 := Lib.hid (bthen HB13.out hb')
                clear HF13 HG13 HK13 HB13
                have HK14 := Lib.hid (HK14.out.add (Bk.new w14 27 [.int .i64 0, .int .i64 0]))
                clear hb hb'
                go_wp2_with fail
                go_ret
                exact ⟨rfl, HB14.out⟩
              | true =>
                obtain ⟨x0, xn⟩ := inB_t hx
                have xn' : x ≤ hgt (sclF k F).v := by rw [hgtF]; exact xn
                have hrc := rc_scl kp hO hO' (allI_lt F) hc x0 xn
                have hrl := (rcLo_spec hO (allI_lt F) x0 xn).1
                have hrh := (rcHi_spec hO (allI_lt F) x0 xn).1
                obtain ⟨u1, hu1⟩ : ∃ s, rcLo F (allL F) x = s := ⟨_, rfl⟩
                obtain ⟨u2, hu2⟩ : ∃ s, rcHi F (allL F) x = s := ⟨_, rfl⟩
                obtain ⟨v1, hv1⟩ : ∃ s, rcLo (sclF k F) (allL (sclF k F)) x = s := ⟨_, rfl⟩
                obtain ⟨v2, hv2⟩ : ∃ s, rcHi (sclF k F) (allL (sclF k F)) x = s := ⟨_, rfl⟩
                have hv1' := hv1
                have hv2' := hv2
                rw [allL_scl] at hv1' hv2'
                rw [hu1, hu2, hv1', hv2'] at hrc
                rw [hu1] at hrl
                rw [hu2] at hrh
                obtain ⟨z, hz⟩ : ∃ z, x / 2 = z := ⟨_, rfl⟩
                have e2 : x.tdiv 2 = z := by rw [Int.tdiv_eq_ediv_of_nonneg x0]; exact hz
                have z0 : 0 ≤ z ∧ z ≤ x := by omega
                have hsr : skR F x z = true := by unfold skR; rw [hx, inB_tt z0.1 (by omega)]; simpa using z0.2
                have hsr' : skR (sclF k F) x z = true := by unfold skR; rw [inB_tt x0 xn', inB_tt z0.1 (by omega)]; simpa using z0.2
                have hr1 : rdE F (skR F x z) = 0 := rdE_0 ho hsr hc
                have hr2 : rdE (sclF k F) (skR (sclF k F) x z) = 0 := rdE_0 ho' hsr' hcs
                obtain ⟨bb1, bb2⟩ := bounds_scl kp hO hO' (allI_lt F) hc
                have B := knR_B hO
                have B' := knR_B hO'
                have Q := kn_quarter hO hc
                have hkn := knR_eq hc
                have hkn' := knR_eq hcs
                rw [allL_scl] at hkn'
                rw [← hkn, ← hkn'] at bb1 bb2
                have hsk1 := (sk_scl kp hO hO' B.c0 B'.c0 B.d0 B'.d0 bb2 ⟨x0, xn⟩ ⟨z0.1, by omega⟩).1
                have hsk2 := (sk_scl kp hO hO' B.a0 B'.a0 B.b0 B'.b0 bb1 ⟨x0, xn⟩ ⟨z0.1, by omega⟩).2
                have hsb1 := (sk_bd hO B.c0 B.d0 Q.2 z0.1 z0.2 xn).1
                have hsb2 := (sk_bd hO B.a0 B.b0 Q.1 z0.1 z0.2 xn).2
                obtain ⟨p1, hp1⟩ : ∃ s, skLo F (knR F).hi x z = s := ⟨_, rfl⟩
                obtain ⟨p2, hp2⟩ : ∃ s, skHi F (knR F).lo x z = s := ⟨_, rfl⟩
                obtain ⟨q1, hq1⟩ : ∃ s, skLo (sclF k F) (knR (sclF k F)).hi x z = s := ⟨_, rfl⟩
                obtain ⟨q2, hq2⟩ : ∃ s, skHi (sclF k F) (knR (sclF k F)).lo x z = s := ⟨_, rfl⟩
                rw [hp1, hq1] at hsk1
                rw [hp2, hq2] at hsk2
                rw [hp1] at hsb1
                rw [hp2] at hsb2
                have ha1 : skA F x z = p1 := by unfold skA; rw [if_pos hr1]; exact hp1
                have ha2 : skB F x z = p2 := by unfold skB; rw [if_pos hr1]; exact hp2
                have ha3 : skA (sclF k F) x z = q1 := by unfold skA; rw [if_pos hr2]; exact hq1
                have ha4 : skB (sclF k F) x z = q2 := by unfold skB; rw [if_pos hr2]; exact hq2
                have HA := Lib.hid (And.intro (And.intro ha1 ha2) (And.intro ha3 ha4))
                have HRR := Lib.hid (And.intro hr1 hr2)
                have HRC := Lib.hid hrc
                have HSK := Lib.hid (And.intro hsk1 hsk2)
                have HBD := Lib.hid (And.intro (And.intro hrl hrh) (And.intro hsb1 hsb2))
                have HU := Lib.hid (And.intro (And.intro hu1 hu2) (And.intro hv1 hv2))
                clear hrc hrl hrh hu1 hu2 hv1 hv2 hv1' hv2' hz hsr hsr' hr1 hr2 bb1 bb2 B B' Q hkn hkn' hsk1 hsk2 hsb1 hsb2 hp1 hp2 hq1 hq2 ha1 ha2 ha3 ha4
                refine (Reached_yes F _ _ x u1 u2 _ HF12.out ho hc x0 xn HU.out.1.1 HU.out.1.2).mono ?_
                rintro e w13 ⟨rfl, hb⟩
                have hb' := hb.alloc hb.size (Obj.cells #[.int .i64 u1, .int .i64 u2] 27)
                have HF13 := Lib.hid (HF12.out.below hb')
                have HG13 := Lib.hid (HG12.out.below hb')
                have HK13 := Lib.hid (HK12.out.below hb')
                have HB13 := Lib.hid (bthen HB12.out hb')
                clear HF12 HG12 HK12 HB12
                have HK13 := Lib.hid (HK13.out.add (Bk.new w13 27 [.int .i64 u1, .int .i64 u2]))
                clear hb hb'
                go_wp2_with (first | (refine ld_at rfl (T := 30) rfl rfl (HK13.out.get 1 rfl) Tryz.underlying30 rfl (by kernel_rfl) ?_) | fail)
                refine (Reached_yes (sclF k F) _ _ x v1 v2 _ HG13.out ho' hcs x0 xn' HU.out.2.1 HU.out.2.2).mono ?_
                rintro e w14 ⟨rfl, hb⟩
                have hb' := hb.alloc hb.size (Obj.cells #[.int .i64 v1, .int .i64 v2] 27)
                have HF14 := Lib.hid (HF13.out.below hb')
                have HG14 := Lib.hid (HG13.out.below hb')
                have HK14 := Lib.hid (HK13.out.below hb')
                have HB14 := Lib.hid (bthen HB13.out hb')
                clear HF13 HG13 HK13 HB13
                have HK14 := Lib.hid (HK14.out.add (Bk.new w14 27 [.int .i64 v1, .int .i64 v2]))
                clear hb hb'
                go_wp2_with (first | (refine ld_at rfl (T := 30) rfl rfl (HK14.out.get 0 rfl) Tryz.underlying30 rfl (by kernel_rfl) ?_) | fail)
                refine (Sinks_c F _ _ x z p1 p2 0 _ HF14.out HA.out.1.1 HA.out.1.2 HRR.out.1).mono ?_
                rintro e w15 ⟨rfl, hb⟩
                have hb' := hb.alloc hb.size (Obj.cells #[.int .i64 p1, .int .i64 p2] 27)
                have HF15 := Lib.hid (HF14.out.below hb')
                have HG15 := Lib.hid (HG14.out.below hb')
                have HK15 := Lib.hid (HK14.out.below hb')
                have HB15 := Lib.hid (bthen HB14.out hb')
                clear HF14 HG14 HK14 HB14
                have HK15 := Lib.hid (HK15.out.add (Bk.new w15 27 [.int .i64 p1, .int .i64 p2]))
                clear hb hb'
                go_wp2_with (first | (refine ld_at rfl (T := 30) rfl rfl (HK15.out.get 1 rfl) Tryz.underlying30 rfl (by kernel_rfl) ?_) | fail)
                refine (Sinks_c (sclF k F) _ _ x z q1 q2 0 _ HG15.out HA.out.2.1 HA.out.2.2 HRR.out.2).mono ?_
                rintro e w16 ⟨rfl, hb⟩
                have hb' := hb.alloc hb.size (Obj.cells #[.int .i64 q1, .int .i64 q2] 27)
                have HF16 := Lib.hid (HF15.out.below hb')
                have HG16 := Lib.hid (HG15.out.below hb')
                have HK16 := Lib.hid (HK15.out.below hb')
                have HB16 := Lib.hid (bthen HB15.out hb')
                clear HF15 HG15 HK15 HB15
                have HK16 := Lib.hid (HK16.out.add (Bk.new w16 27 [.int .i64 q1, .int .i64 q2]))
                clear hb hb'
                have hov : ∀ y : Int, 0 ≤ y → y ≤ 1920000000001 → -4611686018427387904 ≤ y * k ∧ y * k ≤ 4611686018427387904 := fun y a b => by
                  have c := Int.mul_nonneg a (show 0 ≤ k by omega)
                  have d := Int.mul_le_mul b k1 (by omega) (by omega : (0 : Int) ≤ 1920000000001)
                  omega
                have HOV := Lib.hid hov
                clear hov
                have a0 := (HK16.out.get 10 rfl).cell 0
                have a1 := (HK16.out.get 10 rfl).cell 1
                have al := (HK16.out.get 10 rfl).lt
                simp only [List.getElem?_cons_zero, List.getElem?_cons_succ] at a0 a1
                have b0 := (HK16.out.get 11 rfl).cell 0
                have b1 := (HK16.out.get 11 rfl).cell 1
                have bl := (HK16.out.get 11 rfl).lt
                simp only [List.getElem?_cons_zero, List.getElem?_cons_succ] at b0 b1
                go_wp2_with fail
                clear a0 a1 al b0 b1 bl
                obtain ⟨⟨⟨y11, y12⟩, y13, y14⟩, ⟨y21, y22⟩, y23, y24⟩ := HBD.out
                refine (scaled_any u1 u2 v1 v2 k _ (HOV.out _ y11 (by omega)) (HOV.out _ y13 (by omega)) k0 k1 HRC.out).mono ?_
                rintro e w17 ⟨rfl, hb⟩
                have HF17 := Lib.hid (HF16.out.below hb)
                have HG17 := Lib.hid (HG16.out.below hb)
                have HK17 := Lib.hid (HK16.out.below hb)
                have HB17 := Lib.hid (bthen HB16.out hb)
                clear HF16 HG16 HK16 HB16
                clear hb
                have a0 := (HK17.out.get 12 rfl).cell 0
                have a1 := (HK17.out.get 12 rfl).cell 1
                have al := (HK17.out.get 12 rfl).lt
                simp only [List.getElem?_cons_zero, List.getElem?_cons_succ] at a0 a1
                have b0 := (HK17.out.get 13 rfl).cell 0
                have b1 := (HK17.out.get 13 rfl).cell 1
                have bl := (HK17.out.get 13 rfl).lt
                simp only [List.getElem?_cons_zero, List.getElem?_cons_succ] at b0 b1
                go_wp2_with fail
                clear a0 a1 al b0 b1 bl
                refine (scaled_any p1 p2 q1 q2 k _ (HOV.out _ y21 (by omega)) (HOV.out _ y23 y24) k0 k1 HSK.out).mono ?_
                rintro e w18 ⟨rfl, hb⟩
                have HF18 := Lib.hid (HF17.out.below hb)
                have HG18 := Lib.hid (HG17.out.below hb)
                have HK18 := Lib.hid (HK17.out.below hb)
                have HB18 := Lib.hid (bthen HB17.out hb)
                clear HF17 HG17 HK17 HB17
                clear hb
                go_wp2_with fail
                go_ret
                exact ⟨rfl, HB18.out⟩
    · have hr2 : k < 1 ∨ 20 < k ∨ m < 0 ∨ 100000 < m := by omega
      clear hr
      by_cases r1 : k < 1
      · clear hr2
        go_wp2_with fail
        go_ret
        exact ⟨rfl, HB2.out⟩
      · by_cases r2 : 20 < k
        · clear hr2
          go_wp2_with fail
          go_ret
          exact ⟨rfl, HB2.out⟩
        · by_cases r3 : m < 0
          · clear hr2
            go_wp2_with fail
            go_ret
            exact ⟨rfl, HB2.out⟩
          · have r4 : 100000 < m := by omega
            clear hr2
            go_wp2_with fail
            go_ret
            exact ⟨rfl, HB2.out⟩
end Go.Proofs.YtnfndiafabhhdaaGreat
