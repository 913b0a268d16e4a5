/- With Wear narrowed to a wear within Bounds a case is possible, with one outside none is (WearNarrow): the walk. -/
import Derived.Test.YtnfndiafabhhdaaGreatF3
import Derived.Test.YtnfndiafabhhdaaGreatA5
import Derived.Test.YtnfndiafabhhdaaGreatF1
import Derived.Test.YtnfndiafabhhdaaGreatF2
import Derived.Test.YtnfndiafabhhdaaGreatE9
import Derived.Deep.CutRange
namespace Go.Proofs.YtnfndiafabhhdaaGreat
open Go.ChangeShapes Go.WideShapes Go.ChangeAt Go.RowKit
theorem Check_c (F : Fl) (vv vs : Value) (c : Int) (w : World) (hF : FlIn w F vv vs) (hc : chkF F = c) : Calls Tryz.prog 37 #[flV F vv vs] w fun e w' => e = .returned (.int .i64 c) ∧ Below w.heap.size w w' := by
  rw [← hc]; exact Check_any F vv vs w hF
theorem Possible_c (F : Fl) (vv vs : Value) (b : Bool) (w : World) (hF : FlIn w F vv vs) (ho : okFl F = true) (hc : canI F (allL F) = b) : Calls Tryz.prog 35 #[flV F vv vs] w fun e w' => e = .returned (.tuple #[.bool b, .int .i64 0]) ∧ Below w.heap.size w w' := by
  have := Possible_any F vv vs w hF
  rw [ho, hc, Bool.true_and] at this
  unfold chkF at this
  rwa [if_pos ho] at this
theorem Bounds_no (F : Fl) (vv vs : Value) (w : World) (hF : FlIn w F vv vs) (ho : okFl F = true) (hc : canI F (allL F) = false) : Calls Tryz.prog 32 #[flV F vv vs] w fun e w' => e = .returned (.tuple #[raZ, raZ, .int .i64 31]) ∧ Below w.heap.size w w' := by
  have h := Bounds_any F vv vs w hF
  have e : rdE F true = 31 := by unfold rdE; rw [if_pos ho, if_pos rfl, if_neg (by rw [hc]; decide)]
  unfold boV at h
  rwa [if_neg (by rw [e]; decide), e] at h
theorem Bounds_yes (F : Fl) (vv vs : Value) (w : World) (a1 a2 b1 b2 : Int) (hF : FlIn w F vv vs) (ho : okFl F = true) (hc : canI F (allL F) = true) (h1 : lowN1 (1000 * (solvedW F (allL F)).hi.d) (solvedW F (allL F)).hi.n = a1) (h2 : lowN2 (1000 * (solvedW F (allL F)).hi.d) (solvedW F (allL F)).hi.n = a2)
    (h3 : lowN1 (1000 * (solvedW F (allL F)).lo.d) (solvedW F (allL F)).lo.n = b1) (h4 : lowN2 (1000 * (solvedW F (allL F)).lo.d) (solvedW F (allL F)).lo.n = b2) : Calls Tryz.prog 32 #[flV F vv vs] w fun e w' => e = .returned (.tuple #[.agg #[.int .i64 a1, .int .i64 a2], .agg #[.int .i64 b1, .int .i64 b2], .int .i64 0]) ∧ Below w.heap.size w w' := by
  have h := Bounds_any F vv vs w hF
  have e : rdE F true = 0 := by unfold rdE; rw [if_pos ho, if_pos rfl, if_pos hc]
  unfold boV at h
  rw [if_pos e, knR_eq hc] at h
  subst h1 h2 h3 h4
  exact h
theorem bounds_bd {F : Fl} (h : OkF F) (hc : canI F (allL F) = true) : (1 ≤ lowN2 (1000 * (solvedW F (allL F)).hi.d) (solvedW F (allL F)).hi.n ∧ lowN2 (1000 * (solvedW F (allL F)).hi.d) (solvedW F (allL F)).hi.n ≤ 480000000000) ∧ (1 ≤ lowN2 (1000 * (solvedW F (allL F)).lo.d) (solvedW F (allL F)).lo.n ∧ lowN2 (1000 * (solvedW F (allL F)).lo.d) (solvedW F (allL F)).lo.n ≤ 480000000000) := by
  have b := knR_B h
  rw [knR_eq hc] at b
  have h1 := lowN_bd (n := 1000 * (solvedW F (allL F)).hi.d) (d := (solvedW F (allL F)).hi.n) (by have := b.d0; omega) b.c0
  have h2 := lowN_bd (n := 1000 * (solvedW F (allL F)).lo.d) (d := (solvedW F (allL F)).lo.n) (by have := b.b0; omega) b.a0
  have := b.c1
  have := b.a1
  omega
set_option maxRecDepth 100000 in
set_option maxHeartbeats 4000000 in
theorem law_narrow (F : Fl) (vv vs : Value) (n : Int) (w : World) (hF : FlIn w F vv vs) (n1 : -9223372036854775808 ≤ n) (n2 : n ≤ 9223372036854775807) : Calls Tryz.prog 7 #[flV F vv vs, .int .i64 n] w fun e w' => e = .returned (.bool true) ∧ Below w.heap.size w w' := by
  obtain ⟨os, cs, rfl, ms⟩ := hF.s.parts
  obtain ⟨ov, cv, rfl, mv⟩ := hF.v.parts
  obtain ⟨sl, hsl⟩ : ∃ k, F.s.length = k := ⟨_, rfl⟩
  obtain ⟨vl, hvl⟩ : ∃ k, F.v.length = k := ⟨_, rfl⟩
  rw [hsl] at hF ms ⊢
  rw [hvl] at hF mv ⊢
  have HSL := Lib.hid hsl
  have HVL := Lib.hid hvl
  clear hsl hvl
  have HF := Lib.hid (hF.alloc (flO F (.slice ov vl cv) (.slice os sl cs)))
  have BP := Lib.hid (Bk.new w 30 (flL F (.slice ov vl cv) (.slice os sl cs)))
  clear hF
  go_enter Tryz.func7, Tryz.ntmps7
  go_wp2_with fail
  refine (sane_any _).mono ?_
  rintro e w1 ⟨rfl, hb⟩
  have HF1 := Lib.hid (HF.out.below hb)
  have BP1 := Lib.hid (BP.out.below hb)
  have HB1 := Lib.hid (bafter hb)
  clear hb HF BP
  go_wp2_with (first | (refine ld_at rfl (T := 30) rfl rfl BP1.out Tryz.underlying30 rfl (by kernel_rfl) ?_) | fail)
  by_cases hok : okFl F = true
  · have hO := (okFl_iff F).1 hok
    refine (Check_c F _ _ 0 w1 HF1.out (by unfold chkF; rw [if_pos hok])).mono ?_
    rintro e w2 ⟨rfl, hb⟩
    have HF2 := Lib.hid (HF1.out.below hb)
    have BP2 := Lib.hid (BP1.out.below hb)
    have HB2 := Lib.hid (bthen HB1.out hb)
    clear hb HF1 BP1 HB1
    have c3 := BP2.out.cell 3
    have c4 := BP2.out.cell 4
    simp only [List.getElem?_cons_zero, List.getElem?_cons_succ] at c3 c4
    by_cases h1 : n < F.wlo
    · go_wp2_with fail
      go_ret
      exact ⟨rfl, HB2.out⟩
    · by_cases h2 : n > F.whi
      · go_wp2_with fail
        go_ret
        exact ⟨rfl, HB2.out⟩
      · have hw1 : F.wlo ≤ n := by omega
        have hw2 : n ≤ F.whi := by omega
        have n0 : 0 < n := by have := hO.w1; omega
        have n4 : n ≤ 4000 := by have := hO.w3; omega
        have hG := okF_nar hO hw1 hw2
        have hGo := (okFl_iff _).2 hG
        have hall : allL (narF F n) = allL F := rfl
        have hmem : -2 ∈ allL F := by exact allI_mem.2 (by omega)
        have hnar := nar_can hO hw1 hw2 (fun i hi => (allL_ok F i hi).2) hmem
        go_wp2_with (first | (refine ld_at rfl (T := 30) rfl rfl BP2.out Tryz.underlying30 rfl (by kernel_rfl) ?_) | fail)
        cases hc : canI F (allL F) with
        | false =>
          have hn2 : canI (narF F n) (allL (narF F n)) = false := by
            cases hx : canI (narF F n) (allL F) with
            | false => rw [hall]; exact hx
            | true =>
              have := has_can hO (fun i hi => (allL_ok F i hi).2) n0 (hnar.1 hx)
              rw [hc] at this
              cases this
          refine (Bounds_no F _ _ w2 HF2.out hok hc).mono ?_
          rintro e w3 ⟨rfl, hb⟩
          have HF3 := Lib.hid (HF2.out.below hb)
          have BP3 := Lib.hid (BP2.out.below hb)
          have HB3 := Lib.hid (bthen HB2.out hb)
          have HGO := Lib.hid hGo
          have HN2 := Lib.hid hn2
          clear hb HF2 BP2 HB2 c3 c4 hO hG hGo hall hmem hnar hn2 hc hok
          have y0 := BP3.out.cell 0
          have y1 := BP3.out.cell 1
          have y2 := BP3.out.cell 2
          have y3 := BP3.out.cell 3
          have y4 := BP3.out.cell 4
          have y5 := BP3.out.cell 5
          have yl := BP3.out.lt
          simp only [List.getElem?_cons_zero, List.getElem?_cons_succ] at y0 y1 y2 y3 y4 y5
          go_wp2_with fail
          have hF4 : FlIn _ (narF F n) (.slice ov vl cv) (.slice os sl cs) := FlIn.mk ((((HF3.out.v.alloc raO).alloc raO).alloc (Obj.cells #[.slice ov vl cv, .int .i64 F.f.lv, .int .i64 F.f.er, .int .i64 n, .int .i64 n, .slice os sl cs] 30))) ((((HF3.out.s.alloc raO).alloc raO).alloc (Obj.cells #[.slice ov vl cv, .int .i64 F.f.lv, .int .i64 F.f.er, .int .i64 n, .int .i64 n, .slice os sl cs] 30)))
          refine (Possible_c (narF F n) _ _ false _ hF4 HGO.out HN2.out).mono ?_
          rintro e w4 ⟨rfl, hb⟩
          have HB4 := Lib.hid (HB3.out.trans ((bafter (bafter (bafter hb))).mono HB3.out.size))
          clear hb hF4 HF3 BP3 HB3 y0 y1 y2 y3 y4 y5 yl
          go_wp2_with fail
          go_ret
          exact ⟨rfl, HB4.out⟩
        | true =>
          have hbd := bounds_bd hO hc
          have hB := knR_B hO
          rw [knR_eq hc] at hB
          have k1 := (low_le (n := 1000 * (solvedW F (allL F)).hi.d) (d := (solvedW F (allL F)).hi.n) (N := n) (D := 1) (by have := hB.d0; omega) hB.c0 (by decide)).1
          have k2 := (low_le (n := 1000 * (solvedW F (allL F)).lo.d) (d := (solvedW F (allL F)).lo.n) (N := n) (D := 1) (by have := hB.b0; omega) hB.a0 (by decide)).2
          have hkey := hnar.trans (wear_in hc)
          rw [Int.mul_one] at k1 k2
          obtain ⟨a1, ha1⟩ : ∃ x, lowN1 (1000 * (solvedW F (allL F)).hi.d) (solvedW F (allL F)).hi.n = x := ⟨_, rfl⟩
          obtain ⟨a2, ha2⟩ : ∃ x, lowN2 (1000 * (solvedW F (allL F)).hi.d) (solvedW F (allL F)).hi.n = x := ⟨_, rfl⟩
          obtain ⟨b1, hb1⟩ : ∃ x, lowN1 (1000 * (solvedW F (allL F)).lo.d) (solvedW F (allL F)).lo.n = x := ⟨_, rfl⟩
          obtain ⟨b2, hb2⟩ : ∃ x, lowN2 (1000 * (solvedW F (allL F)).lo.d) (solvedW F (allL F)).lo.n = x := ⟨_, rfl⟩
          have hBo := Bounds_yes F _ _ w2 a1 a2 b1 b2 HF2.out hok hc ha1 ha2 hb1 hb2
          rw [ha2, hb2] at hbd
          rw [ha1, ha2, Int.mul_one] at k1
          rw [hb1, hb2, Int.mul_one] at k2
          rw [← k1, ← k2] at hkey
          have m1 := mul_bd (Int.le_of_lt n0) n4 (by omega : 0 ≤ a2) hbd.1.2
          have m2 := mul_bd (Int.le_of_lt n0) n4 (by omega : 0 ≤ b2) hbd.2.2
          obtain ⟨p1, hp1⟩ : ∃ x, n * a2 = x := ⟨_, rfl⟩
          obtain ⟨p2, hp2⟩ : ∃ x, n * b2 = x := ⟨_, rfl⟩
          rw [hp1] at hkey m1
          rw [hp2] at hkey m2
          have q1 : 1 ≤ a2 := hbd.1.1
          have q2 : a2 ≤ 480000000000 := hbd.1.2
          have q3 : 1 ≤ b2 := hbd.2.1
          have q4 : b2 ≤ 480000000000 := hbd.2.2
          have HGO := Lib.hid hGo
          have HKEY := Lib.hid hkey
          have HALL := Lib.hid hall
          refine hBo.mono ?_
          rintro e w3 ⟨rfl, hb⟩
          have HF3 := Lib.hid (HF2.out.below hb)
          have BP3 := Lib.hid (BP2.out.below hb)
          have HB3 := Lib.hid (bthen HB2.out hb)
          clear hb HF2 BP2 HB2 c3 c4 hO hG hGo hall hmem hnar hc hok hBo ha1 ha2 hb1 hb2 hbd hB k1 k2 hkey
          have y0 := BP3.out.cell 0
          have y1 := BP3.out.cell 1
          have y2 := BP3.out.cell 2
          have y3 := BP3.out.cell 3
          have y4 := BP3.out.cell 4
          have y5 := BP3.out.cell 5
          have yl := BP3.out.lt
          simp only [List.getElem?_cons_zero, List.getElem?_cons_succ] at y0 y1 y2 y3 y4 y5
          go_wp2_with fail
          have hF4 : FlIn _ (narF F n) (.slice ov vl cv) (.slice os sl cs) := FlIn.mk ((((HF3.out.v.alloc (Obj.cells #[.int .i64 a1, .int .i64 a2] 41)).alloc (Obj.cells #[.int .i64 b1, .int .i64 b2] 41)).alloc (Obj.cells #[.slice ov vl cv, .int .i64 F.f.lv, .int .i64 F.f.er, .int .i64 n, .int .i64 n, .slice os sl cs] 30))) ((((HF3.out.s.alloc (Obj.cells #[.int .i64 a1, .int .i64 a2] 41)).alloc (Obj.cells #[.int .i64 b1, .int .i64 b2] 41)).alloc (Obj.cells #[.slice ov vl cv, .int .i64 F.f.lv, .int .i64 F.f.er, .int .i64 n, .int .i64 n, .slice os sl cs] 30)))
          have hR1 := ((Bk.new w3 41 [.int .i64 a1, .int .i64 a2]).alloc (Obj.cells #[.int .i64 b1, .int .i64 b2] 41)).alloc (Obj.cells #[.slice ov vl cv, .int .i64 F.f.lv, .int .i64 F.f.er, .int .i64 n, .int .i64 n, .slice os sl cs] 30)
          have hR2 := (Bk.new1 w3 (Obj.cells #[.int .i64 a1, .int .i64 a2] 41) 41 [.int .i64 b1, .int .i64 b2]).alloc (Obj.cells #[.slice ov vl cv, .int .i64 F.f.lv, .int .i64 F.f.er, .int .i64 n, .int .i64 n, .slice os sl cs] 30)
          have HR1 := Lib.hid hR1
          have HR2 := Lib.hid hR2
          obtain ⟨b, hbb⟩ : ∃ b, canI (narF F n) (allL F) = b := ⟨_, rfl⟩
          refine (Possible_c (narF F n) _ _ b _ hF4 HGO.out (by rw [HALL.out]; exact hbb)).mono ?_
          rintro e w4 ⟨rfl, hb⟩
          have HB4 := Lib.hid (HB3.out.trans ((bafter (bafter (bafter hb))).mono HB3.out.size))
          have S1 := HR1.out.below hb
          have S2 := HR2.out.below hb
          have r1 := S1.cell 0
          have r2 := S1.cell 1
          have r3 := S2.cell 0
          have r4 := S2.cell 1
          simp only [List.getElem?_cons_zero, List.getElem?_cons_succ] at r1 r2 r3 r4
          have hkey := HKEY.out
          rw [hbb] at hkey
          have HP1 := Lib.hid hp1
          have HP2 := Lib.hid hp2
          have o1 : -9223372036854775808 ≤ n * a2 := by rw [hp1]; omega
          have o2 : n * a2 ≤ 9223372036854775807 := by rw [hp1]; omega
          have o3 : -9223372036854775808 ≤ n * b2 := by rw [hp2]; omega
          have o4 : n * b2 ≤ 9223372036854775807 := by rw [hp2]; omega
          rw [← hp1, ← hp2] at hkey
          clear hb hF4 HF3 BP3 HB3 y0 y1 y2 y3 y4 y5 yl hR1 hR2 HR1 HR2 S1 S2 hbb HKEY HALL hp1 hp2 m1 m2
          have HK := Lib.hid hkey
          clear hkey
          go_wp2_with fail
          all_goals
            go_ret
            refine ⟨ret_bool ?_, HB4.out⟩
            have hk := HK.out
            clear HK
            cases b <;> simp at hk ⊢ <;> omega
  · refine (Check_c F _ _ 30 w1 HF1.out (by unfold chkF; rw [if_neg hok])).mono ?_
    rintro e w2 ⟨rfl, hb⟩
    have HB2 := Lib.hid (bthen HB1.out hb)
    clear hb HF1 BP1 HB1
    go_wp2_with fail
    go_ret
    exact ⟨rfl, HB2.out⟩
theorem rdE_0 {F : Fl} {R : Bool} (ho : okFl F = true) (hR : R = true) (hc : canI F (allL F) = true) : rdE F R = 0 := by
  unfold rdE; rw [if_pos ho, if_pos hR, if_pos hc]
theorem rdE_31 {F : Fl} {R : Bool} (ho : okFl F = true) (hR : R = true) (hc : canI F (allL F) = false) : rdE F R = 31 := by
  unfold rdE; rw [if_pos ho, if_pos hR, if_neg (by rw [hc]; decide)]
theorem rdE_1 {F : Fl} {R : Bool} (ho : okFl F = true) (hR : R = false) : rdE F R = 1 := by
  unfold rdE; rw [if_pos ho, if_neg (by rw [hR]; decide)]
theorem inB_tt {n lo hi : Int} (a : lo ≤ n) (b : n ≤ hi) : inB n lo hi = true := by simp [inB, a, b]
theorem fun_un {F : Fl} (hc : canI F (allL F) = true) (x : Int) : (fun n => decide (0 < n) && unB F x n) = fun n => decide (0 < n) && unM F (allL F) x n := funext fun n => by rw [unB_eq hc]
theorem fun_ov {F : Fl} (hc : canI F (allL F) = true) (x : Int) : (fun n => ovB F x n) = fun n => ovM F (allL F) x n := funext fun n => ovB_eq hc x n
theorem fun_un2 {F : Fl} (hc : canI F (allL F) = true) (m : Int) : (fun n => decide (0 < n) && unB F n m) = fun n => decide (0 < n) && unM F (allL F) n m := funext fun n => by rw [unB_eq hc]
theorem fun_ov2 {F : Fl} (hc : canI F (allL F) = true) (m : Int) : (fun n => ovB F n m) = fun n => ovM F (allL F) n m := funext fun n => ovB_eq hc n m
theorem Reached_yes (F : Fl) (vv vs : Value) (x a b : Int) (w : World) (hF : FlIn w F vv vs) (ho : okFl F = true) (hc : canI F (allL F) = true) (x0 : 0 ≤ x) (xn : x ≤ hgt F.v) (ha : rcLo F (allL F) x = a) (hb : rcHi F (allL F) x = b) :
    Calls Tryz.prog 20 #[flV F vv vs, .int .i64 x] w fun e w' => e = .returned (.tuple #[.agg #[.int .i64 a, .int .i64 b], .int .i64 0]) ∧ Below w.heap.size w w' := by
  have h := Reached_any F vv vs x w hF
  unfold reV rcS at h
  rw [if_pos (rdE_0 ho (inB_tt x0 xn) hc), fun_un hc, fun_ov hc] at h
  subst ha hb
  exact h
theorem Reached_no (F : Fl) (vv vs : Value) (x c : Int) (w : World) (hF : FlIn w F vv vs) (hc : rdE F (inB x 0 (hgt F.v)) = c) (c0 : c ≠ 0) :
    Calls Tryz.prog 20 #[flV F vv vs, .int .i64 x] w fun e w' => e = .returned (.tuple #[raZ, .int .i64 c]) ∧ Below w.heap.size w w' := by
  have h := Reached_any F vv vs x w hF
  unfold reV at h
  rwa [hc, if_neg c0] at h
theorem Level_yes (F : Fl) (vv vs : Value) (m a b : Int) (w : World) (hF : FlIn w F vv vs) (ho : okFl F = true) (hc : canI F (allL F) = true) (m0 : 0 ≤ m) (mn : m ≤ 2097152) (ha : lvLo F (allL F) m = a) (hb : lvHi F (allL F) m = b) :
    Calls Tryz.prog 22 #[flV F vv vs, .int .i64 m] w fun e w' => e = .returned (.tuple #[.agg #[.int .i64 a, .int .i64 b], .int .i64 0]) ∧ Below w.heap.size w w' := by
  have h := Level_any F vv vs m w hF
  unfold leV lvS at h
  rw [if_pos (rdE_0 ho (inB_tt m0 mn) hc), fun_un2 hc, fun_ov2 hc] at h
  subst ha hb
  exact h
theorem Level_no (F : Fl) (vv vs : Value) (m c : Int) (w : World) (hF : FlIn w F vv vs) (hc : rdE F (inB m 0 2097152) = c) (c0 : c ≠ 0) :
    Calls Tryz.prog 22 #[flV F vv vs, .int .i64 m] w fun e w' => e = .returned (.tuple #[raZ, .int .i64 c]) ∧ Below w.heap.size w w' := by
  have h := Level_any F vv vs m w hF
  unfold leV at h
  rwa [hc, if_neg c0] at h
theorem asR_t {F : Fl} {x m : Int} (x0 : 0 ≤ x) (xn : x ≤ hgt F.v) (m0 : 0 ≤ m) (mn : m ≤ 2097152) : asR F x m = true := by unfold asR; rw [inB_tt x0 xn, inB_tt m0 mn]; rfl
theorem Surely_yes (F : Fl) (vv vs : Value) (x m : Int) (s : Bool) (w : World) (hF : FlIn w F vv vs) (ho : okFl F = true) (hc : canI F (allL F) = true) (x0 : 0 ≤ x) (xn : x ≤ hgt F.v) (m0 : 0 ≤ m) (mn : m ≤ 2097152) (hs : (!ovM F (allL F) x m) = s) :
    Calls Tryz.prog 28 #[flV F vv vs, .int .i64 x, .int .i64 m] w fun e w' => e = .returned (.tuple #[.bool s, .int .i64 0]) ∧ Below w.heap.size w w' := by
  have h := Surely_any F vv vs x m w hF
  unfold suV at h
  rw [if_pos (rdE_0 ho (asR_t x0 xn m0 mn) hc), ovB_eq hc, hs] at h
  exact h
theorem Ever_yes (F : Fl) (vv vs : Value) (x m : Int) (s : Bool) (w : World) (hF : FlIn w F vv vs) (ho : okFl F = true) (hc : canI F (allL F) = true) (x0 : 0 ≤ x) (xn : x ≤ hgt F.v) (m0 : 0 ≤ m) (mn : m ≤ 2097152) (hs : evM F (allL F) x m = s) :
    Calls Tryz.prog 30 #[flV F vv vs, .int .i64 x, .int .i64 m] w fun e w' => e = .returned (.tuple #[.bool s, .int .i64 0]) ∧ Below w.heap.size w w' := by
  have h := Ever_any F vv vs x m w hF
  unfold evV at h
  rw [if_pos (rdE_0 ho (asR_t x0 xn m0 mn) hc), evB_eq hc, hs] at h
  exact h
theorem allI_lt (F : Fl) : ∀ i ∈ allL F, i < (F.s.length : Int) := fun i hi => (allL_ok F i hi).2
end Go.Proofs.YtnfndiafabhhdaaGreat
/- How further arguments of the laws read: ratios, readings, lists, truths (Wear). -/
namespace Go.Proofs.YtnfndiafabhhdaaGreat
open Go.ChangeShapes Go.WideShapes Go.ChangeAt Go.RowKit Go.Deep
abbrev I64 (a : Int) : Prop := -9223372036854775808 ≤ a ∧ a ≤ 9223372036854775807
section
variable {H : Type} {enc : TypeId × Value → H} {W : World}
set_option maxRecDepth 200000 in
theorem two_open_bd {t : TypeId} {f0 f1 : Field} {n base : Nat} {sp : Nat → Bool} {hd : Bool} {cs : List Value} {x : DataW H × List MemPlace} (hs : Tryz.prog.underlying t = some (.struct #[f0, f1])) (hone : oneCellFields Tryz.prog #[f0, f1] = true) (hC : Tryz.prog.cellsOf t = 2)
    (t0 : Tryz.prog.underlying f0.type = some (.int .i64)) (t1 : Tryz.prog.underlying f1.type = some (.int .i64)) (h : DataW.trod enc Tryz.prog W base sp hd n t cs = some x) : ∃ a b, cs = [.int .i64 a, .int .i64 b] ∧ I64 a ∧ I64 b := by
  obtain ⟨y0, y1, m, _, hl, h0, h1⟩ := trod_struct2 hs h
  obtain ⟨o0, k0⟩ := hone_of hone 0 f0 rfl
  obtain ⟨o1, k1⟩ := hone_of hone 1 f1 rfl
  rw [hC] at hl
  obtain ⟨c0, c1, rfl⟩ := list2 hl
  · simp [o0, k0] at h0
    simp [o1, k1] at h1
    obtain ⟨a, ha, _, wa⟩ := DataW.trod_int t0 h0
    obtain ⟨b, hb, _, wb⟩ := DataW.trod_int t1 h1
    simp at ha hb
    exact ⟨a, b, by rw [ha, hb], wf_bd wa, wf_bd wb⟩
set_option maxRecDepth 200000 in
theorem ratio_open {base : Nat} {v : Value} {d : DataW H} {p : List MemPlace} (hv : Value.okWide Tryz.prog W .any base 41 v) (h : DataW.Trod enc Tryz.prog W 0 (fun _ => true) true 41 v d p) :
    ∃ a b, v = .agg #[.int .i64 a, .int .i64 b] ∧ I64 a ∧ I64 b := by
  obtain ⟨cs, rfl, hsz⟩ := okWide_struct Tryz.underlying41 hv
  obtain ⟨l⟩ := cs
  obtain ⟨fuel, hf⟩ := h
  obtain ⟨a, b, e, w1, w2⟩ := two_open_bd Tryz.underlying41 (by kernel_rfl) (by kernel_rfl) Tryz.underlying3 Tryz.underlying3 (show DataW.trod enc Tryz.prog W 0 (fun _ => true) true fuel 41 l = some (d, p) from hf)
  exact ⟨a, b, by rw [e], w1, w2⟩
structure SnI (S : Sn) : Prop where
  a : I64 S.lo
  b : I64 S.hi
  c : I64 S.k.lv
  d : I64 S.k.er
set_option maxRecDepth 200000 in
theorem seen_open {base : Nat} {v : Value} {d : DataW H} {p : List MemPlace} (hv : Value.okWide Tryz.prog W .any base 88 v) (h : DataW.Trod enc Tryz.prog W 0 (fun _ => true) true 88 v d p) :
    ∃ S : Sn, v = .agg #[.int .i64 S.lo, .int .i64 S.hi, .int .i64 S.k.lv, .int .i64 S.k.er] ∧ SnI S := by
  obtain ⟨cs, rfl, hsz⟩ := okWide_struct Tryz.underlying88 hv
  obtain ⟨l⟩ := cs
  rw [show Tryz.prog.cellsOf 88 = 4 by kernel_rfl] at hsz
  obtain ⟨c0, c1, c2, c3, rfl⟩ := list4 (show l.length = 4 from hsz)
  obtain ⟨fuel, hf⟩ := h
  have hf : DataW.trod enc Tryz.prog W 0 (fun _ => true) true fuel 88 [c0, c1, c2, c3] = some (d, p) := hf
  obtain ⟨y0, y1, m, _, hl, h0, h1⟩ := trod_struct2 Tryz.underlying88 hf
  have h0 : DataW.trod enc Tryz.prog W 0 (fun _ => true) true m 27 [c0, c1] = some y0 := by simpa [show Tryz.prog.cellsOf 27 = 2 by kernel_rfl] using h0
  have h1 : DataW.trod enc Tryz.prog W 0 (fun _ => true) true m 25 [c2, c3] = some y1 := by simpa [show Tryz.prog.cellsOf 25 = 2 by kernel_rfl] using h1
  obtain ⟨a, b, e1, w1, w2⟩ := two_open_bd Tryz.underlying27 (by kernel_rfl) (by kernel_rfl) Tryz.underlying3 Tryz.underlying3 h0
  obtain ⟨a', b', e2, w3, w4⟩ := two_open_bd Tryz.underlying25 (by kernel_rfl) (by kernel_rfl) Tryz.underlying3 Tryz.underlying3 h1
  simp at e1 e2
  exact ⟨⟨a, b, ⟨a', b'⟩⟩, by rw [e1.1, e1.2, e2.1, e2.2], w1, w2, w3, w4⟩
theorem ints_cap {n : Nat} {v : Value} {y : DataW H × List MemPlace} (h : DataW.trod enc Tryz.prog W 0 (fun _ => true) true n 51 [v] = some y) : ∃ o m c, v = .slice o m c ∧ m ≤ c := by
  rcases open_ints Tryz.underlying51 Tryz.underlying3 (by kernel_rfl) h with ⟨hcs, _⟩ | ⟨a, len, cap, zs, hcs, _, hl, _⟩
  · simp at hcs; subst hcs; exact ⟨_, _, _, rfl, Nat.le_refl _⟩
  · simp at hcs; subst hcs; exact ⟨_, _, _, rfl, hl⟩
set_option maxRecDepth 200000 in
theorem list_open {base : Nat} {v : Value} {d : DataW H} {p : List MemPlace} (_hv : Value.okWide Tryz.prog W .any base 51 v) (h : DataW.Trod enc Tryz.prog W 0 (fun _ => true) true 51 v d p) :
    ∃ l o m c, v = .slice o m c ∧ Ints W (.slice o m c) l ∧ m ≤ c := by
  obtain ⟨o, m, c, rfl⟩ := okWide_slice Tryz.underlying51 _hv
  obtain ⟨fuel, hf⟩ := h
  have hf : DataW.trod enc Tryz.prog W 0 (fun _ => true) true fuel 51 [.slice o m c] = some (d, p) := hf
  obtain ⟨l, hl⟩ := ints_of_trod hf
  obtain ⟨_, _, _, e, k⟩ := ints_cap hf
  cases e
  exact ⟨l, o, m, c, rfl, hl, k⟩
set_option maxRecDepth 200000 in
theorem truth_open {base : Nat} {v : Value} {d : DataW H} {p : List MemPlace} (hv : Value.okWide Tryz.prog W .any base 74 v) (h : DataW.Trod enc Tryz.prog W 0 (fun _ => true) true 74 v d p) :
    ∃ a b l o m c, v = .agg #[.int .i64 a, .int .i64 b, .slice o m c] ∧ (I64 a ∧ I64 b) ∧ Ints W (.slice o m c) l ∧ m ≤ c := by
  obtain ⟨cs, rfl, hsz⟩ := okWide_struct Tryz.underlying74 hv
  obtain ⟨l⟩ := cs
  rw [show Tryz.prog.cellsOf 74 = 3 by kernel_rfl] at hsz
  obtain ⟨c0, c1, c2, rfl⟩ := list3 (show l.length = 3 from hsz)
  obtain ⟨fuel, hf⟩ := h
  have hf : DataW.trod enc Tryz.prog W 0 (fun _ => true) true fuel 74 [c0, c1, c2] = some (d, p) := hf
  obtain ⟨y0, y1, y2, m, _, hl, h0, h1, h2⟩ := trod_struct3 Tryz.underlying74 hf
  have h0 : DataW.trod enc Tryz.prog W 0 (fun _ => true) true m 3 [c0] = some y0 := by simpa [show Tryz.prog.cellsOf 3 = 1 by kernel_rfl] using h0
  have h1 : DataW.trod enc Tryz.prog W 0 (fun _ => true) true m 3 [c1] = some y1 := by simpa [show Tryz.prog.cellsOf 3 = 1 by kernel_rfl] using h1
  have h2 : DataW.trod enc Tryz.prog W 0 (fun _ => true) true m 51 [c2] = some y2 := by simpa [show Tryz.prog.cellsOf 3 = 1 by kernel_rfl, show Tryz.prog.cellsOf 51 = 1 by kernel_rfl] using h2
  obtain ⟨a, ha, _, wa⟩ := DataW.trod_int Tryz.underlying3 h0
  obtain ⟨b, hb, _, wb⟩ := DataW.trod_int Tryz.underlying3 h1
  obtain ⟨l, hl⟩ := ints_of_trod h2
  obtain ⟨o, k, c, e, hk⟩ := ints_cap h2
  simp at ha hb
  subst e
  exact ⟨a, b, l, o, k, c, by rw [ha, hb], ⟨wf_bd wa, wf_bd wb⟩, hl, hk⟩
end
end Go.Proofs.YtnfndiafabhhdaaGreat
/- A further reading narrows, one less does not (Wear). Plain. -/
namespace Go.Proofs.YtnfndiafabhhdaaGreat
theorem fl_le {a b a' b' : Int} (a0 : 0 ≤ a) (b0 : 0 < b) (a0' : 0 ≤ a') (b0' : 0 < b') (h : a * b' ≤ a' * b) : a.tdiv b ≤ a'.tdiv b' := by
  rw [Int.tdiv_eq_ediv_of_nonneg a0, Int.tdiv_eq_ediv_of_nonneg a0', Int.le_ediv_iff_mul_le b0']
  have h1 := Int.ediv_mul_le a (b := b) (by omega)
  have h2 := Int.mul_le_mul_of_nonneg_right h1 (Int.le_of_lt b0')
  have h3 : a / b * b' * b ≤ a' * b := by
    have e : a / b * b' * b = a / b * b * b' := by ac_rfl
    omega
  exact Int.le_of_mul_le_mul_right h3 b0
theorem ce_le {a b a' b' : Int} (a0 : 0 < a) (b0 : 0 < b) (a0' : 0 < a') (b0' : 0 < b') (h : a' * b ≤ a * b') : (a' + b' - 1).tdiv b' ≤ (a + b - 1).tdiv b := by
  rw [Int.tdiv_eq_ediv_of_nonneg (by omega), Int.tdiv_eq_ediv_of_nonneg (by omega)]
  obtain ⟨q, hq⟩ : ∃ q, (a + b - 1) / b = q := ⟨_, rfl⟩
  have h1 : a + b - 1 < (q + 1) * b := by
    have := Int.lt_ediv_add_one_mul_self (a + b - 1) b0
    rwa [hq] at this
  rw [hq]
  have h2 : a ≤ q * b := by rw [Int.add_mul] at h1; omega
  have h3 : a' * b ≤ q * b' * b := by
    have := Int.mul_le_mul_of_nonneg_right h2 (Int.le_of_lt b0')
    have e : q * b' * b = q * b * b' := by ac_rfl
    omega
  have h4 := Int.le_of_mul_le_mul_right h3 b0
  have h5 : (a' + b' - 1) / b' < q + 1 := Int.ediv_lt_of_lt_mul b0' (by rw [Int.add_mul]; omega)
  omega
theorem low1_posw {n d : Int} (hn : 0 < n) (hd : 0 < d) : 0 < lowN1 n d := by
  obtain ⟨⟨l1, _⟩, l2, _⟩ := lowN_bd (Int.le_of_lt hn) hd
  have c := lowN_cross (Int.le_of_lt hn) hd
  have := Int.mul_pos hn l2
  rcases Int.lt_or_le 0 (lowN1 n d) with k | k
  · exact k
  · have := Int.mul_nonpos_of_nonpos_of_nonneg k (Int.le_of_lt hd)
    omega
section
variable {F F' : Fl}
abbrev wA (F : Fl) : Int := lowN1 (1000 * (solvedW F (allL F)).hi.d) (solvedW F (allL F)).hi.n
abbrev wB (F : Fl) : Int := lowN2 (1000 * (solvedW F (allL F)).hi.d) (solvedW F (allL F)).hi.n
abbrev wC (F : Fl) : Int := lowN1 (1000 * (solvedW F (allL F)).lo.d) (solvedW F (allL F)).lo.n
abbrev wD (F : Fl) : Int := lowN2 (1000 * (solvedW F (allL F)).lo.d) (solvedW F (allL F)).lo.n
theorem nar_wear (n : Nar F (allL F) F' (allL F')) (hc' : canI F' (allL F') = true) :
    (wA F).tdiv (wB F) ≤ (wA F').tdiv (wB F') ∧ (wC F' + wD F' - 1).tdiv (wD F') ≤ (wC F + wD F - 1).tdiv (wD F) := by
  have hc := n.can hc'
  obtain ⟨e1, e2⟩ := n.ends hc'
  have B := knR_B n.h
  rw [knR_eq hc] at B
  have B' := knR_B n.h'
  rw [knR_eq hc'] at B'
  have a0 := B.a0
  have b0 := B.b0
  have c0 := B.c0
  have d0 := B.d0
  have a0' := B'.a0
  have b0' := B'.b0
  have c0' := B'.c0
  have d0' := B'.d0
  have p1 := lowN_bd (n := 1000 * (solvedW F (allL F)).hi.d) (d := (solvedW F (allL F)).hi.n) (by omega) c0
  have p2 := lowN_bd (n := 1000 * (solvedW F' (allL F')).hi.d) (d := (solvedW F' (allL F')).hi.n) (by omega) c0'
  have p3 := lowN_bd (n := 1000 * (solvedW F (allL F)).lo.d) (d := (solvedW F (allL F)).lo.n) (by omega) a0
  have p4 := lowN_bd (n := 1000 * (solvedW F' (allL F')).lo.d) (d := (solvedW F' (allL F')).lo.n) (by omega) a0'
  have q3 := low1_posw (n := 1000 * (solvedW F (allL F)).lo.d) (d := (solvedW F (allL F)).lo.n) (by omega) a0
  have q4 := low1_posw (n := 1000 * (solvedW F' (allL F')).lo.d) (d := (solvedW F' (allL F')).lo.n) (by omega) a0'
  refine ⟨fl_le p1.1.1 p1.2.1 p2.1.1 p2.2.1 ?_, ce_le q3 p3.2.1 q4 p4.2.1 ?_⟩
  · rw [(low_le (n := 1000 * (solvedW F (allL F)).hi.d) (d := (solvedW F (allL F)).hi.n) (by omega) c0 p2.2.1).1, (low_le (n := 1000 * (solvedW F' (allL F')).hi.d) (d := (solvedW F' (allL F')).hi.n) (by omega) c0' c0).2]
    have e : ∀ x y : Int, 1000 * x * y = 1000 * (y * x) := fun x y => by rw [Int.mul_assoc, Int.mul_comm x]
    rw [e, e]
    omega
  · rw [(low_le (n := 1000 * (solvedW F' (allL F')).lo.d) (d := (solvedW F' (allL F')).lo.n) (by omega) a0' p3.2.1).1, (low_le (n := 1000 * (solvedW F (allL F)).lo.d) (d := (solvedW F (allL F)).lo.n) (by omega) a0 a0').2]
    have e : ∀ x y : Int, 1000 * x * y = 1000 * (y * x) := fun x y => by rw [Int.mul_assoc, Int.mul_comm x]
    rw [e, e]
    omega
theorem weE_can (ho : okFl F = true) (hc : canI F (allL F) = true) : weE F = .tuple #[.agg #[.int .i64 ((wA F).tdiv (wB F)), .int .i64 ((wC F + wD F - 1).tdiv (wD F))], .int .i64 0] := by
  unfold weE
  rw [if_pos (rdE_0 ho rfl hc), knR_eq hc]
theorem allL_I (F : Fl) : allL F = allI F := rfl
theorem nar_more (h : OkF F) {S : Sn} (h' : OkF (seenF F (F.s ++ [S]))) : Nar F (allL F) (seenF F (F.s ++ [S])) (allL (seenF F (F.s ++ [S]))) :=
  nar_seen h h' fun _ hx => List.mem_append_left _ hx
theorem okF_wo (h : OkF F) (i : Nat) : OkF (woF F i) :=
  okF_seen h (Nat.le_trans (List.length_eraseIdx_le _ _) h.n) fun x hx => h.s x (List.mem_of_mem_eraseIdx hx)
theorem can_wo (h : OkF F) (i : Nat) (hc : canI F (allL F) = true) : canI (woF F i) (allL (woF F i)) = true :=
  (nar_less h (okF_wo h i) fun _ hx => List.mem_of_mem_eraseIdx hx).can hc
theorem rdE_R {R : Bool} (ho : okFl F = true) (hc : canI F (allL F) = true) : rdE F R = if R = true then 0 else 1 := by
  cases R with
  | true => exact rdE_0 ho rfl hc
  | false => exact rdE_1 ho rfl
theorem re_mem {k : Nat} {n : Int} : n ∈ reL F k ↔ 0 ≤ n ∧ n < k ∧ reB F n.toNat = true := by
  unfold reL
  rw [List.mem_map]
  constructor
  · rintro ⟨i, hi, rfl⟩
    rw [List.mem_filter, List.mem_range] at hi
    exact ⟨by omega, by omega, by simpa using hi.2⟩
  · rintro ⟨h0, h1, h2⟩
    exact ⟨n.toNat, List.mem_filter.2 ⟨List.mem_range.2 (by omega), h2⟩, by omega⟩
end
end Go.Proofs.YtnfndiafabhhdaaGreat
/- Walk of the law's widest (Wear). -/
namespace Go.Proofs.YtnfndiafabhhdaaGreat
open Go.ChangeShapes Go.WideShapes Go.ChangeAt Go.RowKit
theorem sn_app (L : List Sn) (x : Sn) : cellsL (snF (L ++ [x])) 4 (L.length + 1) = cellsL (snF L) 4 L.length ++ [.int .i64 x.lo, .int .i64 x.hi, .int .i64 x.k.lv, .int .i64 x.k.er] := by
  rw [cellsL, cellsL_congr (g := snF L)]
  · have : snA (L ++ [x]) L.length = x := by simp [snA]
    simp [List.range_succ, snF, this]
  · intro i j hi _
    have : snA (L ++ [x]) i = snA L i := by simp [snA, List.getElem?_append_left hi]
    simp only [snF, this]
section
variable {F : Fl} {A : List Int} {x : Int}
theorem wid2 (h : x = -2) : widF F (A ++ [x]) = ⟨F.v, (widF F A).f, F.wlo, F.whi, (widF F A).s⟩ := by
  subst h
  simp [widF]
theorem wid1 (h : x = -1) : widF F (A ++ [x]) = ⟨F.v, F.f, (widF F A).wlo, (widF F A).whi, (widF F A).s⟩ := by
  subst h
  simp [widF]
theorem widS (h : 0 ≤ x) (h2 : x < F.s.length) : widF F (A ++ [x]) = ⟨F.v, (widF F A).f, (widF F A).wlo, (widF F A).whi, (widF F A).s ++ [sn F x]⟩ := by
  have e1 : ¬ (-1 : Int) = x := by omega
  have e2 : ¬ (-2 : Int) = x := by omega
  simp [widF, e1, e2, h, h2]
theorem widN (h1 : x ≠ -1) (h2 : x ≠ -2) (h3 : ¬ (0 ≤ x ∧ x < F.s.length)) : widF F (A ++ [x]) = widF F A := by
  have e1 : ¬ (-1 : Int) = x := by omega
  have e2 : ¬ (-2 : Int) = x := by omega
  have e3 : 0 ≤ x → ¬ x < F.s.length := fun a b => h3 ⟨a, b⟩
  simp [widF, e1, e2, List.filter_append]
  intro a
  exact Int.not_lt.1 (e3 a)
end
theorem take_it {l : List Int} {k : Nat} (hk : k < l.length) : l.take (k + 1) = l.take k ++ [l[k]?.getD 0] := by
  rw [List.take_add_one, List.getElem?_eq_getElem hk]
  rfl
theorem wid_len (F : Fl) (A : List Int) : (widF F A).s.length ≤ A.length := by
  simp only [widF, List.length_map]
  exact List.length_filter_le _ _
theorem step_stw {P : Program} {ops : Array Oper} {o : Oper} {a : Act} {w : World} {K : Act → World → Prop} {Q : Exit → Act → World → Prop} {X : Prop} (hgd : o.guard = none) {T : TypeId} {x y : Operand} (ho : o.op = .store T x y)
    {b : Nat} (hx : a.eval x = .pointer (some ⟨b, 0, none⟩)) {cs old : List Value} (hy : a.eval y = .agg cs.toArray) {T' : TypeId} (hg : Bk w b T' old) (hi : (P.info? T).map (·.size) = some cs.length)
    (hl : old.length = cs.length) (h1 : cs.all (·.oneCell') = true)
    (h : ∀ w', Bk w' b T' cs → Bes b w w' → K (a.put o.dst undef) w') : if Region.wanted o (yielded ops a.tmps) = true then Oper.wp P o a w K Q else X := by
  have hw : Region.wanted o (yielded ops a.tmps) = true := by simp [Region.wanted, hgd]
  rw [if_pos hw]
  exact wp_store_row T x y ho b cs.toArray hx hy T' old.toArray hg (by simpa using hi) (by simpa using hl) (by simpa using h1) (h _ (setRow_heap w b _ _ _ _ hg) (bes_setRow _))
set_option maxRecDepth 100000 in
set_option maxHeartbeats 4000000 in
theorem widest_any (F : Fl) (vv vs : Value) (l : List Int) (o : Option Addr) (m c : Nat) (w : World) (hF : FlIn w F vv vs) (hn : F.s.length ≤ 24) (hl : Ints w (.slice o m c) l) (hm : m ≤ 24) :
    Calls Tryz.prog 43 #[flV F vv vs, .int .i64 (hgt F.v), .slice o m c] w fun e w' => (∃ a b, e = .returned (flV (widF F l) vv (.slice a (widF F l).s.length b)) ∧ FlIn w' (widF F l) vv (.slice a (widF F l).s.length b)) ∧ Below w.heap.size w w' := by
  have hlen := hl.len
  obtain ⟨os, cs, rfl, ms⟩ := hF.s.parts
  obtain ⟨ov, cv, rfl, mv⟩ := hF.v.parts
  obtain ⟨ls, hls⟩ : ∃ n, F.s.length = n := ⟨_, rfl⟩
  obtain ⟨lv, hlv⟩ : ∃ n, F.v.length = n := ⟨_, rfl⟩
  have HSL := Lib.hid hls
  have HVL := Lib.hid hlv
  rw [hls] at hF hn ms ⊢
  rw [hlv] at hF mv ⊢
  have HF00 := Lib.hid hF
  have hF0 := (hF.alloc (flO F (.slice ov lv cv) (.slice os ls cs))).alloc (Obj.cells flZ.toArray 30)
  have hL0 := (hl.alloc (flO F (.slice ov lv cv) (.slice os ls cs))).alloc (Obj.cells flZ.toArray 30)
  have hB := (Bk.new w 30 (flL F (.slice ov lv cv) (.slice os ls cs))).alloc (Obj.cells flZ.toArray 30)
  have hZ := Bk.new1 w (flO F (.slice ov lv cv) (.slice os ls cs)) 30 flZ
  have hw0 : Below w.heap.size w ((w.alloc (flO F (.slice ov lv cv) (.slice os ls cs))).alloc (Obj.cells flZ.toArray 30)) := (ballo _ _).alloc (by simp) _
  obtain ⟨W, hW⟩ : ∃ W, (w.alloc (flO F (.slice ov lv cv) (.slice os ls cs))).alloc (Obj.cells flZ.toArray 30) = W := ⟨_, rfl⟩
  rw [hW] at hF0 hB hZ hw0 hL0
  have HF0 := Lib.hid hF0
  have HB := Lib.hid hB
  have HZ := Lib.hid hZ
  have HW0 := Lib.hid hw0
  have HL0 := Lib.hid hL0
  have c0 := hB.cell 0
  have cl := hB.lt
  simp only [flL, List.getElem?_cons_zero] at c0
  obtain ⟨H, hH⟩ : ∃ H, hgt F.v = H := ⟨_, rfl⟩
  have HH := Lib.hid hH
  rw [hH]
  clear hF0 hB hZ hw0 hL0 hF hl hls hlv hH
  go_enter Tryz.func43, Tryz.ntmps43
  go_upto_region 1 with fail
  try rw [hW]
  clear hW
  go_cut [7] from 10 to 15 (fun p wx => ∃ ob, p = .pointer (some ⟨ob, 0, none⟩) ∧ W.heap.size ≤ ob ∧ Hid (Bk wx ob 30 [.slice ov lv cv, .int .i64 H, .int .i64 1000, .int .i64 1, .int .i64 4000, .slice none 0 0]) ∧ Hid (Below W.heap.size W wx))
  case first =>
    refine WpK.begin (S := fun _ => True) (kp := fun _ => true) (f := 8) (up := #[false, false, false, false, false, false, false, false]) (by kernel_rfl) (by kernel_rfl) (by kernel_rfl) ?_
    refine WpK.take (i := 0) (v := ?_) ((toArray_at _ _).trans rfl) (by kernel_rfl) (by kernel_rfl) (by kernel_rfl) (by kernel_rfl) (by kernel_rfl) (fun _ _ _ h => h) (Or.inl ⟨by rfl, ?_⟩) trivial ?_
    rotate_left
    · (intro x hx; go_simp <;> with_reducible rfl)
    simp only [Act.put, puts]
    refine WpK.take (i := 2) (v := ?_) ((toArray_at _ _).trans rfl) (by kernel_rfl) (by kernel_rfl) (by kernel_rfl) (by kernel_rfl) (by kernel_rfl) (fun _ _ _ h => h) (Or.inl ⟨by rfl, ?_⟩) trivial ?_
    rotate_left
    · (intro x hx; go_simp <;> with_reducible rfl)
    simp only [Act.put, puts]
    refine WpK.take (i := 4) (v := ?_) ((toArray_at _ _).trans rfl) (by kernel_rfl) (by kernel_rfl) (by kernel_rfl) (by kernel_rfl) (by kernel_rfl) (fun _ _ _ h => h) (Or.inl ⟨by rfl, ?_⟩) trivial ?_
    rotate_left
    · (intro x hx; go_simp <;> with_reducible rfl)
    simp only [Act.put, puts]
    refine WpK.weaken (S := fun x => Below W.heap.size W x) (kp := (fun i => decide (i < 7))) (fun _ => trivial) _ ?_
    have hS0 := (show Below W.heap.size W W.drew from (Below.refl _ _).drew)
    refine WpK.take (i := 1) (v := ?_) ((toArray_at _ _).trans rfl) (by kernel_rfl) (by kernel_rfl) (by kernel_rfl) (by kernel_rfl) (by kernel_rfl) (fun _ _ _ h => h) (Or.inl ⟨by rfl, ?_⟩) hS0 ?_
    rotate_left
    · (intro x hx; obtain ⟨hcx, hfx⟩ := bcell hx; go_simp <;> with_reducible rfl)
    try simp only [Act.put, puts]
    clear hS0 c0
    refine WpK.two (i := 3) (k := 6) (by kernel_rfl) ((toArray_at _ _).trans rfl) ((toArray_at _ _).trans rfl) ?_ ?_
    all_goals
      intro K hK
      have HK := Lib.hid hK
      clear hK
    · go_simp
      refine (look_any H 1000 _).mono ?_
      rintro e W2 ⟨rfl, hb2⟩
      have hW2 : Below W.heap.size W W2 := Below.trans (Below.drew (Below.refl _ _)) hb2
      refine HK.out _ _ (fun _ => hW2) (fun _ => ?_)
      clear HK K
      try simp only [puts]
      have hS0 := hW2
      refine WpK.take (i := 5) (v := ?_) ((toArray_at _ _).trans rfl) (by kernel_rfl) (by kernel_rfl) (by kernel_rfl) (by kernel_rfl) (by kernel_rfl) (fun _ _ _ h => h) (Or.inl ⟨by rfl, ?_⟩) hS0 ?_
      rotate_left
      · (intro x hx; clear hx; go_simp <;> with_reducible rfl)
      try simp only [Act.put, puts]
      clear hS0
      refine WpK.one (i := 6) (by kernel_rfl) ((toArray_at _ _).trans rfl) ?_
      intro K hK
      have HK := Lib.hid hK
      clear hK
      go_simp
      have hX : Below W.heap.size W (W2.alloc (Obj.cells flZ.toArray 30)) := hW2.alloc hW2.size _
      refine HK.out _ _ (fun _ => hX) (fun _ => ?_)
      clear HK K
      try simp only [puts]
      refine WpK.one (i := 7) (by kernel_rfl) ((toArray_at _ _).trans rfl) ?_
      intro K hK
      have HK := Lib.hid hK
      clear hK
      refine step_stw rfl rfl rfl (cs := [.slice ov lv cv, .int .i64 H, .int .i64 1000, .int .i64 1, .int .i64 4000, .slice none 0 0]) rfl (Bk.new W2 _ flZ) (by kernel_rfl) rfl rfl ?_
      intro WX hkk hsk
      have hWX := bes_then hX hsk hW2.size hX.size
      refine HK.out _ _ (fun h => absurd h (by decide)) (fun _ => ?_)
      clear HK K
      try simp only [puts]
      refine WpK.done (by kernel_rfl) ?_
      have HKK := Lib.hid hkk
      have HWX := Lib.hid hWX
      go_wp2_with fail
      go_meet
      case rel => exact ⟨_, rfl, hW2.size, HKK, HWX⟩
    · go_simp
      have hX1 : Below W.heap.size W (W.drew.alloc (Obj.cells flZ.toArray 30)) := (Below.drew (Below.refl _ _)).alloc (Nat.le_refl _) _
      refine HK.out _ _ (fun _ => hX1) (fun _ => ?_)
      clear HK K
      try simp only [puts]
      refine WpK.one (i := 3) (by kernel_rfl) ((toArray_at _ _).trans rfl) ?_
      intro K hK
      have HK := Lib.hid hK
      clear hK
      go_simp
      refine (look_any H 1000 _).mono ?_
      rintro e W2 ⟨rfl, hb2⟩
      have hX : Below W.heap.size W W2 := hX1.trans (hb2.mono hX1.size)
      refine HK.out _ _ (fun _ => hX) (fun _ => ?_)
      clear HK K
      try simp only [puts]
      refine WpK.one (i := 5) (by kernel_rfl) ((toArray_at _ _).trans rfl) ?_
      intro K hK
      have HK := Lib.hid hK
      clear hK
      go_simp
      refine HK.out _ _ (fun _ => hX) (fun _ => ?_)
      clear HK K
      try simp only [puts]
      refine WpK.one (i := 7) (by kernel_rfl) ((toArray_at _ _).trans rfl) ?_
      intro K hK
      have HK := Lib.hid hK
      clear hK
      refine step_stw rfl rfl rfl (cs := [.slice ov lv cv, .int .i64 H, .int .i64 1000, .int .i64 1, .int .i64 4000, .slice none 0 0]) rfl ((Bk.new W.drew _ flZ).below hb2) (by kernel_rfl) rfl rfl ?_
      intro WX hkk hsk
      have hWX := bes_then hX hsk (Nat.le_refl _) hX.size
      refine HK.out _ _ (fun h => absurd h (by decide)) (fun _ => ?_)
      clear HK K
      try simp only [puts]
      refine WpK.done (by kernel_rfl) ?_
      have HKK := Lib.hid hkk
      have HWX := Lib.hid hWX
      go_wp2_with fail
      go_meet
      case rel => exact ⟨_, rfl, (Nat.le_refl _), HKK, HWX⟩
  case rest =>
    rename World => w1
    obtain ⟨ob, rfl, hob, HO1, H01⟩ := hcut
    clear c0
    go_wp2_with fail
    go_loopw [18] (fun t wr => ∃ (k : Nat) (v : Value), k ≤ m ∧ t = .int .i64 (k : Int) ∧ Hid (wr.ownsRow (ob + 1) 88 4 v (widF F (l.take k)).s.length (cellsL (snF (widF F (l.take k)).s) 4 (widF F (l.take k)).s.length)) ∧ Hid (Bk wr ob 30 [.slice ov lv cv, .int .i64 (widF F (l.take k)).f.lv, .int .i64 (widF F (l.take k)).f.er, .int .i64 (widF F (l.take k)).wlo, .int .i64 (widF F (l.take k)).whi, v]) ∧ Hid (Below W.heap.size W wr)) (fun t _ => m - (intOf t).toNat)
    case atStart =>
      refine ⟨0, .slice none 0 0, Nat.zero_le _, rfl, Lib.hid (World.ownsRow_nil _ _ _ _), Lib.hid ?_, H01⟩
      have e : widF F (l.take 0) = ⟨F.v, ⟨H, 1000⟩, 1, 4000, []⟩ := by rw [← HH.out]; simp [widF]
      rw [e]
      exact HO1.out
    case round =>
      obtain ⟨k, v, hk, rfl, hOw, hBk, hBl⟩ := hrel
      have hF := HB.out.below hBl.out
      have c1 := hF.cell 1
      have c2 := hF.cell 2
      have c3 := hF.cell 3
      have c4 := hF.cell 4
      have c5 := hF.cell 5
      have cl := hF.lt
      simp only [flL, List.getElem?_cons_zero, List.getElem?_cons_succ] at c1 c2 c3 c4 c5
      have hq1 := hBk.out.cell 1
      have hq2 := hBk.out.cell 2
      have hq3 := hBk.out.cell 3
      have hq4 := hBk.out.cell 4
      have hq5 := hBk.out.cell 5
      have hr1 := hBk.out.frozen 1
      have hr2 := hBk.out.frozen 2
      have hr3 := hBk.out.frozen 3
      have hr4 := hBk.out.frozen 4
      have hql := hBk.out.lt
      simp only [List.getElem?_cons_zero, List.getElem?_cons_succ] at hq1 hq2 hq3 hq4 hq5
      have hneb : ob ≠ w.heap.size := by have := HB.out.lt; omega
      clear hF
      by_cases hkm : k < m
      · have hst := take_it (l := l) (k := k) (by omega)
        obtain ⟨p, off, rfl, hp, hcs⟩ := (HL0.out.below hBl.out).cells (by omega)
        have d0 := hcs k hkm
        obtain ⟨x, hx⟩ : ∃ x, l[k]?.getD 0 = x := ⟨_, rfl⟩
        rw [hx] at d0 hst
        have hwl := wid_len F (l.take k)
        rw [List.length_take] at hwl
        have hsp1 := fun h => wid1 (F := F) (A := l.take k) (x := x) h
        have hsp2 := fun h => wid2 (F := F) (A := l.take k) (x := x) h
        have hsp3 := fun h1 h2 => widS (F := F) (A := l.take k) (x := x) h1 h2
        have hsp4 := fun h1 h2 h3 => widN (F := F) (A := l.take k) (x := x) h1 h2 h3
        rw [← hst] at hsp1 hsp2 hsp3 hsp4
        obtain ⟨G, hG⟩ : ∃ G, widF F (l.take k) = G := ⟨_, rfl⟩
        rw [hG] at hsp1 hsp2 hsp3 hsp4 hOw hBk hq1 hq2 hq3 hq4 hwl
        have HWL := Lib.hid hwl
        clear hG hst hcs hx hwl
        by_cases h2 : x = -2
        · have HST := Lib.hid (hsp2 h2)
          subst h2
          clear hsp1 hsp2 hsp3 hsp4
          go_wp2_with fail
          refine ⟨⟨k + 1, v, by omega, by go_num, ?_, ?_, Lib.hid ((hBl.out.setCell hob _).setCell hob _)⟩, by simp [intOf]; omega⟩
          · rw [HST.out]
            exact Lib.hid (OwnR.setCell (OwnR.setCell (show OwnR wr (ob + 1) 88 4 v G.s.length (snF G.s) from hOw.out) (Nat.lt_succ_self _) _) (Nat.lt_succ_self _) _)
          · rw [HST.out]
            exact Lib.hid ((hBk.out.set 3 _).set 4 _)
        · have hne2 : (x == -2) = false := by simpa using h2
          by_cases h1 : x = -1
          · have HST := Lib.hid (hsp1 h1)
            subst h1
            clear hsp1 hsp2 hsp3 hsp4
            go_wp2_with fail
            refine ⟨⟨k + 1, v, by omega, by go_num, ?_, ?_, Lib.hid ((hBl.out.setCell hob _).setCell hob _)⟩, by simp [intOf]; omega⟩
            · rw [HST.out]
              exact Lib.hid (OwnR.setCell (OwnR.setCell (show OwnR wr (ob + 1) 88 4 v G.s.length (snF G.s) from hOw.out) (Nat.lt_succ_self _) _) (Nat.lt_succ_self _) _)
            · rw [HST.out]
              exact Lib.hid ((hBk.out.set 1 _).set 2 _)
          · have hne1 : (x == -1) = false := by simpa using h1
            by_cases h3 : 0 ≤ x ∧ x < F.s.length
            · have HST := Lib.hid (hsp3 h3.1 h3.2)
              rw [HSL.out] at h3
              obtain ⟨h30, h31⟩ := h3
              clear hsp1 hsp2 hsp3 hsp4
              obtain ⟨ix, rfl⟩ : ∃ k : Nat, x = (k : Int) := ⟨x.toNat, by omega⟩
              have hFr := HF0.out.s.below hBl.out
              obtain ⟨bs, fs, rfl, hbs, hcs⟩ := hFr.cells (by rw [HSL.out]; omega)
              have e0 := hcs ix 0 (by rw [HSL.out]; omega) (by omega)
              have e1 := hcs ix 1 (by rw [HSL.out]; omega) (by omega)
              have e2 := hcs ix 2 (by rw [HSL.out]; omega) (by omega)
              have e3 := hcs ix 3 (by rw [HSL.out]; omega) (by omega)
              simp only [snF, Nat.add_zero] at e0 e1 e2 e3
              have hsx : sn F (ix : Int) = snA F.s ix := by simp [sn, snA]
              rw [hsx] at HST
              obtain ⟨y, hxx⟩ : ∃ y, snA F.s ix = y := ⟨_, rfl⟩
              rw [hxx] at e0 e1 e2 e3 HST
              clear hcs hxx hFr hsx hq1 hq2 hq3 hq4 hr1 hr2 hr3 hr4 c1 c2 c3 c4
              obtain ⟨xa, xb, xc, xd⟩ := y
              simp only at e0 e1 e2 e3
              go_wp2_with fail
              refine WpK.begin (S := fun _ => True) (kp := fun _ => true) (f := 11) (up := #[false, false, false, false, false, false, false, false, false, false, false]) (by kernel_rfl) (by kernel_rfl) (by kernel_rfl) ?_
              refine WpK.take (i := 0) (v := ?_) ((toArray_at _ _).trans rfl) (by kernel_rfl) (by kernel_rfl) (by kernel_rfl) (by kernel_rfl) (by kernel_rfl) (fun _ _ _ h => h) (Or.inl ⟨by rfl, ?_⟩) trivial ?_
              rotate_left
              · (intro x hx; go_simp <;> with_reducible rfl)
              simp only [Act.put, puts]
              refine WpK.take (i := 2) (v := ?_) ((toArray_at _ _).trans rfl) (by kernel_rfl) (by kernel_rfl) (by kernel_rfl) (by kernel_rfl) (by kernel_rfl) (fun _ _ _ h => h) (Or.inl ⟨by rfl, ?_⟩) trivial ?_
              rotate_left
              · (intro x hx; go_simp <;> with_reducible rfl)
              simp only [Act.put, puts]
              refine WpK.take (i := 4) (v := ?_) ((toArray_at _ _).trans rfl) (by kernel_rfl) (by kernel_rfl) (by kernel_rfl) (by kernel_rfl) (by kernel_rfl) (fun _ _ _ h => h) (Or.inl ⟨by rfl, ?_⟩) trivial ?_
              rotate_left
              · (intro x hx; go_simp <;> with_reducible rfl)
              simp only [Act.put, puts]
              refine WpK.weaken (S := fun y => Below wr.heap.size wr y) (kp := (fun i => decide (i < 8))) (fun _ => trivial) _ ?_
              have hS0 := (show Below wr.heap.size wr wr.drew from (Below.refl _ _).drew)
              refine WpK.take (i := 1) (v := ?_) ((toArray_at _ _).trans rfl) (by kernel_rfl) (by kernel_rfl) (by kernel_rfl) (by kernel_rfl) (by kernel_rfl) (fun _ _ _ h => h) (Or.inl ⟨by rfl, ?_⟩) hS0 ?_
              rotate_left
              · (intro x hx; obtain ⟨hcx, hfx⟩ := bcell hx; go_simp <;> with_reducible rfl)
              try simp only [Act.put, puts]
              refine WpK.take (i := 3) (v := ?_) ((toArray_at _ _).trans rfl) (by kernel_rfl) (by kernel_rfl) (by kernel_rfl) (by kernel_rfl) (by kernel_rfl) (fun _ _ _ h => h) (Or.inl ⟨by rfl, ?_⟩) hS0 ?_
              rotate_left
              · (intro x hx; obtain ⟨hcx, hfx⟩ := bcell hx; go_simp <;> with_reducible rfl)
              try simp only [Act.put, puts]
              refine WpK.take (i := 5) (v := ?_) ((toArray_at _ _).trans rfl) (by kernel_rfl) (by kernel_rfl) (by kernel_rfl) (by kernel_rfl) (by kernel_rfl) (fun _ _ _ h => h) (Or.inl ⟨by rfl, ?_⟩) hS0 ?_
              rotate_left
              · (intro x hx; obtain ⟨hcx, hfx⟩ := bcell hx; go_simp <;> with_reducible rfl)
              try simp only [Act.put, puts]
              refine WpK.take (i := 6) (v := ?_) ((toArray_at _ _).trans rfl) (by kernel_rfl) (by kernel_rfl) (by kernel_rfl) (by kernel_rfl) (by kernel_rfl) (fun _ _ _ h => h) (Or.inl ⟨by rfl, ?_⟩) hS0 ?_
              rotate_left
              · (intro x hx; obtain ⟨hcx, hfx⟩ := bcell hx; go_simp <;> with_reducible rfl)
              try simp only [Act.put, puts]
              clear hS0
              have hszr := hBl.out.size
              refine WpK.one (i := 7) (by kernel_rfl) ((toArray_at _ _).trans rfl) ?_
              intro K hK
              have HK := Lib.hid hK
              clear hK
              go_simp
              refine HK.out _ _ (fun _ => (Below.drew (Below.refl _ _)).alloc (Nat.le_refl _) _) (fun _ => ?_)
              clear HK K
              try simp only [puts]
              refine WpK.one (i := 8) (by kernel_rfl) ((toArray_at _ _).trans rfl) ?_
              intro K hK
              have HK := Lib.hid hK
              clear hK
              refine step_own Tryz.underlying28 seen_el (by decide) (by decide) rfl (.tmp 45) (.tmp 51) rfl (ob + 1) v G.s.length (cellsL (snF G.s) 4 G.s.length) rfl (owns_below hOw.out ((Below.drew (Below.refl _ _)).alloc (Nat.le_refl _) _)) ⟨wr.drew.heap.size, 0, none⟩ _ [.int .i64 xa, .int .i64 xb, .int .i64 xc, .int .i64 xd] rfl rfl (news_bk (Bk.new _ _ [_, _, _, _])) ?_ ?_ ?_ ?_
              · intro u hu; simp at hu; rcases hu with rfl | rfl | rfl | rfl <;> rfl
              · have := HWL.out; omega
              · simp; omega
              intro g2 c2 q hO4 hP4 hG4 hN4
              have hw4 : Below (ob + 1) wr q := ((Below.drew (Below.refl _ _)).alloc (by simp; omega) _).trans hP4
              have hK4 := (hw4.block ob (Nat.lt_succ_self _)).trans hBk.out
              have hK4 : Bk q ob 30 _ := hK4
              refine HK.out _ _ (fun h => absurd h (by decide)) (fun _ => ?_)
              clear HK K
              try simp only [puts]
              have cq := hK4.cell 5
              have fq := hK4.frozen 5
              have lq := hK4.lt
              simp only [List.getElem?_cons_zero, List.getElem?_cons_succ] at cq
              refine WpK.one (i := 9) (by kernel_rfl) ((toArray_at _ _).trans rfl) ?_
              intro K hK
              have HK := Lib.hid hK
              clear hK
              go_simp
              refine HK.out _ _ (fun h => absurd h (by decide)) (fun _ => ?_)
              clear HK K
              try simp only [puts]
              refine WpK.one (i := 10) (by kernel_rfl) ((toArray_at _ _).trans rfl) ?_
              intro K hK
              have HK := Lib.hid hK
              clear hK
              go_simp
              refine HK.out _ _ (fun h => absurd h (by decide)) (fun _ => ?_)
              clear HK K
              try simp only [puts]
              refine WpK.done (by kernel_rfl) ?_
              have hK5 := hK4.set 5 (.slice (some ⟨g2, 0, none⟩) (G.s.length + 1) c2)
              simp only [List.set_cons_zero, List.set_cons_succ] at hK5
              have hB5 := (hBl.out.trans (hw4.mono (by omega))).setCell (p := ⟨ob, 5, none⟩) hob (.slice (some ⟨g2, 0, none⟩) (G.s.length + 1) c2)
              have hO5 := OwnR.setCell (f := snF (G.s ++ [⟨xa, xb, ⟨xc, xd⟩⟩])) (b := ob) (j := 5) (n := G.s.length + 1) (k := 4) (by unfold OwnR; rw [sn_app]; exact hO4) (Nat.lt_succ_self _) (.slice (some ⟨g2, 0, none⟩) (G.s.length + 1) c2)
              unfold OwnR at hO5
              clear cq fq lq hK4 hw4 hO4 hP4 hG4 hN4
              go_wp2_with fail
              refine ⟨⟨k + 1, .slice (some ⟨g2, 0, none⟩) (G.s.length + 1) c2, by omega, by go_num, ?_, ?_, Lib.hid hB5⟩, by simp [intOf]; omega⟩
              · rw [HST.out, List.length_append]
                exact Lib.hid hO5
              · rw [HST.out]
                exact Lib.hid hK5
            · have HST := Lib.hid (hsp4 h1 h2 h3)
              rw [HSL.out] at h3
              clear hsp1 hsp2 hsp3 hsp4
              by_cases h30 : x < 0
              · clear h3
                go_wp2_with fail
                refine ⟨⟨k + 1, v, by omega, by go_num, ?_, ?_, hBl⟩, by simp [intOf]; omega⟩
                · rw [HST.out]; exact hOw
                · rw [HST.out]; exact hBk
              · have h31 : (ls : Int) ≤ x := by omega
                clear h3
                go_wp2_with fail
                refine ⟨⟨k + 1, v, by omega, by go_num, ?_, ?_, hBl⟩, by simp [intOf]; omega⟩
                · rw [HST.out]; exact hOw
                · rw [HST.out]; exact hBk
      · obtain rfl : k = m := by omega
        have hfull : l.take k = l := by rw [List.take_of_length_le]; omega
        rw [hfull] at hOw hBk
        obtain ⟨G, hG⟩ : ∃ G, widF F l = G := ⟨_, rfl⟩
        have hGv : G.v = F.v := by rw [← hG]; rfl
        rw [hG] at hOw hBk
        have HG := Lib.hid hG
        have hrw : Row wr v 4 G.s.length (snF G.s) := OwnR.row (show OwnR wr (ob + 1) 88 4 v _ (snF G.s) from hOw.out)
        obtain ⟨x4, n4, rfl, _⟩ := hrw.parts
        have hZr := HZ.out.below hBl.out
        have HZr := Lib.hid hZr
        have HWr := Lib.hid (HW0.out.trans (hBl.out.mono HW0.out.size))
        have HGV := Lib.hid hGv
        have hbl := HZ.out.lt
        clear hfull hZr hrw hG hGv c1 c2 c3 c4 c5 hq1 hq2 hq3 hq4 hq5 hr1 hr2 hr3 hr4
        go_wp2_with (first | (refine ld_at rfl (T := 30) rfl rfl hBk.out Tryz.underlying30 rfl (by kernel_rfl) ?_) | (refine st_at rfl (T := 30) rfl rfl (cs := [.slice ov lv cv, .int .i64 G.f.lv, .int .i64 G.f.er, .int .i64 G.wlo, .int .i64 G.whi, .slice x4 G.s.length n4]) rfl HZr.out (by kernel_rfl) rfl rfl ?_; intro wk hkk hsk) | fail)
        refine bodyPost_ret (v := flV G (.slice ov lv cv) (.slice x4 G.s.length n4)) (results_cell_row rfl _ _ (w.heap.size + 1) _ _ (0, 0) _ rfl hkk Tryz.underlying30 rfl (by kernel_rfl)) rfl ?_
        have hv1 := HF00.out.v.below (bes_then HWr.out hsk (by omega) HWr.out.size)
        have hs1 : Row wk (.slice x4 G.s.length n4) 4 G.s.length (snF G.s) := OwnR.row (show OwnR wk (ob + 1) 88 4 _ _ (snF G.s) from owns_bes hOw.out hsk (by omega))
        rw [← HGV.out] at hv1
        have hgo := HG.out
        subst hgo
        exact ⟨⟨x4, n4, rfl, hv1, hs1⟩, bes_then HWr.out hsk (by omega) HWr.out.size⟩
set_option maxHeartbeats 1000000 in
theorem index_any (v : Value) (l : List Int) (x : Int) (w : World) (hl : Ints w v l) : Calls Tryz.prog 133 #[v, .int .i64 x] w fun e w' => (∃ r : Int, e = .returned (.int .i64 r) ∧ (0 ≤ r ↔ x ∈ l)) ∧ Below w.heap.size w w' := by
  obtain ⟨o, n, c, rfl, hn, hm⟩ := hl.parts
  have hln := hn.out
  have HL := Lib.hid hl
  clear hl hn
  go_enter Tryz.func133, Tryz.ntmps133
  go_wp2_with fail
  go_loopw [8] (fun i wr => ∃ k : Nat, k ≤ n ∧ i = .int .i64 (k : Int) ∧ wr = w ∧ Hid (∀ j, j < k → l[j]?.getD 0 ≠ x)) (fun i _ => n - (intOf i).toNat)
  case atStart => exact ⟨0, Nat.zero_le _, rfl, rfl, Lib.hid (fun j hj => by omega)⟩
  case round =>
    obtain ⟨k, hk, rfl, rfl, hno⟩ := hrel
    by_cases hkn : k < n
    · obtain ⟨p, off, rfl, hp, hcs⟩ := HL.out.cells (by omega)
      have d0 := hcs k hkn
      obtain ⟨y, hy⟩ : ∃ y, l[k]?.getD 0 = y := ⟨_, rfl⟩
      rw [hy] at d0
      have HY := Lib.hid hy
      clear hcs hy
      by_cases hxy : x = y
      · subst hxy
        go_wp2_with fail
        go_ret
        refine ⟨⟨k, rfl, ?_⟩, Below.refl _ _⟩
        have hk2 : k < l.length := by omega
        have : l[k] = x := by have := HY.out; rwa [List.getElem?_eq_getElem hk2, Option.getD_some] at this
        exact ⟨fun _ => this ▸ List.getElem_mem hk2, fun _ => by omega⟩
      · have hne : (x == y) = false := by simpa using hxy
        have HNO := Lib.hid hno.out
        have HXY := Lib.hid hxy
        clear hno hxy
        go_wp2_with fail
        refine ⟨⟨k + 1, by omega, by go_num, by first | rfl | trivial, Lib.hid fun j hj => ?_⟩, by simp [intOf]; omega⟩
        rcases Nat.lt_or_ge j k with q | q
        · exact HNO.out j q
        · obtain rfl : j = k := by omega
          rw [HY.out]
          exact fun h => HXY.out h.symm
    · obtain rfl : k = n := by omega
      go_wp2_with fail
      go_ret
      refine ⟨⟨-1, rfl, ?_⟩, Below.refl _ _⟩
      constructor
      · intro h; omega
      · intro h
        obtain ⟨j, hj, e⟩ := List.getElem_of_mem h
        exact absurd (by rw [List.getElem?_eq_getElem hj, Option.getD_some]; exact e) (hno.out j (by omega))
theorem contains_any (v : Value) (l : List Int) (x : Int) (b : Bool) (w : World) (hl : Ints w v l) (hb : b = true ↔ x ∈ l) : Calls Tryz.prog 66 #[v, .int .i64 x] w fun e w' => e = .returned (.bool b) ∧ Below w.heap.size w w' := by
  have HI := Lib.hid (index_any v l x w hl)
  obtain ⟨o, n, c, rfl, _, _⟩ := hl.parts
  clear hl
  go_enter Tryz.func66, Tryz.ntmps66
  go_wp2_with fail
  refine HI.out.mono ?_
  rintro e w1 ⟨⟨r, rfl, hr⟩, hbw⟩
  have HR := Lib.hid hr
  clear hr
  go_wp2_with fail
  go_ret
  exact ⟨ret_bool (by rw [Bool.eq_iff_iff, hb, ← HR.out]; simp), hbw⟩
theorem inside_any (a b c d : Int) (w : World) : Calls Tryz.prog 65 #[.agg #[.int .i64 a, .int .i64 b], .agg #[.int .i64 c, .int .i64 d]] w fun e w' => e = .returned (.bool (decide (c ≤ a) && decide (b ≤ d))) ∧ Below w.heap.size w w' := by
  go_enter Tryz.func65, Tryz.ntmps65
  go_wp2
  all_goals
    go_ret
    exact ⟨ret_bool (by rw [Bool.eq_iff_iff]; simp; try omega), (Below.alloc (Below.alloc (Below.refl _ _) (Nat.le_refl _) _) (by simp) _)⟩
def woP (F : Fl) (n : Int) : Fl := if (okFl F && inB n 0 ((F.s.length : Int) - 1)) = true then woF F n.toNat else ⟨[], ⟨0, 0⟩, 0, 0, []⟩
def wcP (F : Fl) (n : Int) : Int := if okFl F then (if inB n 0 ((F.s.length : Int) - 1) then 0 else 1) else 30
def reP (F : Fl) : List Int := if rdE F true = 0 then reL F F.s.length else []
def WoR (F : Fl) (n : Int) (e : Ending) (w' : World) : Prop := ∃ a b c d, e = .returned (.tuple #[flV (woP F n) (.slice a (woP F n).v.length b) (.slice c (woP F n).s.length d), .int .i64 (wcP F n)]) ∧ FlIn w' (woP F n) (.slice a (woP F n).v.length b) (.slice c (woP F n).s.length d)
theorem wo_r {F : Fl} {n : Int} {e : Ending} {w' : World} {G : Fl} {c : Int} {v s : Value} (h1 : woP F n = G) (h2 : wcP F n = c) (h3 : e = .returned (.tuple #[flV G v s, .int .i64 c])) (h4 : FlIn w' G v s) : WoR F n e w' := by
  subst h1 h2
  obtain ⟨a, b, rfl, _⟩ := h4.v.parts
  obtain ⟨x, y, rfl, _⟩ := h4.s.parts
  exact ⟨a, b, x, y, h3, h4⟩
theorem flZ_n (w : World) : FlIn w ⟨[], ⟨0, 0⟩, 0, 0, []⟩ (.slice none 0 0) (.slice none 0 0) := ⟨Row.nil _ _ _ _ _, Row.nil _ _ _ _ _⟩
theorem Without_r (F : Fl) (vv vs : Value) (n : Int) (w : World) (hF : FlIn w F vv vs) : Calls Tryz.prog 53 #[flV F vv vs, .int .i64 n] w fun e w' => WoR F n e w' ∧ Below w.heap.size w w' := by
  refine (Without_any F vv vs n w hF).mono ?_
  rintro e w' ⟨(⟨h1, rfl⟩ | ⟨h1, h2, rfl⟩ | ⟨h1, h2, vv', vs', rfl, h3⟩), hb⟩
  · exact ⟨wo_r (by unfold woP; rw [h1]; rfl) (by unfold wcP; rw [h1]; rfl) rfl (flZ_n w'), hb⟩
  · exact ⟨wo_r (by unfold woP; rw [h1, h2]; rfl) (by unfold wcP; rw [h1, h2]; rfl) rfl (flZ_n w'), hb⟩
  · exact ⟨wo_r (by unfold woP; rw [h1, h2]; rfl) (by unfold wcP; rw [h1, h2]; rfl) rfl h3, hb⟩
theorem Rests_r (F : Fl) (vv vs : Value) (w : World) (hF : FlIn w F vv vs) : Calls Tryz.prog 55 #[flV F vv vs] w fun e w' => (∃ a b c, e = .returned (.tuple #[.slice a b c, .int .i64 (rdE F true)]) ∧ Ints w' (.slice a b c) (reP F)) ∧ Below w.heap.size w w' := by
  refine (Rests_any F vv vs w hF).mono ?_
  rintro e w' ⟨(⟨h0, rfl⟩ | ⟨h0, v, rfl, h1⟩), hb⟩
  · exact ⟨⟨none, 0, 0, rfl, by unfold reP; rw [if_neg h0]; exact (Own.nil w' 0).ints⟩, hb⟩
  · obtain ⟨a, b, c, rfl, _, _⟩ := h1.ints.parts
    exact ⟨⟨a, b, c, by rw [h0], by unfold reP; rw [if_pos h0]; exact h1.ints⟩, hb⟩
theorem Reached_p (F : Fl) (vv vs : Value) (x : Int) (w : World) (hF : FlIn w F vv vs) : Calls Tryz.prog 20 #[flV F vv vs, .int .i64 x] w fun e w' => (∃ a b, e = .returned (.tuple #[.agg #[.int .i64 a, .int .i64 b], .int .i64 (rdE F (inB x 0 (hgt F.v)))]) ∧ (rdE F (inB x 0 (hgt F.v)) = 0 → a = rcLo F (allL F) x ∧ b = rcHi F (allL F) x)) ∧ Below w.heap.size w w' := by
  by_cases h : rdE F (inB x 0 (hgt F.v)) = 0
  · have ho := rdE_ok h
    have hc := rdE_can h
    have hx : 0 ≤ x ∧ x ≤ hgt F.v := by
      cases e : inB x 0 (hgt F.v) with
      | true => exact inB_t e
      | false => rw [e, rdE_1 ((okFl_iff F).2 ho) rfl] at h; cases h
    refine (Reached_yes F vv vs x _ _ w hF ((okFl_iff F).2 ho) hc hx.1 hx.2 rfl rfl).mono ?_
    rintro e w' ⟨rfl, hb⟩
    exact ⟨⟨_, _, by rw [h], fun _ => ⟨rfl, rfl⟩⟩, hb⟩
  · refine (Reached_no F vv vs x _ w hF rfl h).mono ?_
    rintro e w' ⟨rfl, hb⟩
    exact ⟨⟨0, 0, rfl, fun k => absurd k h⟩, hb⟩
theorem Level_p (F : Fl) (vv vs : Value) (m : Int) (w : World) (hF : FlIn w F vv vs) : Calls Tryz.prog 22 #[flV F vv vs, .int .i64 m] w fun e w' => (∃ a b, e = .returned (.tuple #[.agg #[.int .i64 a, .int .i64 b], .int .i64 (rdE F (inB m 0 2097152))]) ∧ (rdE F (inB m 0 2097152) = 0 → a = lvLo F (allL F) m ∧ b = lvHi F (allL F) m)) ∧ Below w.heap.size w w' := by
  by_cases h : rdE F (inB m 0 2097152) = 0
  · have ho := rdE_ok h
    have hc := rdE_can h
    have hx : 0 ≤ m ∧ m ≤ 2097152 := by
      cases e : inB m 0 2097152 with
      | true => exact inB_t e
      | false => rw [e, rdE_1 ((okFl_iff F).2 ho) rfl] at h; cases h
    refine (Level_yes F vv vs m _ _ w hF ((okFl_iff F).2 ho) hc hx.1 hx.2 rfl rfl).mono ?_
    rintro e w' ⟨rfl, hb⟩
    exact ⟨⟨_, _, by rw [h], fun _ => ⟨rfl, rfl⟩⟩, hb⟩
  · refine (Level_no F vv vs m _ w hF rfl h).mono ?_
    rintro e w' ⟨rfl, hb⟩
    exact ⟨⟨0, 0, rfl, fun k => absurd k h⟩, hb⟩
theorem Bounds_p (F : Fl) (vv vs : Value) (w : World) (hF : FlIn w F vv vs) : Calls Tryz.prog 32 #[flV F vv vs] w fun e w' => e = .returned (.tuple #[.agg #[.int .i64 (boQ F).a, .int .i64 (boQ F).b], .agg #[.int .i64 (boQ F).c, .int .i64 (boQ F).d], .int .i64 (rdE F true)]) ∧ Below w.heap.size w w' := by
  rw [← boV_Q]; exact Bounds_any F vv vs w hF
def Bks (w : World) (L : List (Nat × TypeId × List Value)) : Prop := ∀ (i b : Nat) (T : TypeId) (cs : List Value), L[i]? = some (b, T, cs) → Bk w b T cs
theorem Bks.get {w : World} {L : List (Nat × TypeId × List Value)} (h : Bks w L) (i : Nat) {b : Nat} {T : TypeId} {cs : List Value} (e : L[i]? = some (b, T, cs)) : Bk w b T cs := h i b T cs e
theorem Bks.below {w w' : World} {L : List (Nat × TypeId × List Value)} (h : Bks w L) (hb : Below w.heap.size w w') : Bks w' L := fun i b T cs e => (h i b T cs e).below hb
theorem Bks.add {w : World} {L : List (Nat × TypeId × List Value)} (h : Bks w L) {b : Nat} {T : TypeId} {cs : List Value} (k : Bk w b T cs) : Bks w (L ++ [(b, T, cs)]) := fun i b' T' cs' e => by
  rcases Nat.lt_or_ge i L.length with c | c
  · rw [List.getElem?_append_left c] at e; exact h i _ _ _ e
  · rw [List.getElem?_append_right c] at e
    rcases Nat.eq_zero_or_pos (i - L.length) with c2 | c2
    · rw [c2] at e; simp at e; obtain ⟨rfl, rfl, rfl⟩ := e; exact k
    · rw [List.getElem?_eq_none (by simp; omega)] at e; cases e
theorem Bks.nil (w : World) : Bks w [] := fun i b T cs e => by simp at e
set_option maxRecDepth 100000 in
set_option maxHeartbeats 4000000 in
theorem law_wmore (F : Fl) (vv vs : Value) (S : Sn) (x y n : Int) (w : World) (hF : FlIn w F vv vs) (_ : SnI S) (_ : -9223372036854775808 ≤ x) (_ : x ≤ 9223372036854775807) (_ : -9223372036854775808 ≤ y) (_ : y ≤ 9223372036854775807) (_ : -9223372036854775808 ≤ n) (_ : n ≤ 9223372036854775807) :
    Calls Tryz.prog 17 #[flV F vv vs, .agg #[.int .i64 S.lo, .int .i64 S.hi, .int .i64 S.k.lv, .int .i64 S.k.er], .int .i64 x, .int .i64 y, .int .i64 n] w fun e w' => e = .returned (.bool true) ∧ Below w.heap.size w w' := by
  obtain ⟨os, cs, rfl, ms⟩ := hF.s.parts
  obtain ⟨ov, cv, rfl, mv⟩ := hF.v.parts
  obtain ⟨sl, hsl⟩ : ∃ k, F.s.length = k := ⟨_, rfl⟩
  obtain ⟨vl, hvl⟩ : ∃ k, F.v.length = k := ⟨_, rfl⟩
  rw [hsl] at hF ms ⊢
  rw [hvl] at hF mv ⊢
  have HSL := Lib.hid hsl
  have HVL := Lib.hid hvl
  clear hsl hvl
  have HF := Lib.hid (hF.alloc (flO F (.slice ov vl cv) (.slice os sl cs)))
  have BP := Lib.hid (Bk.new w 30 (flL F (.slice ov vl cv) (.slice os sl cs)))
  clear hF
  have BS := Lib.hid (Bk.new1 w (flO F (.slice ov vl cv) (.slice os sl cs)) 88 [.int .i64 S.lo, .int .i64 S.hi, .int .i64 S.k.lv, .int .i64 S.k.er])
  go_enter Tryz.func17, Tryz.ntmps17
  go_wp2_with fail
  refine (sane_any _).mono ?_
  rintro e w1 ⟨rfl, hb⟩
  have HF1 := Lib.hid ((HF.out.alloc (Obj.cells #[.int .i64 S.lo, .int .i64 S.hi, .int .i64 S.k.lv, .int .i64 S.k.er] 88)).below hb)
  have HK1 := Lib.hid ((((Bks.nil _).add (BP.out.alloc (Obj.cells #[.int .i64 S.lo, .int .i64 S.hi, .int .i64 S.k.lv, .int .i64 S.k.er] 88))).add BS.out).below hb)
  have HB1 := Lib.hid (bafter (bafter hb))
  clear hb HF BP BS
  go_wp2_with (first | (refine ld_at rfl (T := 30) rfl rfl (HK1.out.get 0 rfl) Tryz.underlying30 rfl (by kernel_rfl) ?_) | fail)
  cases ho : okFl F with
  | false =>
    refine (Check_c F _ _ 30 _ HF1.out (by unfold chkF; rw [if_neg (by rw [ho]; decide)])).mono ?_
    rintro e w2 ⟨rfl, hb⟩
    have HF2 := Lib.hid (HF1.out.below hb)
    have HK2 := Lib.hid (HK1.out.below hb)
    have HB2 := Lib.hid (bthen HB1.out hb)
    clear HF1 HK1 HB1
    clear hb
    go_wp2_with fail
    go_ret
    exact ⟨rfl, HB2.out⟩
  | true =>
    have hO := (okFl_iff F).1 ho
    refine (Check_c F _ _ 0 _ HF1.out (by unfold chkF; rw [if_pos ho])).mono ?_
    rintro e w2 ⟨rfl, hb⟩
    have HF2 := Lib.hid (HF1.out.below hb)
    have HK2 := Lib.hid (HK1.out.below hb)
    have HB2 := Lib.hid (bthen HB1.out hb)
    clear HF1 HK1 HB1
    clear hb
    have c5 := (HK2.out.get 0 rfl).cell 5
    have cl := (HK2.out.get 0 rfl).lt
    simp only [List.getElem?_cons_zero, List.getElem?_cons_succ] at c5
    by_cases hm : sl ≤ 23
    · obtain ⟨q, hq⟩ : ∃ q, boQ F = q := ⟨_, rfl⟩
      obtain ⟨be, hbe⟩ : ∃ q, rdE F true = q := ⟨_, rfl⟩
      have hbo := fun w h => Bounds_p F (.slice ov vl cv) (.slice os sl cs) w h
      rw [hq, hbe] at hbo
      obtain ⟨l1, l2, l3, l4⟩ := q
      simp only at hbo
      have HQ := Lib.hid hq
      have HBE := Lib.hid hbe
      have HBO := Lib.hid hbo
      clear hbo hq hbe
      go_wp2_with (first | (refine ld_at rfl (T := 30) rfl rfl (HK2.out.get 0 rfl) Tryz.underlying30 rfl (by kernel_rfl) ?_) | fail)
      refine (HBO.out _ HF2.out).mono ?_
      rintro e w3 ⟨rfl, hb⟩
      clear c5 cl
      have hb' := (hb.alloc hb.size (Obj.cells #[.int .i64 l1, .int .i64 l2] 41)).alloc (by have := hb.size; simp; omega) (Obj.cells #[.int .i64 l3, .int .i64 l4] 41)
      have HF3 := Lib.hid (HF2.out.below hb')
      have HK3 := Lib.hid (HK2.out.below hb')
      have HB3 := Lib.hid (bthen HB2.out hb')
      clear HF2 HK2 HB2
      have HK3 := Lib.hid ((HK3.out.add ((Bk.new w3 41 [.int .i64 l1, .int .i64 l2]).alloc (Obj.cells #[.int .i64 l3, .int .i64 l4] 41))).add (Bk.new1 w3 (Obj.cells #[.int .i64 l1, .int .i64 l2] 41) 41 [.int .i64 l3, .int .i64 l4]))
      clear hb hb'
      go_wp2_with (first | (refine ld_at rfl (T := 30) rfl rfl (HK3.out.get 0 rfl) Tryz.underlying30 rfl (by kernel_rfl) ?_) | fail)
      refine (Reached_p F _ _ x _ HF3.out).mono ?_
      rintro e w4 ⟨⟨xa, xb, rfl, hxr⟩, hb⟩
      have hb' := hb.alloc hb.size (Obj.cells #[.int .i64 xa, .int .i64 xb] 27)
      have HF4 := Lib.hid (HF3.out.below hb')
      have HK4 := Lib.hid (HK3.out.below hb')
      have HB4 := Lib.hid (bthen HB3.out hb')
      clear HF3 HK3 HB3
      have HK4 := Lib.hid (HK4.out.add (Bk.new w4 27 [.int .i64 xa, .int .i64 xb]))
      have HXR := Lib.hid hxr
      clear hb hb' hxr
      obtain ⟨xc, hxc⟩ : ∃ c, rdE F (inB x 0 (hgt F.v)) = c := ⟨_, rfl⟩
      rw [hxc] at HXR
      try rw [hxc]
      have HXC := Lib.hid hxc
      clear hxc
      go_wp2_with (first | (refine ld_at rfl (T := 30) rfl rfl (HK4.out.get 0 rfl) Tryz.underlying30 rfl (by kernel_rfl) ?_) | fail)
      refine (Level_p F _ _ y _ HF4.out).mono ?_
      rintro e w5 ⟨⟨ya, yb, rfl, hyr⟩, hb⟩
      have hb' := hb.alloc hb.size (Obj.cells #[.int .i64 ya, .int .i64 yb] 27)
      have HF5 := Lib.hid (HF4.out.below hb')
      have HK5 := Lib.hid (HK4.out.below hb')
      have HB5 := Lib.hid (bthen HB4.out hb')
      clear HF4 HK4 HB4
      have HK5 := Lib.hid (HK5.out.add (Bk.new w5 27 [.int .i64 ya, .int .i64 yb]))
      have HYR := Lib.hid hyr
      clear hb hb' hyr
      obtain ⟨yc, hyc⟩ : ∃ c, rdE F (inB y 0 2097152) = c := ⟨_, rfl⟩
      rw [hyc] at HYR
      try rw [hyc]
      have HYC := Lib.hid hyc
      clear hyc
      go_upto_region 9 with (first | (refine ld_at rfl (T := 30) rfl rfl (HK5.out.get 0 rfl) Tryz.underlying30 rfl (by kernel_rfl) ?_) | fail)
      have HV := Lib.hid (ballo (w5.alloc (Obj.cells #[.int .i64 ya, .int .i64 yb] 27)) (flO F (.slice ov vl cv) (.slice os sl cs)))
      have hM := Bk.new (w5.alloc (Obj.cells #[.int .i64 ya, .int .i64 yb] 27)) 30 (flL F (.slice ov vl cv) (.slice os sl cs))
      obtain ⟨V, hV⟩ : ∃ V, w5.alloc (Obj.cells #[.int .i64 ya, .int .i64 yb] 27) = V := ⟨_, rfl⟩
      have hmb : V.heap.size = w5.heap.size + 1 := by rw [← hV]; simp
      have HMB := Lib.hid hmb
      rw [hV] at HV HF5 HK5 HB5 hM
      rw [hmb] at hM
      try rw [hV]
      obtain ⟨W, hW⟩ : ∃ W, V.alloc (flO F (.slice ov vl cv) (.slice os sl cs)) = W := ⟨_, rfl⟩
      have hWs : W.heap.size = w5.heap.size + 2 := by rw [← hW]; simp; omega
      rw [hW] at HV hM
      try rw [hW]
      have HWS := Lib.hid hWs
      have HM := Lib.hid hM
      clear hV hmb hW hWs hM
      go_cut [18] from 66 to 72 (fun p wx => p = .pointer (some ⟨w5.heap.size + 1, 0, none⟩) ∧ ∃ a b, Hid (Bk wx (w5.heap.size + 1) 30 [.slice ov vl cv, .int .i64 F.f.lv, .int .i64 F.f.er, .int .i64 F.wlo, .int .i64 F.whi, .slice a (sl + 1) b]) ∧ Hid (SnR wx (.slice a (sl + 1) b) (F.s ++ [S])) ∧ Hid (Below V.heap.size V wx))
      case first =>
        have hfK := HK5.out.below HV.out
        have c5 := (hfK.get 0 rfl).cell 5
        have cl := (hfK.get 0 rfl).lt
        have s0 := (hfK.get 1 rfl).cell 0
        have s1 := (hfK.get 1 rfl).cell 1
        have s2 := (hfK.get 1 rfl).cell 2
        have s3 := (hfK.get 1 rfl).cell 3
        have slt := (hfK.get 1 rfl).lt
        simp only [List.getElem?_cons_zero, List.getElem?_cons_succ] at c5 s0 s1 s2 s3
        have hrow : Row W (.slice os sl cs) 4 sl (snF F.s) := by have := HF5.out.s.below HV.out; unfold SnR at this; rwa [HSL.out] at this
        have HROW := Lib.hid hrow
        have HVW := Lib.hid (HV.out)
        clear hfK hrow
        refine WpK.begin (S := fun _ => True) (kp := fun _ => true) (f := 8) (up := #[false, false, false, false, false, false, false, false]) (by kernel_rfl) (by kernel_rfl) (by kernel_rfl) ?_
        refine WpK.take (i := 0) (v := ?_) ((toArray_at _ _).trans rfl) (by kernel_rfl) (by kernel_rfl) (by kernel_rfl) (by kernel_rfl) (by kernel_rfl) (fun _ _ _ h => h) (Or.inl ⟨by rfl, ?_⟩) trivial ?_
        rotate_left
        · (intro x hx; go_simp <;> with_reducible rfl)
        simp only [Act.put, puts]
        refine WpK.weaken (S := fun x => Below W.heap.size W x) (kp := (fun i => decide (i < 5))) (fun _ => trivial) _ ?_
        have hS0 := (show Below W.heap.size W W.drew from (Below.refl _ _).drew)
        refine WpK.take (i := 1) (v := ?_) ((toArray_at _ _).trans rfl) (by kernel_rfl) (by kernel_rfl) (by kernel_rfl) (by kernel_rfl) (by kernel_rfl) (fun _ _ _ h => h) (Or.inl ⟨by rfl, ?_⟩) hS0 ?_
        rotate_left
        · (intro x hx; obtain ⟨hcx, hfx⟩ := bcell hx; go_simp <;> with_reducible rfl)
        try simp only [Act.put, puts]
        refine WpK.take (i := 3) (v := ?_) ((toArray_at _ _).trans rfl) (by kernel_rfl) (by kernel_rfl) (by kernel_rfl) (by kernel_rfl) (by kernel_rfl) (fun _ _ _ h => h) (Or.inl ⟨by rfl, ?_⟩) hS0 ?_
        rotate_left
        · (intro x hx; obtain ⟨hcx, hfx⟩ := bcell hx; go_simp <;> with_reducible rfl)
        try simp only [Act.put, puts]
        clear hS0 c5 s0 s1 s2 s3
        refine WpK.two (i := 2) (k := 4) (by kernel_rfl) ((toArray_at _ _).trans rfl) ((toArray_at _ _).trans rfl) ?_ ?_
        all_goals
          intro K hK
          have HK := Lib.hid hK
          clear hK
        · go_simp
          refine (cloneS_any (.slice os sl cs) sl (snF F.s) _ (HROW.out.below (Below.drew (Below.refl _ _))) (by omega) (one_cells (one_sn F.s))).mono ?_
          rintro e W2 ⟨v', rfl, hb2, hown⟩
          have hW2 : Below W.heap.size W W2 := Below.trans (Below.drew (Below.refl _ _)) hb2
          refine HK.out _ _ (fun _ => hW2) (fun _ => ?_)
          clear HK K
          try simp only [puts]
          refine WpK.one (i := 4) (by kernel_rfl) ((toArray_at _ _).trans rfl) ?_
          intro K hK
          have HK := Lib.hid hK
          clear hK
          go_simp
          have hX : Below W.heap.size W (W2.alloc (Obj.cells #[.int .i64 S.lo, .int .i64 S.hi, .int .i64 S.k.lv, .int .i64 S.k.er] 88)) := hW2.alloc hW2.size _
          refine HK.out _ _ (fun _ => hX) (fun _ => ?_)
          clear HK K
          try simp only [puts]
          have hown2 : OwnR (W2.alloc (Obj.cells #[.int .i64 S.lo, .int .i64 S.hi, .int .i64 S.k.lv, .int .i64 S.k.er] 88)) W.heap.size 88 4 v' sl (snF F.s) := owns_below hown (ballo _ _)
          refine WpK.one (i := 5) (by kernel_rfl) ((toArray_at _ _).trans rfl) ?_
          intro K hK
          have HK := Lib.hid hK
          clear hK
          refine step_own Tryz.underlying28 seen_el (by decide) (by decide) rfl (.tmp 68) (.tmp 70) rfl W.heap.size v' sl (cellsL (snF F.s) 4 sl) rfl hown2 ⟨W2.heap.size, 0, none⟩ _ [.int .i64 S.lo, .int .i64 S.hi, .int .i64 S.k.lv, .int .i64 S.k.er] rfl rfl (news_bk (Bk.new _ _ [_, _, _, _])) ?_ ?_ ?_ ?_
          · intro u hu; simp at hu; rcases hu with rfl | rfl | rfl | rfl <;> rfl
          · omega
          · exact hX.size
          intro g2 c2 q hO4 hP4 hG4 hN4
          have hw4 : Below W.heap.size W q := hX.trans hP4
          have hK4 : Bk q (w5.heap.size + 1) 30 _ := (hw4.block (w5.heap.size + 1) (by have := HWS.out; omega)).trans HM.out
          refine HK.out _ _ (fun h => absurd h (by decide)) (fun _ => ?_)
          clear HK K
          try simp only [puts]
          have cq := hK4.cell 5
          have fq := hK4.frozen 5
          have lq := hK4.lt
          simp only [List.getElem?_cons_zero, List.getElem?_cons_succ] at cq
          refine WpK.one (i := 6) (by kernel_rfl) ((toArray_at _ _).trans rfl) ?_
          intro K hK
          have HK := Lib.hid hK
          clear hK
          go_simp
          refine HK.out _ _ (fun h => absurd h (by decide)) (fun _ => ?_)
          clear HK K
          try simp only [puts]
          refine WpK.one (i := 7) (by kernel_rfl) ((toArray_at _ _).trans rfl) ?_
          intro K hK
          have HK := Lib.hid hK
          clear hK
          go_simp
          refine HK.out _ _ (fun h => absurd h (by decide)) (fun _ => ?_)
          clear HK K
          try simp only [puts]
          refine WpK.done (by kernel_rfl) ?_
          have hK5 := hK4.set 5 (.slice (some ⟨g2, 0, none⟩) (sl + 1) c2)
          simp only [flL, List.set_cons_zero, List.set_cons_succ] at hK5
          have hB5 := (HVW.out.trans (hw4.mono HVW.out.size)).setCell (p := ⟨w5.heap.size + 1, 5, none⟩) (by have := HMB.out; simp; omega) (.slice (some ⟨g2, 0, none⟩) (sl + 1) c2)
          have hO5 := OwnR.setCell (f := snF (F.s ++ [S])) (b := w5.heap.size + 1) (j := 5) (n := sl + 1) (k := 4) (by unfold OwnR; have := sn_app F.s S; rw [HSL.out] at this; rw [this]; exact hO4) (by have := HWS.out; omega) (.slice (some ⟨g2, 0, none⟩) (sl + 1) c2)
          have hR5 : SnR (q.setCell ⟨w5.heap.size + 1, 5, none⟩ (.slice (some ⟨g2, 0, none⟩) (sl + 1) c2)) (.slice (some ⟨g2, 0, none⟩) (sl + 1) c2) (F.s ++ [S]) := by
            have := OwnR.row hO5
            unfold SnR
            rw [List.length_append, HSL.out]
            exact this
          have HK5' := Lib.hid hK5
          have HB5' := Lib.hid hB5
          have HR5' := Lib.hid hR5
          clear hK5 hB5 hO5 hR5 cq fq lq hK4 hw4 hO4 hP4 hG4 hN4
          go_wp2_with fail
          go_meet
          case rel => exact ⟨rfl, _, _, HK5', HR5', HB5'⟩
        · go_simp
          have hX1 : Below W.heap.size W (W.drew.alloc (Obj.cells #[.int .i64 S.lo, .int .i64 S.hi, .int .i64 S.k.lv, .int .i64 S.k.er] 88)) := (Below.drew (Below.refl _ _)).alloc (Nat.le_refl _) _
          refine HK.out _ _ (fun _ => hX1) (fun _ => ?_)
          clear HK K
          try simp only [puts]
          refine WpK.one (i := 2) (by kernel_rfl) ((toArray_at _ _).trans rfl) ?_
          intro K hK
          have HK := Lib.hid hK
          clear hK
          go_simp
          refine (cloneS_any (.slice os sl cs) sl (snF F.s) _ (HROW.out.below hX1) (by omega) (one_cells (one_sn F.s))).mono ?_
          rintro e W2 ⟨v', rfl, hb2, hown⟩
          have hX : Below W.heap.size W W2 := hX1.trans (hb2.mono hX1.size)
          refine HK.out _ _ (fun _ => hX) (fun _ => ?_)
          clear HK K
          try simp only [puts]
          have hown2 : OwnR W2 W.heap.size 88 4 v' sl (snF F.s) := own_base hown hX1.size
          refine WpK.one (i := 5) (by kernel_rfl) ((toArray_at _ _).trans rfl) ?_
          intro K hK
          have HK := Lib.hid hK
          clear hK
          refine step_own Tryz.underlying28 seen_el (by decide) (by decide) rfl (.tmp 68) (.tmp 70) rfl W.heap.size v' sl (cellsL (snF F.s) 4 sl) rfl hown2 ⟨W.drew.heap.size, 0, none⟩ _ [.int .i64 S.lo, .int .i64 S.hi, .int .i64 S.k.lv, .int .i64 S.k.er] rfl rfl (news_bk ((Bk.new W.drew _ [.int .i64 S.lo, .int .i64 S.hi, .int .i64 S.k.lv, .int .i64 S.k.er]).below hb2)) ?_ ?_ ?_ ?_
          · intro u hu; simp at hu; rcases hu with rfl | rfl | rfl | rfl <;> rfl
          · omega
          · exact hX.size
          intro g2 c2 q hO4 hP4 hG4 hN4
          have hw4 : Below W.heap.size W q := hX.trans hP4
          have hK4 : Bk q (w5.heap.size + 1) 30 _ := (hw4.block (w5.heap.size + 1) (by have := HWS.out; omega)).trans HM.out
          refine HK.out _ _ (fun h => absurd h (by decide)) (fun _ => ?_)
          clear HK K
          try simp only [puts]
          have cq := hK4.cell 5
          have fq := hK4.frozen 5
          have lq := hK4.lt
          simp only [List.getElem?_cons_zero, List.getElem?_cons_succ] at cq
          refine WpK.one (i := 6) (by kernel_rfl) ((toArray_at _ _).trans rfl) ?_
          intro K hK
          have HK := Lib.hid hK
          clear hK
          go_simp
          refine HK.out _ _ (fun h => absurd h (by decide)) (fun _ => ?_)
          clear HK K
          try simp only [puts]
          refine WpK.one (i := 7) (by kernel_rfl) ((toArray_at _ _).trans rfl) ?_
          intro K hK
          have HK := Lib.hid hK
          clear hK
          go_simp
          refine HK.out _ _ (fun h => absurd h (by decide)) (fun _ => ?_)
          clear HK K
          try simp only [puts]
          refine WpK.done (by kernel_rfl) ?_
          have hK5 := hK4.set 5 (.slice (some ⟨g2, 0, none⟩) (sl + 1) c2)
          simp only [flL, List.set_cons_zero, List.set_cons_succ] at hK5
          have hB5 := (HVW.out.trans (hw4.mono HVW.out.size)).setCell (p := ⟨w5.heap.size + 1, 5, none⟩) (by have := HMB.out; simp; omega) (.slice (some ⟨g2, 0, none⟩) (sl + 1) c2)
          have hO5 := OwnR.setCell (f := snF (F.s ++ [S])) (b := w5.heap.size + 1) (j := 5) (n := sl + 1) (k := 4) (by unfold OwnR; have := sn_app F.s S; rw [HSL.out] at this; rw [this]; exact hO4) (by have := HWS.out; omega) (.slice (some ⟨g2, 0, none⟩) (sl + 1) c2)
          have hR5 : SnR (q.setCell ⟨w5.heap.size + 1, 5, none⟩ (.slice (some ⟨g2, 0, none⟩) (sl + 1) c2)) (.slice (some ⟨g2, 0, none⟩) (sl + 1) c2) (F.s ++ [S]) := by
            have := OwnR.row hO5
            unfold SnR
            rw [List.length_append, HSL.out]
            exact this
          have HK5' := Lib.hid hK5
          have HB5' := Lib.hid hB5
          have HR5' := Lib.hid hR5
          clear hK5 hB5 hO5 hR5 cq fq lq hK4 hw4 hO4 hP4 hG4 hN4
          go_wp2_with fail
          go_meet
          case rel => exact ⟨rfl, _, _, HK5', HR5', HB5'⟩
      case rest =>
        obtain ⟨rfl, a6, b6, HM6, HR6, HV6⟩ := hcut
        have HF6 := Lib.hid (HF5.out.below HV6.out)
        have HK6 := Lib.hid (HK5.out.below HV6.out)
        have HB6 := Lib.hid (bthen HB5.out HV6.out)
        have HN6 : Hid (FlIn wc (seenF F (F.s ++ [S])) (.slice ov vl cv) (.slice a6 (sl + 1) b6)) := Lib.hid ⟨HF6.out.v, HR6.out⟩
        clear HF5 HK5 HB5 HR6 HV6 HV HM
        have hkp : ∀ W, FlIn W (seenF F (F.s ++ [S])) (.slice ov vl cv) (.slice a6 (sl + 1) b6) → Calls Tryz.prog 35 #[.agg #[.slice ov vl cv, .int .i64 F.f.lv, .int .i64 F.f.er, .int .i64 F.wlo, .int .i64 F.whi, .slice a6 (sl + 1) b6]] W fun e w' => e = .returned (.tuple #[.bool (okFl (seenF F (F.s ++ [S])) && canI (seenF F (F.s ++ [S])) (allL (seenF F (F.s ++ [S])))), .int .i64 (chkF (seenF F (F.s ++ [S])))]) ∧ Below W.heap.size W w' := fun W h => Possible_any _ _ _ W h
        have hkw : ∀ W, FlIn W (seenF F (F.s ++ [S])) (.slice ov vl cv) (.slice a6 (sl + 1) b6) → Calls Tryz.prog 49 #[.agg #[.slice ov vl cv, .int .i64 F.f.lv, .int .i64 F.f.er, .int .i64 F.wlo, .int .i64 F.whi, .slice a6 (sl + 1) b6]] W fun e w' => e = .returned (weE (seenF F (F.s ++ [S]))) ∧ Below W.heap.size W w' := fun W h => Wear_any _ _ _ W h
        have hkr : ∀ W, FlIn W (seenF F (F.s ++ [S])) (.slice ov vl cv) (.slice a6 (sl + 1) b6) → Calls Tryz.prog 20 #[.agg #[.slice ov vl cv, .int .i64 F.f.lv, .int .i64 F.f.er, .int .i64 F.wlo, .int .i64 F.whi, .slice a6 (sl + 1) b6], .int .i64 x] W fun e w' => (∃ a b, e = .returned (.tuple #[.agg #[.int .i64 a, .int .i64 b], .int .i64 (rdE (seenF F (F.s ++ [S])) (inB x 0 (hgt F.v)))]) ∧ (rdE (seenF F (F.s ++ [S])) (inB x 0 (hgt F.v)) = 0 → a = rcLo (seenF F (F.s ++ [S])) (allL (seenF F (F.s ++ [S]))) x ∧ b = rcHi (seenF F (F.s ++ [S])) (allL (seenF F (F.s ++ [S]))) x)) ∧ Below W.heap.size W w' := fun W h => Reached_p _ _ _ x W h
        have hkl : ∀ W, FlIn W (seenF F (F.s ++ [S])) (.slice ov vl cv) (.slice a6 (sl + 1) b6) → Calls Tryz.prog 22 #[.agg #[.slice ov vl cv, .int .i64 F.f.lv, .int .i64 F.f.er, .int .i64 F.wlo, .int .i64 F.whi, .slice a6 (sl + 1) b6], .int .i64 y] W fun e w' => (∃ a b, e = .returned (.tuple #[.agg #[.int .i64 a, .int .i64 b], .int .i64 (rdE (seenF F (F.s ++ [S])) (inB y 0 2097152))]) ∧ (rdE (seenF F (F.s ++ [S])) (inB y 0 2097152) = 0 → a = lvLo (seenF F (F.s ++ [S])) (allL (seenF F (F.s ++ [S]))) y ∧ b = lvHi (seenF F (F.s ++ [S])) (allL (seenF F (F.s ++ [S]))) y)) ∧ Below W.heap.size W w' := fun W h => Level_p _ _ _ y W h
        have HNAR := Lib.hid (fun h => nar_more (S := S) hO h)
        obtain ⟨G, hG⟩ : ∃ G, seenF F (F.s ++ [S]) = G := ⟨_, rfl⟩
        rw [hG] at hkp hkw hkr hkl HN6 HNAR
        clear hG
        have HKW := Lib.hid hkw
        have HKR := Lib.hid hkr
        have HKL := Lib.hid hkl
        have hcase : (okFl G = true ∧ canI G (allL G) = true) ∨ ((okFl G && canI G (allL G)) = false ∧ (chkF G = 0 ∨ chkF G = 30)) := by
          unfold chkF
          cases okFl G <;> cases canI G (allL G) <;> simp
        go_wp2_with (first | (refine ld_at rfl (T := 30) rfl rfl (HM6.out) Tryz.underlying30 rfl (by kernel_rfl) ?_) | fail)
        rcases hcase with ⟨hog, hcg⟩ | ⟨hpf, hz⟩
        · have hck : chkF G = 0 := by unfold chkF; rw [if_pos hog]
          have hP : (okFl G && canI G (allL G)) = true := by rw [hog, hcg]; rfl
          rw [hck, hP] at hkp
          refine (hkp _ HN6.out).mono ?_
          rintro e w7 ⟨rfl, hb⟩
          have HF7 := Lib.hid (HF6.out.below hb)
          have HK7 := Lib.hid (HK6.out.below hb)
          have HB7 := Lib.hid (bthen HB6.out hb)
          clear HF6 HK6 HB6
          have HN7 := Lib.hid (HN6.out.below hb)
          have HM7 := Lib.hid (HM6.out.below hb)
          clear hb hkp HN6 HM6 hck hP
          have hn := HNAR.out ((okFl_iff G).1 hog)
          have hcF := hn.can hcg
          have hbe0 : be = 0 := by rw [← HBE.out]; exact rdE_0 ho rfl hcF
          subst hbe0
          have hwf := fun w h => Wear_any F (.slice ov vl cv) (.slice os sl cs) w h
          rw [weE_can ho hcF] at hwf
          rw [weE_can hog hcg] at hkw
          obtain ⟨hw1, hw2⟩ := nar_wear hn hcg
          obtain ⟨p1, hp1⟩ : ∃ p, (wA F).tdiv (wB F) = p := ⟨_, rfl⟩
          obtain ⟨p2, hp2⟩ : ∃ p, (wC F + wD F - 1).tdiv (wD F) = p := ⟨_, rfl⟩
          obtain ⟨q1, hq1⟩ : ∃ p, (wA G).tdiv (wB G) = p := ⟨_, rfl⟩
          obtain ⟨q2, hq2⟩ : ∃ p, (wC G + wD G - 1).tdiv (wD G) = p := ⟨_, rfl⟩
          rw [hp1, hp2] at hwf
          rw [hq1, hq2] at hkw
          rw [hp1, hq1] at hw1
          rw [hp2, hq2] at hw2
          have hxg : rdE G (inB x 0 (hgt F.v)) = xc := by rw [rdE_R hog hcg, ← HXC.out, rdE_R ho hcF]
          have hyg : rdE G (inB y 0 2097152) = yc := by rw [rdE_R hog hcg, ← HYC.out, rdE_R ho hcF]
          simp only [hxg] at hkr
          simp only [hyg] at hkl
          have hxin : xc = 0 → 0 ≤ x ∧ x ≤ hgt F.v := fun h => by
            rw [← HXC.out, rdE_R ho hcF] at h
            cases e : inB x 0 (hgt F.v) with
            | true => exact inB_t e
            | false => rw [e] at h; simp at h
          have HRC := Lib.hid (fun h : xc = 0 => hn.rc (hxin h).1 (hxin h).2)
          have HLV := Lib.hid (hn.lv y)
          have HWF := Lib.hid hwf
          have HKW := Lib.hid hkw
          have HKR := Lib.hid hkr
          have HKL := Lib.hid hkl
          clear hwf hkw hkr hkl hp1 hp2 hq1 hq2 hxg hyg hxin hn hcF HNAR hog hcg
          go_wp2_with (first | (refine ld_at rfl (T := 30) rfl rfl (HK7.out.get 0 rfl) Tryz.underlying30 rfl (by kernel_rfl) ?_) | fail)
          refine (HWF.out _ HF7.out).mono ?_
          rintro e w8 ⟨rfl, hb⟩
          have hb' := hb.alloc hb.size (Obj.cells #[.int .i64 p1, .int .i64 p2] 27)
          have HF8 := Lib.hid (HF7.out.below hb')
          have HK8 := Lib.hid (HK7.out.below hb')
          have HB8 := Lib.hid (bthen HB7.out hb')
          clear HF7 HK7 HB7
          have HK8 := Lib.hid (HK8.out.add (Bk.new w8 27 [.int .i64 p1, .int .i64 p2]))
          have HN8 := Lib.hid (HN7.out.below hb')
          have HM8 := Lib.hid (HM7.out.below hb')
          clear hb hb' HN7 HM7
          go_wp2_with (first | (refine ld_at rfl (T := 30) rfl rfl (HM8.out) Tryz.underlying30 rfl (by kernel_rfl) ?_) | fail)
          refine (HKW.out _ HN8.out).mono ?_
          rintro e w9 ⟨rfl, hb⟩
          have hb' := hb.alloc hb.size (Obj.cells #[.int .i64 q1, .int .i64 q2] 27)
          have HF9 := Lib.hid (HF8.out.below hb')
          have HK9 := Lib.hid (HK8.out.below hb')
          have HB9 := Lib.hid (bthen HB8.out hb')
          clear HF8 HK8 HB8
          have HK9 := Lib.hid (HK9.out.add (Bk.new w9 27 [.int .i64 q1, .int .i64 q2]))
          have HN9 := Lib.hid (HN8.out.below hb')
          have HM9 := Lib.hid (HM8.out.below hb')
          clear hb hb' HN8 HM8
          go_wp2_with (first | (refine ld_at rfl (T := 30) rfl rfl (HM9.out) Tryz.underlying30 rfl (by kernel_rfl) ?_) | fail)
          refine (HKR.out _ HN9.out).mono ?_
          rintro e w10 ⟨⟨ua, ub, rfl, hur⟩, hb⟩
          have HUR := Lib.hid hur
          clear hur
          have hb' := hb.alloc hb.size (Obj.cells #[.int .i64 ua, .int .i64 ub] 27)
          have HF10 := Lib.hid (HF9.out.below hb')
          have HK10 := Lib.hid (HK9.out.below hb')
          have HB10 := Lib.hid (bthen HB9.out hb')
          clear HF9 HK9 HB9
          have HK10 := Lib.hid (HK10.out.add (Bk.new w10 27 [.int .i64 ua, .int .i64 ub]))
          have HN10 := Lib.hid (HN9.out.below hb')
          have HM10 := Lib.hid (HM9.out.below hb')
          clear hb hb' HN9 HM9
          go_wp2_with (first | (refine ld_at rfl (T := 30) rfl rfl (HM10.out) Tryz.underlying30 rfl (by kernel_rfl) ?_) | fail)
          refine (HKL.out _ HN10.out).mono ?_
          rintro e w11 ⟨⟨va, vb, rfl, hvr⟩, hb⟩
          have HVR := Lib.hid hvr
          clear hvr
          have hb' := hb.alloc hb.size (Obj.cells #[.int .i64 va, .int .i64 vb] 27)
          have HF11 := Lib.hid (HF10.out.below hb')
          have HK11 := Lib.hid (HK10.out.below hb')
          have HB11 := Lib.hid (bthen HB10.out hb')
          clear HF10 HK10 HB10
          have HK11 := Lib.hid (HK11.out.add (Bk.new w11 27 [.int .i64 va, .int .i64 vb]))
          clear hb hb' HN10 HM10
          have x0 := (HK11.out.get 6 rfl).cell 0
          have x1 := (HK11.out.get 6 rfl).cell 1
          have xl := (HK11.out.get 6 rfl).lt
          have y0 := (HK11.out.get 7 rfl).cell 0
          have y1 := (HK11.out.get 7 rfl).cell 1
          have yl := (HK11.out.get 7 rfl).lt
          simp only [List.getElem?_cons_zero, List.getElem?_cons_succ] at x0 x1 y0 y1
          go_wp2_with fail
          clear x0 x1 xl y0 y1 yl
          refine (inside_any q1 q2 p1 p2 _).mono ?_
          rw [show (decide (p1 ≤ q1) && decide (q2 ≤ p2)) = true by simp [hw1, hw2]]
          rintro e w12 ⟨rfl, hb⟩
          have HF12 := Lib.hid (HF11.out.below hb)
          have HK12 := Lib.hid (HK11.out.below hb)
          have HB12 := Lib.hid (bthen HB11.out hb)
          clear HF11 HK11 HB11
          clear hb hw1 hw2
          have hxs : xc = 0 → (decide (xa ≤ ua) && decide (ub ≤ xb)) = true := fun h => by
            obtain ⟨r1, r2⟩ := HRC.out h
            obtain ⟨r3, r4⟩ := HXR.out h
            obtain ⟨r5, r6⟩ := HUR.out h
            rw [r3, r4, r5, r6]
            simp [r1, r2]
          have hys : yc = 0 → (decide (ya ≤ va) && decide (vb ≤ yb)) = true := fun h => by
            obtain ⟨r1, r2⟩ := HLV.out
            obtain ⟨r3, r4⟩ := HYR.out h
            obtain ⟨r5, r6⟩ := HVR.out h
            rw [r3, r4, r5, r6]
            simp [r1, r2]
          by_cases hx0 : xc = 0
          · have hxs := hxs hx0
            subst hx0
            have x0 := (HK12.out.get 4 rfl).cell 0
            have x1 := (HK12.out.get 4 rfl).cell 1
            have xl := (HK12.out.get 4 rfl).lt
            have y0 := (HK12.out.get 8 rfl).cell 0
            have y1 := (HK12.out.get 8 rfl).cell 1
            have yl := (HK12.out.get 8 rfl).lt
            simp only [List.getElem?_cons_zero, List.getElem?_cons_succ] at x0 x1 y0 y1
            go_wp2_with fail
            clear x0 x1 xl y0 y1 yl
            refine (inside_any ua ub xa xb _).mono ?_
            rw [hxs]
            rintro e w13 ⟨rfl, hb⟩
            have HF13 := Lib.hid (HF12.out.below hb)
            have HK13 := Lib.hid (HK12.out.below hb)
            have HB13 := Lib.hid (bthen HB12.out hb)
            clear HF12 HK12 HB12
            clear hb hxs
            by_cases hy0 : yc = 0
            · have hys := hys hy0
              subst hy0
              have x0 := (HK13.out.get 5 rfl).cell 0
              have x1 := (HK13.out.get 5 rfl).cell 1
              have xl := (HK13.out.get 5 rfl).lt
              have y0 := (HK13.out.get 9 rfl).cell 0
              have y1 := (HK13.out.get 9 rfl).cell 1
              have yl := (HK13.out.get 9 rfl).lt
              simp only [List.getElem?_cons_zero, List.getElem?_cons_succ] at x0 x1 y0 y1
              go_wp2_with fail
              clear x0 x1 xl y0 y1 yl
              refine (inside_any va vb ya yb _).mono ?_
              rw [hys]
              rintro e w14 ⟨rfl, hb⟩
              have HF14 := Lib.hid (HF13.out.below hb)
              have HK14 := Lib.hid (HK13.out.below hb)
              have HB14 := Lib.hid (bthen HB13.out hb)
              clear HF13 HK13 HB13
              clear hb hys
              obtain ⟨wv, hwv⟩ : ∃ c, wcP F n = c := ⟨_, rfl⟩
              have hwo := fun w h => Without_r F (.slice ov vl cv) (.slice os sl cs) n w h
              simp only [WoR, hwv] at hwo
              have hwq : wv = 0 ∧ inB n 0 ((F.s.length : Int) - 1) = true ∨ wv = 1 := by
                rw [← hwv]
                unfold wcP
                rw [if_pos ho]
                cases inB n 0 ((F.s.length : Int) - 1) <;> simp
              clear hwv
              go_wp2_with (first | (refine ld_at rfl (T := 30) rfl rfl (HK14.out.get 0 rfl) Tryz.underlying30 rfl (by kernel_rfl) ?_) | fail)
              refine (hwo _ HF14.out).mono ?_
              rintro e w20 ⟨⟨za, zb, zc, zd, rfl, hin⟩, hb⟩
              have hb' := hb.alloc hb.size (flO (woP F n) (.slice za (woP F n).v.length zb) (.slice zc (woP F n).s.length zd))
              have HF20 := Lib.hid (HF14.out.below hb')
              have HK20 := Lib.hid (HK14.out.below hb')
              have HB20 := Lib.hid (bthen HB14.out hb')
              clear HF14 HK14 HB14
              have HG20 := Lib.hid (hin.alloc (flO (woP F n) (.slice za (woP F n).v.length zb) (.slice zc (woP F n).s.length zd)))
              have HGB := Lib.hid (Bk.new w20 30 (flL (woP F n) (.slice za (woP F n).v.length zb) (.slice zc (woP F n).s.length zd)))
              clear hb hb' hin hwo
              go_wp2_with (first | (refine ld_at rfl (T := 30) rfl rfl (HK20.out.get 0 rfl) Tryz.underlying30 rfl (by kernel_rfl) ?_) | fail)
              refine (Rests_r F _ _ _ HF20.out).mono ?_
              rw [HBE.out]
              rintro e w21 ⟨⟨ra, rb, rc, rfl, hri⟩, hb⟩
              have HF21 := Lib.hid (HF20.out.below hb)
              have HK21 := Lib.hid (HK20.out.below hb)
              have HB21 := Lib.hid (bthen HB20.out hb)
              clear HF20 HK20 HB20
              have HG21 := Lib.hid (HG20.out.below hb)
              have HGB := Lib.hid (HGB.out.below hb)
              have HRI := Lib.hid hri
              clear hb hri HG20
              rcases hwq with ⟨rfl, hin0⟩ | rfl
              · have hcF := rdE_can HBE.out
                have hwp : woP F n = woF F n.toNat := by unfold woP; rw [ho, hin0]; rfl
                have hbw := fun w h => Bounds_p (woP F n) (.slice za (woP F n).v.length zb) (.slice zc (woP F n).s.length zd) w h
                have hrz : rdE (woP F n) true = 0 := by rw [hwp]; exact rdE_0 ((okFl_iff _).2 (okF_wo hO _)) rfl (can_wo hO _ hcF)
                have hcb : n ∈ reP F ↔ boQ (woP F n) ≠ boQ F := by
                  obtain ⟨n0, n1⟩ := inB_t hin0
                  unfold reP
                  rw [if_pos HBE.out, re_mem, hwp]
                  unfold reB
                  rw [decide_eq_true_eq]
                  exact ⟨fun h => h.2.2, fun h => ⟨n0, by omega, h⟩⟩
                obtain ⟨q2, hq2⟩ : ∃ q, boQ (woP F n) = q := ⟨_, rfl⟩
                simp only [hq2, hrz] at hbw
                rw [hq2, HQ.out] at hcb
                obtain ⟨m1, m2, m3, m4⟩ := q2
                simp only [ne_eq, Bo.mk.injEq] at hbw hcb
                have HCB := Lib.hid hcb
                have HBW2 := Lib.hid hbw
                clear hcF hwp hbw hrz hcb hq2 hin0
                go_wp2_with (first | (refine ld_at rfl (T := 30) rfl rfl (HGB.out) Tryz.underlying30 rfl (by kernel_rfl) ?_) | fail)
                refine (HBW2.out _ HG21.out).mono ?_
                rintro e w22 ⟨rfl, hb⟩
                have hb' := (hb.alloc hb.size (Obj.cells #[.int .i64 m1, .int .i64 m2] 41)).alloc (by have := hb.size; simp; omega) (Obj.cells #[.int .i64 m3, .int .i64 m4] 41)
                have hc1 := (Bk.new w22 41 [.int .i64 m1, .int .i64 m2]).alloc (Obj.cells #[.int .i64 m3, .int .i64 m4] 41)
                have hc2 := Bk.new1 w22 (Obj.cells #[.int .i64 m1, .int .i64 m2] 41) 41 [.int .i64 m3, .int .i64 m4]
                obtain ⟨W22, hW22⟩ : ∃ W, (w22.alloc (Obj.cells #[.int .i64 m1, .int .i64 m2] 41)).alloc (Obj.cells #[.int .i64 m3, .int .i64 m4] 41) = W := ⟨_, rfl⟩
                rw [hW22] at hb' hc1 hc2
                have HB22 := Lib.hid (bthen HB21.out hb')
                have hk := HK21.out.below hb'
                have a0 := (hk.get 2 rfl).cell 0
                have a1 := (hk.get 2 rfl).cell 1
                have al := (hk.get 2 rfl).lt
                have b0 := (hk.get 3 rfl).cell 0
                have b1 := (hk.get 3 rfl).cell 1
                have bl := (hk.get 3 rfl).lt
                have c0 := hc1.cell 0
                have c1 := hc1.cell 1
                have cl1 := hc1.lt
                have d0 := hc2.cell 0
                have d1 := hc2.cell 1
                have dl := hc2.lt
                simp only [List.getElem?_cons_zero, List.getElem?_cons_succ] at a0 a1 b0 b1 c0 c1 d0 d1
                have hri2 := HRI.out.below hb'
                have mc := @more_cell W22
                have k1 : ∀ (cb : Bool), (cb = true ↔ n ∈ reP F) → ∀ i : More W22, _ := fun cb h i => more_call (contains_any _ (reP F) n cb i.x (hri2.below i.h) h)
                have K0 := Lib.hid k1
                clear hb hb' hc1 hc2 hk hri2 k1 HG21 HGB HRI HK21 HF21 HB21 HBW2
                by_cases e1 : l1 = m1
                · have q1 : (l1 == m1) = true := by simp [e1]
                  by_cases e2 : l2 = m2
                  · have q2 : (l2 == m2) = true := by simp [e2]
                    by_cases e3 : l3 = m3
                    · have q3 : (l3 == m3) = true := by simp [e3]
                      by_cases e4 : l4 = m4
                      · have q4 : (l4 == m4) = true := by simp [e4]
                        have K1 := Lib.hid (K0.out false (by rw [HCB.out]; simp [e1, e2, e3, e4]))
                        clear e1 e2 e3 e4
                        go_wp2_with fail
                        try rw [hW22]
                        clear hW22 K0
                        refine wp_region_more (by kernel_rfl) (by kernel_rfl) ?_
                        iterate 8 (try (first | go_big_quiet_step ((with_reducible first | exact K1.out _)) | quiet_step ((with_reducible first | exact K1.out _))))
                        iterate 8 (try (first | go_big_quiet_step ((with_reducible first | exact K1.out _)) | quiet_step ((with_reducible first | exact K1.out _))))
                        iterate 8 (try (first | go_big_quiet_step ((with_reducible first | exact K1.out _)) | quiet_step ((with_reducible first | exact K1.out _))))
                        iterate 8 (try (first | go_big_quiet_step ((with_reducible first | exact K1.out _)) | quiet_step ((with_reducible first | exact K1.out _))))
                        iterate 8 (try (first | go_big_quiet_step ((with_reducible first | exact K1.out _)) | quiet_step ((with_reducible first | exact K1.out _))))
                        refine wpQuiet_nil ?_
                        rintro ⟨wm, hbm⟩
                        try dsimp only
                        have HBM := Lib.hid (bthen HB22.out hbm)
                        clear hbm
                        go_wp2_with fail
                        go_ret
                        exact ⟨ret_bool (by simp), HBM.out⟩
                      · have q4 : (l4 == m4) = false := by simp [e4]
                        have K1 := Lib.hid (K0.out true (by rw [HCB.out]; simp [e1, e2, e3, Ne.symm e4]))
                        clear e1 e2 e3 e4
                        go_wp2_with fail
                        try rw [hW22]
                        clear hW22 K0
                        refine wp_region_more (by kernel_rfl) (by kernel_rfl) ?_
                        iterate 8 (try (first | go_big_quiet_step ((with_reducible first | exact K1.out _)) | quiet_step ((with_reducible first | exact K1.out _))))
                        iterate 8 (try (first | go_big_quiet_step ((with_reducible first | exact K1.out _)) | quiet_step ((with_reducible first | exact K1.out _))))
                        iterate 8 (try (first | go_big_quiet_step ((with_reducible first | exact K1.out _)) | quiet_step ((with_reducible first | exact K1.out _))))
                        iterate 8 (try (first | go_big_quiet_step ((with_reducible first | exact K1.out _)) | quiet_step ((with_reducible first | exact K1.out _))))
                        iterate 8 (try (first | go_big_quiet_step ((with_reducible first | exact K1.out _)) | quiet_step ((with_reducible first | exact K1.out _))))
                        refine wpQuiet_nil ?_
                        rintro ⟨wm, hbm⟩
                        try dsimp only
                        have HBM := Lib.hid (bthen HB22.out hbm)
                        clear hbm
                        go_wp2_with fail
                        go_ret
                        exact ⟨ret_bool (by simp), HBM.out⟩
                    · have q3 : (l3 == m3) = false := by simp [e3]
                      have K1 := Lib.hid (K0.out true (by rw [HCB.out]; simp [e1, e2, Ne.symm e3]))
                      clear e1 e2 e3
                      go_wp2_with fail
                      try rw [hW22]
                      clear hW22 K0
                      refine wp_region_more (by kernel_rfl) (by kernel_rfl) ?_
                      iterate 8 (try (first | go_big_quiet_step ((with_reducible first | exact K1.out _)) | quiet_step ((with_reducible first | exact K1.out _))))
                      iterate 8 (try (first | go_big_quiet_step ((with_reducible first | exact K1.out _)) | quiet_step ((with_reducible first | exact K1.out _))))
                      iterate 8 (try (first | go_big_quiet_step ((with_reducible first | exact K1.out _)) | quiet_step ((with_reducible first | exact K1.out _))))
                      iterate 8 (try (first | go_big_quiet_step ((with_reducible first | exact K1.out _)) | quiet_step ((with_reducible first | exact K1.out _))))
                      iterate 8 (try (first | go_big_quiet_step ((with_reducible first | exact K1.out _)) | quiet_step ((with_reducible first | exact K1.out _))))
                      refine wpQuiet_nil ?_
                      rintro ⟨wm, hbm⟩
                      try dsimp only
                      have HBM := Lib.hid (bthen HB22.out hbm)
                      clear hbm
                      go_wp2_with fail
                      go_ret
                      exact ⟨ret_bool (by simp), HBM.out⟩
                  · have q2 : (l2 == m2) = false := by simp [e2]
                    have K1 := Lib.hid (K0.out true (by rw [HCB.out]; simp [e1, Ne.symm e2]))
                    clear e1 e2
                    go_wp2_with fail
                    try rw [hW22]
                    clear hW22 K0
                    refine wp_region_more (by kernel_rfl) (by kernel_rfl) ?_
                    iterate 8 (try (first | go_big_quiet_step ((with_reducible first | exact K1.out _)) | quiet_step ((with_reducible first | exact K1.out _))))
                    iterate 8 (try (first | go_big_quiet_step ((with_reducible first | exact K1.out _)) | quiet_step ((with_reducible first | exact K1.out _))))
                    iterate 8 (try (first | go_big_quiet_step ((with_reducible first | exact K1.out _)) | quiet_step ((with_reducible first | exact K1.out _))))
                    iterate 8 (try (first | go_big_quiet_step ((with_reducible first | exact K1.out _)) | quiet_step ((with_reducible first | exact K1.out _))))
                    iterate 8 (try (first | go_big_quiet_step ((with_reducible first | exact K1.out _)) | quiet_step ((with_reducible first | exact K1.out _))))
                    refine wpQuiet_nil ?_
                    rintro ⟨wm, hbm⟩
                    try dsimp only
                    have HBM := Lib.hid (bthen HB22.out hbm)
                    clear hbm
                    go_wp2_with fail
                    go_ret
                    exact ⟨ret_bool (by simp), HBM.out⟩
                · have q1 : (l1 == m1) = false := by simp [e1]
                  have K1 := Lib.hid (K0.out true (by rw [HCB.out]; simp [Ne.symm e1]))
                  clear e1
                  go_wp2_with fail
                  try rw [hW22]
                  clear hW22 K0
                  refine wp_region_more (by kernel_rfl) (by kernel_rfl) ?_
                  iterate 8 (try (first | go_big_quiet_step ((with_reducible first | exact K1.out _)) | quiet_step ((with_reducible first | exact K1.out _))))
                  iterate 8 (try (first | go_big_quiet_step ((with_reducible first | exact K1.out _)) | quiet_step ((with_reducible first | exact K1.out _))))
                  iterate 8 (try (first | go_big_quiet_step ((with_reducible first | exact K1.out _)) | quiet_step ((with_reducible first | exact K1.out _))))
                  iterate 8 (try (first | go_big_quiet_step ((with_reducible first | exact K1.out _)) | quiet_step ((with_reducible first | exact K1.out _))))
                  iterate 8 (try (first | go_big_quiet_step ((with_reducible first | exact K1.out _)) | quiet_step ((with_reducible first | exact K1.out _))))
                  refine wpQuiet_nil ?_
                  rintro ⟨wm, hbm⟩
                  try dsimp only
                  have HBM := Lib.hid (bthen HB22.out hbm)
                  clear hbm
                  go_wp2_with fail
                  go_ret
                  exact ⟨ret_bool (by simp), HBM.out⟩
              · go_wp2_with fail
                go_ret
                exact ⟨ret_bool (by simp), HB21.out⟩
              all_goals trivial
            · have hyn : (yc == 0) = false := by simpa using hy0
              clear hy0 hys
              obtain ⟨wv, hwv⟩ : ∃ c, wcP F n = c := ⟨_, rfl⟩
              have hwo := fun w h => Without_r F (.slice ov vl cv) (.slice os sl cs) n w h
              simp only [WoR, hwv] at hwo
              have hwq : wv = 0 ∧ inB n 0 ((F.s.length : Int) - 1) = true ∨ wv = 1 := by
                rw [← hwv]
                unfold wcP
                rw [if_pos ho]
                cases inB n 0 ((F.s.length : Int) - 1) <;> simp
              clear hwv
              go_wp2_with (first | (refine ld_at rfl (T := 30) rfl rfl (HK13.out.get 0 rfl) Tryz.underlying30 rfl (by kernel_rfl) ?_) | fail)
              refine (hwo _ HF13.out).mono ?_
              rintro e w20 ⟨⟨za, zb, zc, zd, rfl, hin⟩, hb⟩
              have hb' := hb.alloc hb.size (flO (woP F n) (.slice za (woP F n).v.length zb) (.slice zc (woP F n).s.length zd))
              have HF20 := Lib.hid (HF13.out.below hb')
              have HK20 := Lib.hid (HK13.out.below hb')
              have HB20 := Lib.hid (bthen HB13.out hb')
              clear HF13 HK13 HB13
              have HG20 := Lib.hid (hin.alloc (flO (woP F n) (.slice za (woP F n).v.length zb) (.slice zc (woP F n).s.length zd)))
              have HGB := Lib.hid (Bk.new w20 30 (flL (woP F n) (.slice za (woP F n).v.length zb) (.slice zc (woP F n).s.length zd)))
              clear hb hb' hin hwo
              go_wp2_with (first | (refine ld_at rfl (T := 30) rfl rfl (HK20.out.get 0 rfl) Tryz.underlying30 rfl (by kernel_rfl) ?_) | fail)
              refine (Rests_r F _ _ _ HF20.out).mono ?_
              rw [HBE.out]
              rintro e w21 ⟨⟨ra, rb, rc, rfl, hri⟩, hb⟩
              have HF21 := Lib.hid (HF20.out.below hb)
              have HK21 := Lib.hid (HK20.out.below hb)
              have HB21 := Lib.hid (bthen HB20.out hb)
              clear HF20 HK20 HB20
              have HG21 := Lib.hid (HG20.out.below hb)
              have HGB := Lib.hid (HGB.out.below hb)
              have HRI := Lib.hid hri
              clear hb hri HG20
              rcases hwq with ⟨rfl, hin0⟩ | rfl
              · have hcF := rdE_can HBE.out
                have hwp : woP F n = woF F n.toNat := by unfold woP; rw [ho, hin0]; rfl
                have hbw := fun w h => Bounds_p (woP F n) (.slice za (woP F n).v.length zb) (.slice zc (woP F n).s.length zd) w h
                have hrz : rdE (woP F n) true = 0 := by rw [hwp]; exact rdE_0 ((okFl_iff _).2 (okF_wo hO _)) rfl (can_wo hO _ hcF)
                have hcb : n ∈ reP F ↔ boQ (woP F n) ≠ boQ F := by
                  obtain ⟨n0, n1⟩ := inB_t hin0
                  unfold reP
                  rw [if_pos HBE.out, re_mem, hwp]
                  unfold reB
                  rw [decide_eq_true_eq]
                  exact ⟨fun h => h.2.2, fun h => ⟨n0, by omega, h⟩⟩
                obtain ⟨q2, hq2⟩ : ∃ q, boQ (woP F n) = q := ⟨_, rfl⟩
                simp only [hq2, hrz] at hbw
                rw [hq2, HQ.out] at hcb
                obtain ⟨m1, m2, m3, m4⟩ := q2
                simp only [ne_eq, Bo.mk.injEq] at hbw hcb
                have HCB := Lib.hid hcb
                have HBW2 := Lib.hid hbw
                clear hcF hwp hbw hrz hcb hq2 hin0
                go_wp2_with (first | (refine ld_at rfl (T := 30) rfl rfl (HGB.out) Tryz.underlying30 rfl (by kernel_rfl) ?_) | fail)
                refine (HBW2.out _ HG21.out).mono ?_
                rintro e w22 ⟨rfl, hb⟩
                have hb' := (hb.alloc hb.size (Obj.cells #[.int .i64 m1, .int .i64 m2] 41)).alloc (by have := hb.size; simp; omega) (Obj.cells #[.int .i64 m3, .int .i64 m4] 41)
                have hc1 := (Bk.new w22 41 [.int .i64 m1, .int .i64 m2]).alloc (Obj.cells #[.int .i64 m3, .int .i64 m4] 41)
                have hc2 := Bk.new1 w22 (Obj.cells #[.int .i64 m1, .int .i64 m2] 41) 41 [.int .i64 m3, .int .i64 m4]
                obtain ⟨W22, hW22⟩ : ∃ W, (w22.alloc (Obj.cells #[.int .i64 m1, .int .i64 m2] 41)).alloc (Obj.cells #[.int .i64 m3, .int .i64 m4] 41) = W := ⟨_, rfl⟩
                rw [hW22] at hb' hc1 hc2
                have HB22 := Lib.hid (bthen HB21.out hb')
                have hk := HK21.out.below hb'
                have a0 := (hk.get 2 rfl).cell 0
                have a1 := (hk.get 2 rfl).cell 1
                have al := (hk.get 2 rfl).lt
                have b0 := (hk.get 3 rfl).cell 0
                have b1 := (hk.get 3 rfl).cell 1
                have bl := (hk.get 3 rfl).lt
                have c0 := hc1.cell 0
                have c1 := hc1.cell 1
                have cl1 := hc1.lt
                have d0 := hc2.cell 0
                have d1 := hc2.cell 1
                have dl := hc2.lt
                simp only [List.getElem?_cons_zero, List.getElem?_cons_succ] at a0 a1 b0 b1 c0 c1 d0 d1
                have hri2 := HRI.out.below hb'
                have mc := @more_cell W22
                have k1 : ∀ (cb : Bool), (cb = true ↔ n ∈ reP F) → ∀ i : More W22, _ := fun cb h i => more_call (contains_any _ (reP F) n cb i.x (hri2.below i.h) h)
                have K0 := Lib.hid k1
                clear hb hb' hc1 hc2 hk hri2 k1 HG21 HGB HRI HK21 HF21 HB21 HBW2
                by_cases e1 : l1 = m1
                · have q1 : (l1 == m1) = true := by simp [e1]
                  by_cases e2 : l2 = m2
                  · have q2 : (l2 == m2) = true := by simp [e2]
                    by_cases e3 : l3 = m3
                    · have q3 : (l3 == m3) = true := by simp [e3]
                      by_cases e4 : l4 = m4
                      · have q4 : (l4 == m4) = true := by simp [e4]
                        have K1 := Lib.hid (K0.out false (by rw [HCB.out]; simp [e1, e2, e3, e4]))
                        clear e1 e2 e3 e4
                        go_wp2_with fail
                        try rw [hW22]
                        clear hW22 K0
                        refine wp_region_more (by kernel_rfl) (by kernel_rfl) ?_
                        iterate 8 (try (first | go_big_quiet_step ((with_reducible first | exact K1.out _)) | quiet_step ((with_reducible first | exact K1.out _))))
                        iterate 8 (try (first | go_big_quiet_step ((with_reducible first | exact K1.out _)) | quiet_step ((with_reducible first | exact K1.out _))))
                        iterate 8 (try (first | go_big_quiet_step ((with_reducible first | exact K1.out _)) | quiet_step ((with_reducible first | exact K1.out _))))
                        iterate 8 (try (first | go_big_quiet_step ((with_reducible first | exact K1.out _)) | quiet_step ((with_reducible first | exact K1.out _))))
                        iterate 8 (try (first | go_big_quiet_step ((with_reducible first | exact K1.out _)) | quiet_step ((with_reducible first | exact K1.out _))))
                        refine wpQuiet_nil ?_
                        rintro ⟨wm, hbm⟩
                        try dsimp only
                        have HBM := Lib.hid (bthen HB22.out hbm)
                        clear hbm
                        go_wp2_with fail
                        go_ret
                        exact ⟨ret_bool (by simp), HBM.out⟩
                      · have q4 : (l4 == m4) = false := by simp [e4]
                        have K1 := Lib.hid (K0.out true (by rw [HCB.out]; simp [e1, e2, e3, Ne.symm e4]))
                        clear e1 e2 e3 e4
                        go_wp2_with fail
                        try rw [hW22]
                        clear hW22 K0
                        refine wp_region_more (by kernel_rfl) (by kernel_rfl) ?_
                        iterate 8 (try (first | go_big_quiet_step ((with_reducible first | exact K1.out _)) | quiet_step ((with_reducible first | exact K1.out _))))
                        iterate 8 (try (first | go_big_quiet_step ((with_reducible first | exact K1.out _)) | quiet_step ((with_reducible first | exact K1.out _))))
                        iterate 8 (try (first | go_big_quiet_step ((with_reducible first | exact K1.out _)) | quiet_step ((with_reducible first | exact K1.out _))))
                        iterate 8 (try (first | go_big_quiet_step ((with_reducible first | exact K1.out _)) | quiet_step ((with_reducible first | exact K1.out _))))
                        iterate 8 (try (first | go_big_quiet_step ((with_reducible first | exact K1.out _)) | quiet_step ((with_reducible first | exact K1.out _))))
                        refine wpQuiet_nil ?_
                        rintro ⟨wm, hbm⟩
                        try dsimp only
                        have HBM := Lib.hid (bthen HB22.out hbm)
                        clear hbm
                        go_wp2_with fail
                        go_ret
                        exact ⟨ret_bool (by simp), HBM.out⟩
                    · have q3 : (l3 == m3) = false := by simp [e3]
                      have K1 := Lib.hid (K0.out true (by rw [HCB.out]; simp [e1, e2, Ne.symm e3]))
                      clear e1 e2 e3
                      go_wp2_with fail
                      try rw [hW22]
                      clear hW22 K0
                      refine wp_region_more (by kernel_rfl) (by kernel_rfl) ?_
                      iterate 8 (try (first | go_big_quiet_step ((with_reducible first | exact K1.out _)) | quiet_step ((with_reducible first | exact K1.out _))))
                      iterate 8 (try (first | go_big_quiet_step ((with_reducible first | exact K1.out _)) | quiet_step ((with_reducible first | exact K1.out _))))
                      iterate 8 (try (first | go_big_quiet_step ((with_reducible first | exact K1.out _)) | quiet_step ((with_reducible first | exact K1.out _))))
                      iterate 8 (try (first | go_big_quiet_step ((with_reducible first | exact K1.out _)) | quiet_step ((with_reducible first | exact K1.out _))))
                      iterate 8 (try (first | go_big_quiet_step ((with_reducible first | exact K1.out _)) | quiet_step ((with_reducible first | exact K1.out _))))
                      refine wpQuiet_nil ?_
                      rintro ⟨wm, hbm⟩
                      try dsimp only
                      have HBM := Lib.hid (bthen HB22.out hbm)
                      clear hbm
                      go_wp2_with fail
                      go_ret
                      exact ⟨ret_bool (by simp), HBM.out⟩
                  · have q2 : (l2 == m2) = false := by simp [e2]
                    have K1 := Lib.hid (K0.out true (by rw [HCB.out]; simp [e1, Ne.symm e2]))
                    clear e1 e2
                    go_wp2_with fail
                    try rw [hW22]
                    clear hW22 K0
                    refine wp_region_more (by kernel_rfl) (by kernel_rfl) ?_
                    iterate 8 (try (first | go_big_quiet_step ((with_reducible first | exact K1.out _)) | quiet_step ((with_reducible first | exact K1.out _))))
                    iterate 8 (try (first | go_big_quiet_step ((with_reducible first | exact K1.out _)) | quiet_step ((with_reducible first | exact K1.out _))))
                    iterate 8 (try (first | go_big_quiet_step ((with_reducible first | exact K1.out _)) | quiet_step ((with_reducible first | exact K1.out _))))
                    iterate 8 (try (first | go_big_quiet_step ((with_reducible first | exact K1.out _)) | quiet_step ((with_reducible first | exact K1.out _))))
                    iterate 8 (try (first | go_big_quiet_step ((with_reducible first | exact K1.out _)) | quiet_step ((with_reducible first | exact K1.out _))))
                    refine wpQuiet_nil ?_
                    rintro ⟨wm, hbm⟩
                    try dsimp only
                    have HBM := Lib.hid (bthen HB22.out hbm)
                    clear hbm
                    go_wp2_with fail
                    go_ret
                    exact ⟨ret_bool (by simp), HBM.out⟩
                · have q1 : (l1 == m1) = false := by simp [e1]
                  have K1 := Lib.hid (K0.out true (by rw [HCB.out]; simp [Ne.symm e1]))
                  clear e1
                  go_wp2_with fail
                  try rw [hW22]
                  clear hW22 K0
                  refine wp_region_more (by kernel_rfl) (by kernel_rfl) ?_
                  iterate 8 (try (first | go_big_quiet_step ((with_reducible first | exact K1.out _)) | quiet_step ((with_reducible first | exact K1.out _))))
                  iterate 8 (try (first | go_big_quiet_step ((with_reducible first | exact K1.out _)) | quiet_step ((with_reducible first | exact K1.out _))))
                  iterate 8 (try (first | go_big_quiet_step ((with_reducible first | exact K1.out _)) | quiet_step ((with_reducible first | exact K1.out _))))
                  iterate 8 (try (first | go_big_quiet_step ((with_reducible first | exact K1.out _)) | quiet_step ((with_reducible first | exact K1.out _))))
                  iterate 8 (try (first | go_big_quiet_step ((with_reducible first | exact K1.out _)) | quiet_step ((with_reducible first | exact K1.out _))))
                  refine wpQuiet_nil ?_
                  rintro ⟨wm, hbm⟩
                  try dsimp only
                  have HBM := Lib.hid (bthen HB22.out hbm)
                  clear hbm
                  go_wp2_with fail
                  go_ret
                  exact ⟨ret_bool (by simp), HBM.out⟩
              · go_wp2_with fail
                go_ret
                exact ⟨ret_bool (by simp), HB21.out⟩
            all_goals trivial
          · have hxn : (xc == 0) = false := by simpa using hx0
            clear hx0 hxs
            by_cases hy0 : yc = 0
            · have hys := hys hy0
              subst hy0
              have x0 := (HK12.out.get 5 rfl).cell 0
              have x1 := (HK12.out.get 5 rfl).cell 1
              have xl := (HK12.out.get 5 rfl).lt
              have y0 := (HK12.out.get 9 rfl).cell 0
              have y1 := (HK12.out.get 9 rfl).cell 1
              have yl := (HK12.out.get 9 rfl).lt
              simp only [List.getElem?_cons_zero, List.getElem?_cons_succ] at x0 x1 y0 y1
              go_wp2_with fail
              clear x0 x1 xl y0 y1 yl
              refine (inside_any va vb ya yb _).mono ?_
              rw [hys]
              rintro e w14 ⟨rfl, hb⟩
              have HF14 := Lib.hid (HF12.out.below hb)
              have HK14 := Lib.hid (HK12.out.below hb)
              have HB14 := Lib.hid (bthen HB12.out hb)
              clear HF12 HK12 HB12
              clear hb hys
              obtain ⟨wv, hwv⟩ : ∃ c, wcP F n = c := ⟨_, rfl⟩
              have hwo := fun w h => Without_r F (.slice ov vl cv) (.slice os sl cs) n w h
              simp only [WoR, hwv] at hwo
              have hwq : wv = 0 ∧ inB n 0 ((F.s.length : Int) - 1) = true ∨ wv = 1 := by
                rw [← hwv]
                unfold wcP
                rw [if_pos ho]
                cases inB n 0 ((F.s.length : Int) - 1) <;> simp
              clear hwv
              go_wp2_with (first | (refine ld_at rfl (T := 30) rfl rfl (HK14.out.get 0 rfl) Tryz.underlying30 rfl (by kernel_rfl) ?_) | fail)
              refine (hwo _ HF14.out).mono ?_
              rintro e w20 ⟨⟨za, zb, zc, zd, rfl, hin⟩, hb⟩
              have hb' := hb.alloc hb.size (flO (woP F n) (.slice za (woP F n).v.length zb) (.slice zc (woP F n).s.length zd))
              have HF20 := Lib.hid (HF14.out.below hb')
              have HK20 := Lib.hid (HK14.out.below hb')
              have HB20 := Lib.hid (bthen HB14.out hb')
              clear HF14 HK14 HB14
              have HG20 := Lib.hid (hin.alloc (flO (woP F n) (.slice za (woP F n).v.length zb) (.slice zc (woP F n).s.length zd)))
              have HGB := Lib.hid (Bk.new w20 30 (flL (woP F n) (.slice za (woP F n).v.length zb) (.slice zc (woP F n).s.length zd)))
              clear hb hb' hin hwo
              go_wp2_with (first | (refine ld_at rfl (T := 30) rfl rfl (HK20.out.get 0 rfl) Tryz.underlying30 rfl (by kernel_rfl) ?_) | fail)
              refine (Rests_r F _ _ _ HF20.out).mono ?_
              rw [HBE.out]
              rintro e w21 ⟨⟨ra, rb, rc, rfl, hri⟩, hb⟩
              have HF21 := Lib.hid (HF20.out.below hb)
              have HK21 := Lib.hid (HK20.out.below hb)
              have HB21 := Lib.hid (bthen HB20.out hb)
              clear HF20 HK20 HB20
              have HG21 := Lib.hid (HG20.out.below hb)
              have HGB := Lib.hid (HGB.out.below hb)
              have HRI := Lib.hid hri
              clear hb hri HG20
              rcases hwq with ⟨rfl, hin0⟩ | rfl
              · have hcF := rdE_can HBE.out
                have hwp : woP F n = woF F n.toNat := by unfold woP; rw [ho, hin0]; rfl
                have hbw := fun w h => Bounds_p (woP F n) (.slice za (woP F n).v.length zb) (.slice zc (woP F n).s.length zd) w h
                have hrz : rdE (woP F n) true = 0 := by rw [hwp]; exact rdE_0 ((okFl_iff _).2 (okF_wo hO _)) rfl (can_wo hO _ hcF)
                have hcb : n ∈ reP F ↔ boQ (woP F n) ≠ boQ F := by
                  obtain ⟨n0, n1⟩ := inB_t hin0
                  unfold reP
                  rw [if_pos HBE.out, re_mem, hwp]
                  unfold reB
                  rw [decide_eq_true_eq]
                  exact ⟨fun h => h.2.2, fun h => ⟨n0, by omega, h⟩⟩
                obtain ⟨q2, hq2⟩ : ∃ q, boQ (woP F n) = q := ⟨_, rfl⟩
                simp only [hq2, hrz] at hbw
                rw [hq2, HQ.out] at hcb
                obtain ⟨m1, m2, m3, m4⟩ := q2
                simp only [ne_eq, Bo.mk.injEq] at hbw hcb
                have HCB := Lib.hid hcb
                have HBW2 := Lib.hid hbw
                clear hcF hwp hbw hrz hcb hq2 hin0
                go_wp2_with (first | (refine ld_at rfl (T := 30) rfl rfl (HGB.out) Tryz.underlying30 rfl (by kernel_rfl) ?_) | fail)
                refine (HBW2.out _ HG21.out).mono ?_
                rintro e w22 ⟨rfl, hb⟩
                have hb' := (hb.alloc hb.size (Obj.cells #[.int .i64 m1, .int .i64 m2] 41)).alloc (by have := hb.size; simp; omega) (Obj.cells #[.int .i64 m3, .int .i64 m4] 41)
                have hc1 := (Bk.new w22 41 [.int .i64 m1, .int .i64 m2]).alloc (Obj.cells #[.int .i64 m3, .int .i64 m4] 41)
                have hc2 := Bk.new1 w22 (Obj.cells #[.int .i64 m1, .int .i64 m2] 41) 41 [.int .i64 m3, .int .i64 m4]
                obtain ⟨W22, hW22⟩ : ∃ W, (w22.alloc (Obj.cells #[.int .i64 m1, .int .i64 m2] 41)).alloc (Obj.cells #[.int .i64 m3, .int .i64 m4] 41) = W := ⟨_, rfl⟩
                rw [hW22] at hb' hc1 hc2
                have HB22 := Lib.hid (bthen HB21.out hb')
                have hk := HK21.out.below hb'
                have a0 := (hk.get 2 rfl).cell 0
                have a1 := (hk.get 2 rfl).cell 1
                have al := (hk.get 2 rfl).lt
                have b0 := (hk.get 3 rfl).cell 0
                have b1 := (hk.get 3 rfl).cell 1
                have bl := (hk.get 3 rfl).lt
                have c0 := hc1.cell 0
                have c1 := hc1.cell 1
                have cl1 := hc1.lt
                have d0 := hc2.cell 0
                have d1 := hc2.cell 1
                have dl := hc2.lt
                simp only [List.getElem?_cons_zero, List.getElem?_cons_succ] at a0 a1 b0 b1 c0 c1 d0 d1
                have hri2 := HRI.out.below hb'
                have mc := @more_cell W22
                have k1 : ∀ (cb : Bool), (cb = true ↔ n ∈ reP F) → ∀ i : More W22, _ := fun cb h i => more_call (contains_any _ (reP F) n cb i.x (hri2.below i.h) h)
                have K0 := Lib.hid k1
                clear hb hb' hc1 hc2 hk hri2 k1 HG21 HGB HRI HK21 HF21 HB21 HBW2
                by_cases e1 : l1 = m1
                · have q1 : (l1 == m1) = true := by simp [e1]
                  by_cases e2 : l2 = m2
                  · have q2 : (l2 == m2) = true := by simp [e2]
                    by_cases e3 : l3 = m3
                    · have q3 : (l3 == m3) = true := by simp [e3]
                      by_cases e4 : l4 = m4
                      · have q4 : (l4 == m4) = true := by simp [e4]
                        have K1 := Lib.hid (K0.out false (by rw [HCB.out]; simp [e1, e2, e3, e4]))
                        clear e1 e2 e3 e4
                        go_wp2_with fail
                        try rw [hW22]
                        clear hW22 K0
                        refine wp_region_more (by kernel_rfl) (by kernel_rfl) ?_
                        iterate 8 (try (first | go_big_quiet_step ((with_reducible first | exact K1.out _)) | quiet_step ((with_reducible first | exact K1.out _))))
                        iterate 8 (try (first | go_big_quiet_step ((with_reducible first | exact K1.out _)) | quiet_step ((with_reducible first | exact K1.out _))))
                        iterate 8 (try (first | go_big_quiet_step ((with_reducible first | exact K1.out _)) | quiet_step ((with_reducible first | exact K1.out _))))
                        iterate 8 (try (first | go_big_quiet_step ((with_reducible first | exact K1.out _)) | quiet_step ((with_reducible first | exact K1.out _))))
                        iterate 8 (try (first | go_big_quiet_step ((with_reducible first | exact K1.out _)) | quiet_step ((with_reducible first | exact K1.out _))))
                        refine wpQuiet_nil ?_
                        rintro ⟨wm, hbm⟩
                        try dsimp only
                        have HBM := Lib.hid (bthen HB22.out hbm)
                        clear hbm
                        go_wp2_with fail
                        go_ret
                        exact ⟨ret_bool (by simp), HBM.out⟩
                      · have q4 : (l4 == m4) = false := by simp [e4]
                        have K1 := Lib.hid (K0.out true (by rw [HCB.out]; simp [e1, e2, e3, Ne.symm e4]))
                        clear e1 e2 e3 e4
                        go_wp2_with fail
                        try rw [hW22]
                        clear hW22 K0
                        refine wp_region_more (by kernel_rfl) (by kernel_rfl) ?_
                        iterate 8 (try (first | go_big_quiet_step ((with_reducible first | exact K1.out _)) | quiet_step ((with_reducible first | exact K1.out _))))
                        iterate 8 (try (first | go_big_quiet_step ((with_reducible first | exact K1.out _)) | quiet_step ((with_reducible first | exact K1.out _))))
                        iterate 8 (try (first | go_big_quiet_step ((with_reducible first | exact K1.out _)) | quiet_step ((with_reducible first | exact K1.out _))))
                        iterate 8 (try (first | go_big_quiet_step ((with_reducible first | exact K1.out _)) | quiet_step ((with_reducible first | exact K1.out _))))
                        iterate 8 (try (first | go_big_quiet_step ((with_reducible first | exact K1.out _)) | quiet_step ((with_reducible first | exact K1.out _))))
                        refine wpQuiet_nil ?_
                        rintro ⟨wm, hbm⟩
                        try dsimp only
                        have HBM := Lib.hid (bthen HB22.out hbm)
                        clear hbm
                        go_wp2_with fail
                        go_ret
                        exact ⟨ret_bool (by simp), HBM.out⟩
                    · have q3 : (l3 == m3) = false := by simp [e3]
                      have K1 := Lib.hid (K0.out true (by rw [HCB.out]; simp [e1, e2, Ne.symm e3]))
                      clear e1 e2 e3
                      go_wp2_with fail
                      try rw [hW22]
                      clear hW22 K0
                      refine wp_region_more (by kernel_rfl) (by kernel_rfl) ?_
                      iterate 8 (try (first | go_big_quiet_step ((with_reducible first | exact K1.out _)) | quiet_step ((with_reducible first | exact K1.out _))))
                      iterate 8 (try (first | go_big_quiet_step ((with_reducible first | exact K1.out _)) | quiet_step ((with_reducible first | exact K1.out _))))
                      iterate 8 (try (first | go_big_quiet_step ((with_reducible first | exact K1.out _)) | quiet_step ((with_reducible first | exact K1.out _))))
                      iterate 8 (try (first | go_big_quiet_step ((with_reducible first | exact K1.out _)) | quiet_step ((with_reducible first | exact K1.out _))))
                      iterate 8 (try (first | go_big_quiet_step ((with_reducible first | exact K1.out _)) | quiet_step ((with_reducible first | exact K1.out _))))
                      refine wpQuiet_nil ?_
                      rintro ⟨wm, hbm⟩
                      try dsimp only
                      have HBM := Lib.hid (bthen HB22.out hbm)
                      clear hbm
                      go_wp2_with fail
                      go_ret
                      exact ⟨ret_bool (by simp), HBM.out⟩
                  · have q2 : (l2 == m2) = false := by simp [e2]
                    have K1 := Lib.hid (K0.out true (by rw [HCB.out]; simp [e1, Ne.symm e2]))
                    clear e1 e2
                    go_wp2_with fail
                    try rw [hW22]
                    clear hW22 K0
                    refine wp_region_more (by kernel_rfl) (by kernel_rfl) ?_
                    iterate 8 (try (first | go_big_quiet_step ((with_reducible first | exact K1.out _)) | quiet_step ((with_reducible first | exact K1.out _))))
                    iterate 8 (try (first | go_big_quiet_step ((with_reducible first | exact K1.out _)) | quiet_step ((with_reducible first | exact K1.out _))))
                    iterate 8 (try (first | go_big_quiet_step ((with_reducible first | exact K1.out _)) | quiet_step ((with_reducible first | exact K1.out _))))
                    iterate 8 (try (first | go_big_quiet_step ((with_reducible first | exact K1.out _)) | quiet_step ((with_reducible first | exact K1.out _))))
                    iterate 8 (try (first | go_big_quiet_step ((with_reducible first | exact K1.out _)) | quiet_step ((with_reducible first | exact K1.out _))))
                    refine wpQuiet_nil ?_
                    rintro ⟨wm, hbm⟩
                    try dsimp only
                    have HBM := Lib.hid (bthen HB22.out hbm)
                    clear hbm
                    go_wp2_with fail
                    go_ret
                    exact ⟨ret_bool (by simp), HBM.out⟩
                · have q1 : (l1 == m1) = false := by simp [e1]
                  have K1 := Lib.hid (K0.out true (by rw [HCB.out]; simp [Ne.symm e1]))
                  clear e1
                  go_wp2_with fail
                  try rw [hW22]
                  clear hW22 K0
                  refine wp_region_more (by kernel_rfl) (by kernel_rfl) ?_
                  iterate 8 (try (first | go_big_quiet_step ((with_reducible first | exact K1.out _)) | quiet_step ((with_reducible first | exact K1.out _))))
                  iterate 8 (try (first | go_big_quiet_step ((with_reducible first | exact K1.out _)) | quiet_step ((with_reducible first | exact K1.out _))))
                  iterate 8 (try (first | go_big_quiet_step ((with_reducible first | exact K1.out _)) | quiet_step ((with_reducible first | exact K1.out _))))
                  iterate 8 (try (first | go_big_quiet_step ((with_reducible first | exact K1.out _)) | quiet_step ((with_reducible first | exact K1.out _))))
                  iterate 8 (try (first | go_big_quiet_step ((with_reducible first | exact K1.out _)) | quiet_step ((with_reducible first | exact K1.out _))))
                  refine wpQuiet_nil ?_
                  rintro ⟨wm, hbm⟩
                  try dsimp only
                  have HBM := Lib.hid (bthen HB22.out hbm)
                  clear hbm
                  go_wp2_with fail
                  go_ret
                  exact ⟨ret_bool (by simp), HBM.out⟩
              · go_wp2_with fail
                go_ret
                exact ⟨ret_bool (by simp), HB21.out⟩
              all_goals trivial
            · have hyn : (yc == 0) = false := by simpa using hy0
              clear hy0 hys
              obtain ⟨wv, hwv⟩ : ∃ c, wcP F n = c := ⟨_, rfl⟩
              have hwo := fun w h => Without_r F (.slice ov vl cv) (.slice os sl cs) n w h
              simp only [WoR, hwv] at hwo
              have hwq : wv = 0 ∧ inB n 0 ((F.s.length : Int) - 1) = true ∨ wv = 1 := by
                rw [← hwv]
                unfold wcP
                rw [if_pos ho]
                cases inB n 0 ((F.s.length : Int) - 1) <;> simp
              clear hwv
              go_wp2_with (first | (refine ld_at rfl (T := 30) rfl rfl (HK12.out.get 0 rfl) Tryz.underlying30 rfl (by kernel_rfl) ?_) | fail)
              refine (hwo _ HF12.out).mono ?_
              rintro e w20 ⟨⟨za, zb, zc, zd, rfl, hin⟩, hb⟩
              have hb' := hb.alloc hb.size (flO (woP F n) (.slice za (woP F n).v.length zb) (.slice zc (woP F n).s.length zd))
              have HF20 := Lib.hid (HF12.out.below hb')
              have HK20 := Lib.hid (HK12.out.below hb')
              have HB20 := Lib.hid (bthen HB12.out hb')
              clear HF12 HK12 HB12
              have HG20 := Lib.hid (hin.alloc (flO (woP F n) (.slice za (woP F n).v.length zb) (.slice zc (woP F n).s.length zd)))
              have HGB := Lib.hid (Bk.new w20 30 (flL (woP F n) (.slice za (woP F n).v.length zb) (.slice zc (woP F n).s.length zd)))
              clear hb hb' hin hwo
              go_wp2_with (first | (refine ld_at rfl (T := 30) rfl rfl (HK20.out.get 0 rfl) Tryz.underlying30 rfl (by kernel_rfl) ?_) | fail)
              refine (Rests_r F _ _ _ HF20.out).mono ?_
              rw [HBE.out]
              rintro e w21 ⟨⟨ra, rb, rc, rfl, hri⟩, hb⟩
              have HF21 := Lib.hid (HF20.out.below hb)
              have HK21 := Lib.hid (HK20.out.below hb)
              have HB21 := Lib.hid (bthen HB20.out hb)
              clear HF20 HK20 HB20
              have HG21 := Lib.hid (HG20.out.below hb)
              have HGB := Lib.hid (HGB.out.below hb)
              have HRI := Lib.hid hri
              clear hb hri HG20
              rcases hwq with ⟨rfl, hin0⟩ | rfl
              · have hcF := rdE_can HBE.out
                have hwp : woP F n = woF F n.toNat := by unfold woP; rw [ho, hin0]; rfl
                have hbw := fun w h => Bounds_p (woP F n) (.slice za (woP F n).v.length zb) (.slice zc (woP F n).s.length zd) w h
                have hrz : rdE (woP F n) true = 0 := by rw [hwp]; exact rdE_0 ((okFl_iff _).2 (okF_wo hO _)) rfl (can_wo hO _ hcF)
                have hcb : n ∈ reP F ↔ boQ (woP F n) ≠ boQ F := by
                  obtain ⟨n0, n1⟩ := inB_t hin0
                  unfold reP
                  rw [if_pos HBE.out, re_mem, hwp]
                  unfold reB
                  rw [decide_eq_true_eq]
                  exact ⟨fun h => h.2.2, fun h => ⟨n0, by omega, h⟩⟩
                obtain ⟨q2, hq2⟩ : ∃ q, boQ (woP F n) = q := ⟨_, rfl⟩
                simp only [hq2, hrz] at hbw
                rw [hq2, HQ.out] at hcb
                obtain ⟨m1, m2, m3, m4⟩ := q2
                simp only [ne_eq, Bo.mk.injEq] at hbw hcb
                have HCB := Lib.hid hcb
                have HBW2 := Lib.hid hbw
                clear hcF hwp hbw hrz hcb hq2 hin0
                go_wp2_with (first | (refine ld_at rfl (T := 30) rfl rfl (HGB.out) Tryz.underlying30 rfl (by kernel_rfl) ?_) | fail)
                refine (HBW2.out _ HG21.out).mono ?_
                rintro e w22 ⟨rfl, hb⟩
                have hb' := (hb.alloc hb.size (Obj.cells #[.int .i64 m1, .int .i64 m2] 41)).alloc (by have := hb.size; simp; omega) (Obj.cells #[.int .i64 m3, .int .i64 m4] 41)
                have hc1 := (Bk.new w22 41 [.int .i64 m1, .int .i64 m2]).alloc (Obj.cells #[.int .i64 m3, .int .i64 m4] 41)
                have hc2 := Bk.new1 w22 (Obj.cells #[.int .i64 m1, .int .i64 m2] 41) 41 [.int .i64 m3, .int .i64 m4]
                obtain ⟨W22, hW22⟩ : ∃ W, (w22.alloc (Obj.cells #[.int .i64 m1, .int .i64 m2] 41)).alloc (Obj.cells #[.int .i64 m3, .int .i64 m4] 41) = W := ⟨_, rfl⟩
                rw [hW22] at hb' hc1 hc2
                have HB22 := Lib.hid (bthen HB21.out hb')
                have hk := HK21.out.below hb'
                have a0 := (hk.get 2 rfl).cell 0
                have a1 := (hk.get 2 rfl).cell 1
                have al := (hk.get 2 rfl).lt
                have b0 := (hk.get 3 rfl).cell 0
                have b1 := (hk.get 3 rfl).cell 1
                have bl := (hk.get 3 rfl).lt
                have c0 := hc1.cell 0
                have c1 := hc1.cell 1
                have cl1 := hc1.lt
                have d0 := hc2.cell 0
                have d1 := hc2.cell 1
                have dl := hc2.lt
                simp only [List.getElem?_cons_zero, List.getElem?_cons_succ] at a0 a1 b0 b1 c0 c1 d0 d1
                have hri2 := HRI.out.below hb'
                have mc := @more_cell W22
                have k1 : ∀ (cb : Bool), (cb = true ↔ n ∈ reP F) → ∀ i : More W22, _ := fun cb h i => more_call (contains_any _ (reP F) n cb i.x (hri2.below i.h) h)
                have K0 := Lib.hid k1
                clear hb hb' hc1 hc2 hk hri2 k1 HG21 HGB HRI HK21 HF21 HB21 HBW2
                by_cases e1 : l1 = m1
                · have q1 : (l1 == m1) = true := by simp [e1]
                  by_cases e2 : l2 = m2
                  · have q2 : (l2 == m2) = true := by simp [e2]
                    by_cases e3 : l3 = m3
                    · have q3 : (l3 == m3) = true := by simp [e3]
                      by_cases e4 : l4 = m4
                      · have q4 : (l4 == m4) = true := by simp [e4]
                        have K1 := Lib.hid (K0.out false (by rw [HCB.out]; simp [e1, e2, e3, e4]))
                        clear e1 e2 e3 e4
                        go_wp2_with fail
                        try rw [hW22]
                        clear hW22 K0
                        refine wp_region_more (by kernel_rfl) (by kernel_rfl) ?_
                        iterate 8 (try (first | go_big_quiet_step ((with_reducible first | exact K1.out _)) | quiet_step ((with_reducible first | exact K1.out _))))
                        iterate 8 (try (first | go_big_quiet_step ((with_reducible first | exact K1.out _)) | quiet_step ((with_reducible first | exact K1.out _))))
                        iterate 8 (try (first | go_big_quiet_step ((with_reducible first | exact K1.out _)) | quiet_step ((with_reducible first | exact K1.out _))))
                        iterate 8 (try (first | go_big_quiet_step ((with_reducible first | exact K1.out _)) | quiet_step ((with_reducible first | exact K1.out _))))
                        iterate 8 (try (first | go_big_quiet_step ((with_reducible first | exact K1.out _)) | quiet_step ((with_reducible first | exact K1.out _))))
                        refine wpQuiet_nil ?_
                        rintro ⟨wm, hbm⟩
                        try dsimp only
                        have HBM := Lib.hid (bthen HB22.out hbm)
                        clear hbm
                        go_wp2_with fail
                        go_ret
                        exact ⟨ret_bool (by simp), HBM.out⟩
                      · have q4 : (l4 == m4) = false := by simp [e4]
                        have K1 := Lib.hid (K0.out true (by rw [HCB.out]; simp [e1, e2, e3, Ne.symm e4]))
                        clear e1 e2 e3 e4
                        go_wp2_with fail
                        try rw [hW22]
                        clear hW22 K0
                        refine wp_region_more (by kernel_rfl) (by kernel_rfl) ?_
                        iterate 8 (try (first | go_big_quiet_step ((with_reducible first | exact K1.out _)) | quiet_step ((with_reducible first | exact K1.out _))))
                        iterate 8 (try (first | go_big_quiet_step ((with_reducible first | exact K1.out _)) | quiet_step ((with_reducible first | exact K1.out _))))
                        iterate 8 (try (first | go_big_quiet_step ((with_reducible first | exact K1.out _)) | quiet_step ((with_reducible first | exact K1.out _))))
                        iterate 8 (try (first | go_big_quiet_step ((with_reducible first | exact K1.out _)) | quiet_step ((with_reducible first | exact K1.out _))))
                        iterate 8 (try (first | go_big_quiet_step ((with_reducible first | exact K1.out _)) | quiet_step ((with_reducible first | exact K1.out _))))
                        refine wpQuiet_nil ?_
                        rintro ⟨wm, hbm⟩
                        try dsimp only
                        have HBM := Lib.hid (bthen HB22.out hbm)
                        clear hbm
                        go_wp2_with fail
                        go_ret
                        exact ⟨ret_bool (by simp), HBM.out⟩
                    · have q3 : (l3 == m3) = false := by simp [e3]
                      have K1 := Lib.hid (K0.out true (by rw [HCB.out]; simp [e1, e2, Ne.symm e3]))
                      clear e1 e2 e3
                      go_wp2_with fail
                      try rw [hW22]
                      clear hW22 K0
                      refine wp_region_more (by kernel_rfl) (by kernel_rfl) ?_
                      iterate 8 (try (first | go_big_quiet_step ((with_reducible first | exact K1.out _)) | quiet_step ((with_reducible first | exact K1.out _))))
                      iterate 8 (try (first | go_big_quiet_step ((with_reducible first | exact K1.out _)) | quiet_step ((with_reducible first | exact K1.out _))))
                      iterate 8 (try (first | go_big_quiet_step ((with_reducible first | exact K1.out _)) | quiet_step ((with_reducible first | exact K1.out _))))
                      iterate 8 (try (first | go_big_quiet_step ((with_reducible first | exact K1.out _)) | quiet_step ((with_reducible first | exact K1.out _))))
                      iterate 8 (try (first | go_big_quiet_step ((with_reducible first | exact K1.out _)) | quiet_step ((with_reducible first | exact K1.out _))))
                      refine wpQuiet_nil ?_
                      rintro ⟨wm, hbm⟩
                      try dsimp only
                      have HBM := Lib.hid (bthen HB22.out hbm)
                      clear hbm
                      go_wp2_with fail
                      go_ret
                      exact ⟨ret_bool (by simp), HBM.out⟩
                  · have q2 : (l2 == m2) = false := by simp [e2]
                    have K1 := Lib.hid (K0.out true (by rw [HCB.out]; simp [e1, Ne.symm e2]))
                    clear e1 e2
                    go_wp2_with fail
                    try rw [hW22]
                    clear hW22 K0
                    refine wp_region_more (by kernel_rfl) (by kernel_rfl) ?_
                    iterate 8 (try (first | go_big_quiet_step ((with_reducible first | exact K1.out _)) | quiet_step ((with_reducible first | exact K1.out _))))
                    iterate 8 (try (first | go_big_quiet_step ((with_reducible first | exact K1.out _)) | quiet_step ((with_reducible first | exact K1.out _))))
                    iterate 8 (try (first | go_big_quiet_step ((with_reducible first | exact K1.out _)) | quiet_step ((with_reducible first | exact K1.out _))))
                    iterate 8 (try (first | go_big_quiet_step ((with_reducible first | exact K1.out _)) | quiet_step ((with_reducible first | exact K1.out _))))
                    iterate 8 (try (first | go_big_quiet_step ((with_reducible first | exact K1.out _)) | quiet_step ((with_reducible first | exact K1.out _))))
                    refine wpQuiet_nil ?_
                    rintro ⟨wm, hbm⟩
                    try dsimp only
                    have HBM := Lib.hid (bthen HB22.out hbm)
                    clear hbm
                    go_wp2_with fail
                    go_ret
                    exact ⟨ret_bool (by simp), HBM.out⟩
                · have q1 : (l1 == m1) = false := by simp [e1]
                  have K1 := Lib.hid (K0.out true (by rw [HCB.out]; simp [Ne.symm e1]))
                  clear e1
                  go_wp2_with fail
                  try rw [hW22]
                  clear hW22 K0
                  refine wp_region_more (by kernel_rfl) (by kernel_rfl) ?_
                  iterate 8 (try (first | go_big_quiet_step ((with_reducible first | exact K1.out _)) | quiet_step ((with_reducible first | exact K1.out _))))
                  iterate 8 (try (first | go_big_quiet_step ((with_reducible first | exact K1.out _)) | quiet_step ((with_reducible first | exact K1.out _))))
                  iterate 8 (try (first | go_big_quiet_step ((with_reducible first | exact K1.out _)) | quiet_step ((with_reducible first | exact K1.out _))))
                  iterate 8 (try (first | go_big_quiet_step ((with_reducible first | exact K1.out _)) | quiet_step ((with_reducible first | exact K1.out _))))
                  iterate 8 (try (first | go_big_quiet_step ((with_reducible first | exact K1.out _)) | quiet_step ((with_reducible first | exact K1.out _))))
                  refine wpQuiet_nil ?_
                  rintro ⟨wm, hbm⟩
                  try dsimp only
                  have HBM := Lib.hid (bthen HB22.out hbm)
                  clear hbm
                  go_wp2_with fail
                  go_ret
                  exact ⟨ret_bool (by simp), HBM.out⟩
              · go_wp2_with fail
                go_ret
                exact ⟨ret_bool (by simp), HB21.out⟩
        · rw [hpf] at hkp
          rcases hz with h | h
          all_goals
            rw [h] at hkp
            refine (hkp _ HN6.out).mono ?_
            rintro e w7 ⟨rfl, hb⟩
            have HF7 := Lib.hid (HF6.out.below hb)
            have HK7 := Lib.hid (HK6.out.below hb)
            have HB7 := Lib.hid (bthen HB6.out hb)
            clear HF6 HK6 HB6
            clear hb hkp HN6 HM6 HKW HKR HKL HNAR h hpf
            obtain ⟨wv, hwv⟩ : ∃ c, wcP F n = c := ⟨_, rfl⟩
            have hwo := fun w h => Without_r F (.slice ov vl cv) (.slice os sl cs) n w h
            simp only [WoR, hwv] at hwo
            have hwq : wv = 0 ∧ inB n 0 ((F.s.length : Int) - 1) = true ∨ wv = 1 := by
              rw [← hwv]
              unfold wcP
              rw [if_pos ho]
              cases inB n 0 ((F.s.length : Int) - 1) <;> simp
            clear hwv
            go_wp2_with (first | (refine ld_at rfl (T := 30) rfl rfl (HK7.out.get 0 rfl) Tryz.underlying30 rfl (by kernel_rfl) ?_) | fail)
            refine (hwo _ HF7.out).mono ?_
            rintro e w20 ⟨⟨za, zb, zc, zd, rfl, hin⟩, hb⟩
            have hb' := hb.alloc hb.size (flO (woP F n) (.slice za (woP F n).v.length zb) (.slice zc (woP F n).s.length zd))
            have HF20 := Lib.hid (HF7.out.below hb')
            have HK20 := Lib.hid (HK7.out.below hb')
            have HB20 := Lib.hid (bthen HB7.out hb')
            clear HF7 HK7 HB7
            have HG20 := Lib.hid (hin.alloc (flO (woP F n) (.slice za (woP F n).v.length zb) (.slice zc (woP F n).s.length zd)))
            have HGB := Lib.hid (Bk.new w20 30 (flL (woP F n) (.slice za (woP F n).v.length zb) (.slice zc (woP F n).s.length zd)))
            clear hb hb' hin hwo
            go_wp2_with (first | (refine ld_at rfl (T := 30) rfl rfl (HK20.out.get 0 rfl) Tryz.underlying30 rfl (by kernel_rfl) ?_) | fail)
            refine (Rests_r F _ _ _ HF20.out).mono ?_
            rw [HBE.out]
            rintro e w21 ⟨⟨ra, rb, rc, rfl, hri⟩, hb⟩
            have HF21 := Lib.hid (HF20.out.below hb)
            have HK21 := Lib.hid (HK20.out.below hb)
            have HB21 := Lib.hid (bthen HB20.out hb)
            clear HF20 HK20 HB20
            have HG21 := Lib.hid (HG20.out.below hb)
            have HGB := Lib.hid (HGB.out.below hb)
            have HRI := Lib.hid hri
            clear hb hri HG20
            rcases hwq with ⟨rfl, hin0⟩ | rfl
            · by_cases hbz : be = 0
              · subst hbz
                have hcF := rdE_can HBE.out
                have hwp : woP F n = woF F n.toNat := by unfold woP; rw [ho, hin0]; rfl
                have hbw := fun w h => Bounds_p (woP F n) (.slice za (woP F n).v.length zb) (.slice zc (woP F n).s.length zd) w h
                have hrz : rdE (woP F n) true = 0 := by rw [hwp]; exact rdE_0 ((okFl_iff _).2 (okF_wo hO _)) rfl (can_wo hO _ hcF)
                have hcb : n ∈ reP F ↔ boQ (woP F n) ≠ boQ F := by
                  obtain ⟨n0, n1⟩ := inB_t hin0
                  unfold reP
                  rw [if_pos HBE.out, re_mem, hwp]
                  unfold reB
                  rw [decide_eq_true_eq]
                  exact ⟨fun h => h.2.2, fun h => ⟨n0, by omega, h⟩⟩
                obtain ⟨q2, hq2⟩ : ∃ q, boQ (woP F n) = q := ⟨_, rfl⟩
                simp only [hq2, hrz] at hbw
                rw [hq2, HQ.out] at hcb
                obtain ⟨m1, m2, m3, m4⟩ := q2
                simp only [ne_eq, Bo.mk.injEq] at hbw hcb
                have HCB := Lib.hid hcb
                have HBW2 := Lib.hid hbw
                clear hcF hwp hbw hrz hcb hq2 hin0
                go_wp2_with (first | (refine ld_at rfl (T := 30) rfl rfl (HGB.out) Tryz.underlying30 rfl (by kernel_rfl) ?_) | fail)
                refine (HBW2.out _ HG21.out).mono ?_
                rintro e w22 ⟨rfl, hb⟩
                have hb' := (hb.alloc hb.size (Obj.cells #[.int .i64 m1, .int .i64 m2] 41)).alloc (by have := hb.size; simp; omega) (Obj.cells #[.int .i64 m3, .int .i64 m4] 41)
                have hc1 := (Bk.new w22 41 [.int .i64 m1, .int .i64 m2]).alloc (Obj.cells #[.int .i64 m3, .int .i64 m4] 41)
                have hc2 := Bk.new1 w22 (Obj.cells #[.int .i64 m1, .int .i64 m2] 41) 41 [.int .i64 m3, .int .i64 m4]
                obtain ⟨W22, hW22⟩ : ∃ W, (w22.alloc (Obj.cells #[.int .i64 m1, .int .i64 m2] 41)).alloc (Obj.cells #[.int .i64 m3, .int .i64 m4] 41) = W := ⟨_, rfl⟩
                rw [hW22] at hb' hc1 hc2
                have HB22 := Lib.hid (bthen HB21.out hb')
                have hk := HK21.out.below hb'
                have a0 := (hk.get 2 rfl).cell 0
                have a1 := (hk.get 2 rfl).cell 1
                have al := (hk.get 2 rfl).lt
                have b0 := (hk.get 3 rfl).cell 0
                have b1 := (hk.get 3 rfl).cell 1
                have bl := (hk.get 3 rfl).lt
                have c0 := hc1.cell 0
                have c1 := hc1.cell 1
                have cl1 := hc1.lt
                have d0 := hc2.cell 0
                have d1 := hc2.cell 1
                have dl := hc2.lt
                simp only [List.getElem?_cons_zero, List.getElem?_cons_succ] at a0 a1 b0 b1 c0 c1 d0 d1
                have hri2 := HRI.out.below hb'
                have mc := @more_cell W22
                have k1 : ∀ (cb : Bool), (cb = true ↔ n ∈ reP F) → ∀ i : More W22, _ := fun cb h i => more_call (contains_any _ (reP F) n cb i.x (hri2.below i.h) h)
                have K0 := Lib.hid k1
                clear hb hb' hc1 hc2 hk hri2 k1 HG21 HGB HRI HK21 HF21 HB21 HBW2
                by_cases e1 : l1 = m1
                · have q1 : (l1 == m1) = true := by simp [e1]
                  by_cases e2 : l2 = m2
                  · have q2 : (l2 == m2) = true := by simp [e2]
                    by_cases e3 : l3 = m3
                    · have q3 : (l3 == m3) = true := by simp [e3]
                      by_cases e4 : l4 = m4
                      · have q4 : (l4 == m4) = true := by simp [e4]
                        have K1 := Lib.hid (K0.out false (by rw [HCB.out]; simp [e1, e2, e3, e4]))
                        clear e1 e2 e3 e4
                        go_wp2_with fail
                        try rw [hW22]
                        clear hW22 K0
                        refine wp_region_more (by kernel_rfl) (by kernel_rfl) ?_
                        iterate 8 (try (first | go_big_quiet_step ((with_reducible first | exact K1.out _)) | quiet_step ((with_reducible first | exact K1.out _))))
                        iterate 8 (try (first | go_big_quiet_step ((with_reducible first | exact K1.out _)) | quiet_step ((with_reducible first | exact K1.out _))))
                        iterate 8 (try (first | go_big_quiet_step ((with_reducible first | exact K1.out _)) | quiet_step ((with_reducible first | exact K1.out _))))
                        iterate 8 (try (first | go_big_quiet_step ((with_reducible first | exact K1.out _)) | quiet_step ((with_reducible first | exact K1.out _))))
                        iterate 8 (try (first | go_big_quiet_step ((with_reducible first | exact K1.out _)) | quiet_step ((with_reducible first | exact K1.out _))))
                        refine wpQuiet_nil ?_
                        rintro ⟨wm, hbm⟩
                        try dsimp only
                        have HBM := Lib.hid (bthen HB22.out hbm)
                        clear hbm
                        go_wp2_with fail
                        go_ret
                        exact ⟨ret_bool (by simp), HBM.out⟩
                      · have q4 : (l4 == m4) = false := by simp [e4]
                        have K1 := Lib.hid (K0.out true (by rw [HCB.out]; simp [e1, e2, e3, Ne.symm e4]))
                        clear e1 e2 e3 e4
                        go_wp2_with fail
                        try rw [hW22]
                        clear hW22 K0
                        refine wp_region_more (by kernel_rfl) (by kernel_rfl) ?_
                        iterate 8 (try (first | go_big_quiet_step ((with_reducible first | exact K1.out _)) | quiet_step ((with_reducible first | exact K1.out _))))
                        iterate 8 (try (first | go_big_quiet_step ((with_reducible first | exact K1.out _)) | quiet_step ((with_reducible first | exact K1.out _))))
                        iterate 8 (try (first | go_big_quiet_step ((with_reducible first | exact K1.out _)) | quiet_step ((with_reducible first | exact K1.out _))))
                        iterate 8 (try (first | go_big_quiet_step ((with_reducible first | exact K1.out _)) | quiet_step ((with_reducible first | exact K1.out _))))
                        iterate 8 (try (first | go_big_quiet_step ((with_reducible first | exact K1.out _)) | quiet_step ((with_reducible first | exact K1.out _))))
                        refine wpQuiet_nil ?_
                        rintro ⟨wm, hbm⟩
                        try dsimp only
                        have HBM := Lib.hid (bthen HB22.out hbm)
                        clear hbm
                        go_wp2_with fail
                        go_ret
                        exact ⟨ret_bool (by simp), HBM.out⟩
                    · have q3 : (l3 == m3) = false := by simp [e3]
                      have K1 := Lib.hid (K0.out true (by rw [HCB.out]; simp [e1, e2, Ne.symm e3]))
                      clear e1 e2 e3
                      go_wp2_with fail
                      try rw [hW22]
                      clear hW22 K0
                      refine wp_region_more (by kernel_rfl) (by kernel_rfl) ?_
                      iterate 8 (try (first | go_big_quiet_step ((with_reducible first | exact K1.out _)) | quiet_step ((with_reducible first | exact K1.out _))))
                      iterate 8 (try (first | go_big_quiet_step ((with_reducible first | exact K1.out _)) | quiet_step ((with_reducible first | exact K1.out _))))
                      iterate 8 (try (first | go_big_quiet_step ((with_reducible first | exact K1.out _)) | quiet_step ((with_reducible first | exact K1.out _))))
                      iterate 8 (try (first | go_big_quiet_step ((with_reducible first | exact K1.out _)) | quiet_step ((with_reducible first | exact K1.out _))))
                      iterate 8 (try (first | go_big_quiet_step ((with_reducible first | exact K1.out _)) | quiet_step ((with_reducible first | exact K1.out _))))
                      refine wpQuiet_nil ?_
                      rintro ⟨wm, hbm⟩
                      try dsimp only
                      have HBM := Lib.hid (bthen HB22.out hbm)
                      clear hbm
                      go_wp2_with fail
                      go_ret
                      exact ⟨ret_bool (by simp), HBM.out⟩
                  · have q2 : (l2 == m2) = false := by simp [e2]
                    have K1 := Lib.hid (K0.out true (by rw [HCB.out]; simp [e1, Ne.symm e2]))
                    clear e1 e2
                    go_wp2_with fail
                    try rw [hW22]
                    clear hW22 K0
                    refine wp_region_more (by kernel_rfl) (by kernel_rfl) ?_
                    iterate 8 (try (first | go_big_quiet_step ((with_reducible first | exact K1.out _)) | quiet_step ((with_reducible first | exact K1.out _))))
                    iterate 8 (try (first | go_big_quiet_step ((with_reducible first | exact K1.out _)) | quiet_step ((with_reducible first | exact K1.out _))))
                    iterate 8 (try (first | go_big_quiet_step ((with_reducible first | exact K1.out _)) | quiet_step ((with_reducible first | exact K1.out _))))
                    iterate 8 (try (first | go_big_quiet_step ((with_reducible first | exact K1.out _)) | quiet_step ((with_reducible first | exact K1.out _))))
                    iterate 8 (try (first | go_big_quiet_step ((with_reducible first | exact K1.out _)) | quiet_step ((with_reducible first | exact K1.out _))))
                    refine wpQuiet_nil ?_
                    rintro ⟨wm, hbm⟩
                    try dsimp only
                    have HBM := Lib.hid (bthen HB22.out hbm)
                    clear hbm
                    go_wp2_with fail
                    go_ret
                    exact ⟨ret_bool (by simp), HBM.out⟩
                · have q1 : (l1 == m1) = false := by simp [e1]
                  have K1 := Lib.hid (K0.out true (by rw [HCB.out]; simp [Ne.symm e1]))
                  clear e1
                  go_wp2_with fail
                  try rw [hW22]
                  clear hW22 K0
                  refine wp_region_more (by kernel_rfl) (by kernel_rfl) ?_
                  iterate 8 (try (first | go_big_quiet_step ((with_reducible first | exact K1.out _)) | quiet_step ((with_reducible first | exact K1.out _))))
                  iterate 8 (try (first | go_big_quiet_step ((with_reducible first | exact K1.out _)) | quiet_step ((with_reducible first | exact K1.out _))))
                  iterate 8 (try (first | go_big_quiet_step ((with_reducible first | exact K1.out _)) | quiet_step ((with_reducible first | exact K1.out _))))
                  iterate 8 (try (first | go_big_quiet_step ((with_reducible first | exact K1.out _)) | quiet_step ((with_reducible first | exact K1.out _))))
                  iterate 8 (try (first | go_big_quiet_step ((with_reducible first | exact K1.out _)) | quiet_step ((with_reducible first | exact K1.out _))))
                  refine wpQuiet_nil ?_
                  rintro ⟨wm, hbm⟩
                  try dsimp only
                  have HBM := Lib.hid (bthen HB22.out hbm)
                  clear hbm
                  go_wp2_with fail
                  go_ret
                  exact ⟨ret_bool (by simp), HBM.out⟩
              · have hne : (be == 0) = false := by simpa using hbz
                clear hbz
                go_wp2_with fail
                go_ret
                exact ⟨ret_bool (by simp), HB21.out⟩
            · go_wp2_with fail
              go_ret
              exact ⟨ret_bool (by simp), HB21.out⟩
    · go_wp2_with fail
      go_ret
      exact ⟨rfl, HB2.out⟩
end Go.Proofs.YtnfndiafabhhdaaGreat
