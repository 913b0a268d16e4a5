/- With Wear narrowed to a wear within Bounds a case is possible, with one outside none is (WearNarrow): the walk. -/
import Derived.Test.YtnfndiafabhhdaaGreatF3
import Derived.Test.YtnfndiafabhhdaaGreatA5
import Derived.Test.YtnfndiafabhhdaaGreatD1
import Derived.Test.YtnfndiafabhhdaaGreatF2
import Derived.Test.YtnfndiafabhhdaaGreatE9
import Derived.Deep.CutRange
namespace Go.Proofs.YtnfndiafabhhdaaGreat
open Go.ChangeShapes Go.WideShapes Go.ChangeAt Go.RowKit
theorem Check_c (F : Fl) (vv vs : Value) (c : Int) (w : World) (hF : FlIn w F vv vs) (hc : chkF F = c) : Calls Tryz.prog 37 #[flV F vv vs] w fun e w' => e = .returned (.int .i64 c) ∧ Below w.heap.size w w' := by
  rw [← hc]; exact Check_any F vv vs w hF
theorem Possible_c (F : Fl) (vv vs : Value) (b : Bool) (w : World) (hF : FlIn w F vv vs) (ho : okFl F = true) (hc : canI F (allL F) = b) : Calls Tryz.prog 35 #[flV F vv vs] w fun e w' => e = .returned (.tuple #[.bool b, .int .i64 0]) ∧ Below w.heap.size w w' := by
  have := Possible_any F vv vs w hF
  rw [ho, hc, Bool.true_and] at this
  unfold chkF at this
  rwa [if_pos ho] at this
theorem Bounds_no (F : Fl) (vv vs : Value) (w : World) (hF : FlIn w F vv vs) (ho : okFl F = true) (hc : canI F (allL F) = false) : Calls Tryz.prog 32 #[flV F vv vs] w fun e w' => e = .returned (.tuple #[raZ, raZ, .int .i64 31]) ∧ Below w.heap.size w w' := by
  have h := Bounds_any F vv vs w hF
  have e : rdE F true = 31 := by unfold rdE; rw [if_pos ho, if_pos rfl, if_neg (by rw [hc]; decide)]
  unfold boV at h
  rwa [if_neg (by rw [e]; decide), e] at h
theorem Bounds_yes (F : Fl) (vv vs : Value) (w : World) (a1 a2 b1 b2 : Int) (hF : FlIn w F vv vs) (ho : okFl F = true) (hc : canI F (allL F) = true) (h1 : lowN1 (1000 * (solvedW F (allL F)).hi.d) (solvedW F (allL F)).hi.n = a1) (h2 : lowN2 (1000 * (solvedW F (allL F)).hi.d) (solvedW F (allL F)).hi.n = a2)
    (h3 : lowN1 (1000 * (solvedW F (allL F)).lo.d) (solvedW F (allL F)).lo.n = b1) (h4 : lowN2 (1000 * (solvedW F (allL F)).lo.d) (solvedW F (allL F)).lo.n = b2) : Calls Tryz.prog 32 #[flV F vv vs] w fun e w' => e = .returned (.tuple #[.agg #[.int .i64 a1, .int .i64 a2], .agg #[.int .i64 b1, .int .i64 b2], .int .i64 0]) ∧ Below w.heap.size w w' := by
  have h := Bounds_any F vv vs w hF
  have e : rdE F true = 0 := by unfold rdE; rw [if_pos ho, if_pos rfl, if_pos hc]
  unfold boV at h
  rw [if_pos e, knR_eq hc] at h
  subst h1 h2 h3 h4
  exact h
theorem bounds_bd {F : Fl} (h : OkF F) (hc : canI F (allL F) = true) : (1 ≤ lowN2 (1000 * (solvedW F (allL F)).hi.d) (solvedW F (allL F)).hi.n ∧ lowN2 (1000 * (solvedW F (allL F)).hi.d) (solvedW F (allL F)).hi.n ≤ 480000000000) ∧ (1 ≤ lowN2 (1000 * (solvedW F (allL F)).lo.d) (solvedW F (allL F)).lo.n ∧ lowN2 (1000 * (solvedW F (allL F)).lo.d) (solvedW F (allL F)).lo.n ≤ 480000000000) := by
  have b := knR_B h
  rw [knR_eq hc] at b
  have h1 := lowN_bd (n := 1000 * (solvedW F (allL F)).hi.d) (d := (solvedW F (allL F)).hi.n) (by have := b.d0; omega) b.c0
  have h2 := lowN_bd (n := 1000 * (solvedW F (allL F)).lo.d) (d := (solvedW F (allL F)).lo.n) (by have := b.b0; omega) b.a0
  have := b.c1
  have := b.a1
  omega
set_option maxRecDepth 100000 in
set_option maxHeartbeats 4000000 in
theorem law_narrow (F : Fl) (vv vs : Value) (n : Int) (w : World) (hF : FlIn w F vv vs) (n1 : -9223372036854775808 ≤ n) (n2 : n ≤ 9223372036854775807) : Calls Tryz.prog 7 #[flV F vv vs, .int .i64 n] w fun e w' => e = .returned (.bool true) ∧ Below w.heap.size w w' := by
  obtain ⟨os, cs, rfl, ms⟩ := hF.s.parts
  obtain ⟨ov, cv, rfl, mv⟩ := hF.v.parts
  obtain ⟨sl, hsl⟩ : ∃ k, F.s.length = k := ⟨_, rfl⟩
  obtain ⟨vl, hvl⟩ : ∃ k, F.v.length = k := ⟨_, rfl⟩
  rw [hsl] at hF ms ⊢
  rw [hvl] at hF mv ⊢
  have HSL := Lib.hid hsl
  have HVL := Lib.hid hvl
  clear hsl hvl
  have HF := Lib.hid (hF.alloc (flO F (.slice ov vl cv) (.slice os sl cs)))
  have BP := Lib.hid (Bk.new w 30 (flL F (.slice ov vl cv) (.slice os sl cs)))
  clear hF
  go_enter Tryz.func7, Tryz.ntmps7
  go_wp2_with fail
  refine (sane_any _).mono ?_
  rintro e w1 ⟨rfl, hb⟩
  have HF1 := Lib.hid (HF.out.below hb)
  have BP1 := Lib.hid (BP.out.below hb)
  have HB1 := Lib.hid (bafter hb)
  clear hb HF BP
  go_wp2_with (first | (refine ld_at rfl (T := 30) rfl rfl BP1.out Tryz.underlying30 rfl (by kernel_rfl) ?_) | fail)
  by_cases hok : okFl F = true
  · have hO := (okFl_iff F).1 hok
    refine (Check_c F _ _ 0 w1 HF1.out (by unfold chkF; rw [if_pos hok])).mono ?_
    rintro e w2 ⟨rfl, hb⟩
    have HF2 := Lib.hid (HF1.out.below hb)
    have BP2 := Lib.hid (BP1.out.below hb)
    have HB2 := Lib.hid (bthen HB1.out hb)
    clear hb HF1 BP1 HB1
    have c3 := BP2.out.cell 3
    have c4 := BP2.out.cell 4
    simp only [List.getElem?_cons_zero, List.getElem?_cons_succ] at c3 c4
    by_cases h1 : n < F.wlo
    · go_wp2_with fail
      go_ret
      exact ⟨rfl, HB2.out⟩
    · by_cases h2 : n > F.whi
      · go_wp2_with fail
        go_ret
        exact ⟨rfl, HB2.out⟩
      · have hw1 : F.wlo ≤ n := by omega
        have hw2 : n ≤ F.whi := by omega
        have n0 : 0 < n := by have := hO.w1; omega
        have n4 : n ≤ 4000 := by have := hO.w3; omega
        have hG := okF_nar hO hw1 hw2
        have hGo := (okFl_iff _).2 hG
        have hall : allL (narF F n) = allL F := rfl
        have hmem : -2 ∈ allL F := by exact allI_mem.2 (by omega)
        have hnar := nar_can hO hw1 hw2 (fun i hi => (allL_ok F i hi).2) hmem
        go_wp2_with (first | (refine ld_at rfl (T := 30) rfl rfl BP2.out Tryz.underlying30 rfl (by kernel_rfl) ?_) | fail)
        cases hc : canI F (allL F) with
        | false =>
          have hn2 : canI (narF F n) (allL (narF F n)) = false := by
            cases hx : canI (narF F n) (allL F) with
            | false => rw [hall]; exact hx
            | true =>
              have := has_can hO (fun i hi => (allL_ok F i hi).2) n0 (hnar.1 hx)
              rw [hc] at this
              cases this
          refine (Bounds_no F _ _ w2 HF2.out hok hc).mono ?_
          rintro e w3 ⟨rfl, hb⟩
          have HF3 := Lib.hid (HF2.out.below hb)
          have BP3 := Lib.hid (BP2.out.below hb)
          have HB3 := Lib.hid (bthen HB2.out hb)
          have HGO := Lib.hid hGo
          have HN2 := Lib.hid hn2
          clear hb HF2 BP2 HB2 c3 c4 hO hG hGo hall hmem hnar hn2 hc hok
          have y0 := BP3.out.cell 0
          have y1 := BP3.out.cell 1
          have y2 := BP3.out.cell 2
          have y3 := BP3.out.cell 3
          have y4 := BP3.out.cell 4
          have y5 := BP3.out.cell 5
          have yl := BP3.out.lt
          simp only [List.getElem?_cons_zero, List.getElem?_cons_succ] at y0 y1 y2 y3 y4 y5
          go_wp2_with fail
          have hF4 : FlIn _ (narF F n) (.slice ov vl cv) (.slice os sl cs) := FlIn.mk ((((HF3.out.v.alloc raO).alloc raO).alloc (Obj.cells #[.slice ov vl cv, .int .i64 F.f.lv, .int .i64 F.f.er, .int .i64 n, .int .i64 n, .slice os sl cs] 30))) ((((HF3.out.s.alloc raO).alloc raO).alloc (Obj.cells #[.slice ov vl cv, .int .i64 F.f.lv, .int .i64 F.f.er, .int .i64 n, .int .i64 n, .slice os sl cs] 30)))
          refine (Possible_c (narF F n) _ _ false _ hF4 HGO.out HN2.out).mono ?_
          rintro e w4 ⟨rfl, hb⟩
          have HB4 := Lib.hid (HB3.out.trans ((bafter (bafter (bafter hb))).mono HB3.out.size))
          clear hb hF4 HF3 BP3 HB3 y0 y1 y2 y3 y4 y5 yl
          go_wp2_with fail
          go_ret
          exact ⟨rfl, HB4.out⟩
        | true =>
          have hbd := bounds_bd hO hc
          have hB := knR_B hO
          rw [knR_eq hc] at hB
          have k1 := (low_le (n := 1000 * (solvedW F (allL F)).hi.d) (d := (solvedW F (allL F)).hi.n) (N := n) (D := 1) (by have := hB.d0; omega) hB.c0 (by decide)).1
          have k2 := (low_le (n := 1000 * (solvedW F (allL F)).lo.d) (d := (solvedW F (allL F)).lo.n) (N := n) (D := 1) (by have := hB.b0; omega) hB.a0 (by decide)).2
          have hkey := hnar.trans (wear_in hc)
          rw [Int.mul_one] at k1 k2
          obtain ⟨a1, ha1⟩ : ∃ x, lowN1 (1000 * (solvedW F (allL F)).hi.d) (solvedW F (allL F)).hi.n = x := ⟨_, rfl⟩
          obtain ⟨a2, ha2⟩ : ∃ x, lowN2 (1000 * (solvedW F (allL F)).hi.d) (solvedW F (allL F)).hi.n = x := ⟨_, rfl⟩
          obtain ⟨b1, hb1⟩ : ∃ x, lowN1 (1000 * (solvedW F (allL F)).lo.d) (solvedW F (allL F)).lo.n = x := ⟨_, rfl⟩
          obtain ⟨b2, hb2⟩ : ∃ x, lowN2 (1000 * (solvedW F (allL F)).lo.d) (solvedW F (allL F)).lo.n = x := ⟨_, rfl⟩
          have hBo := Bounds_yes F _ _ w2 a1 a2 b1 b2 HF2.out hok hc ha1 ha2 hb1 hb2
          rw [ha2, hb2] at hbd
          rw [ha1, ha2, Int.mul_one] at k1
          rw [hb1, hb2, Int.mul_one] at k2
          rw [← k1, ← k2] at hkey
          have m1 := mul_bd (Int.le_of_lt n0) n4 (by omega : 0 ≤ a2) hbd.1.2
          have m2 := mul_bd (Int.le_of_lt n0) n4 (by omega : 0 ≤ b2) hbd.2.2
          obtain ⟨p1, hp1⟩ : ∃ x, n * a2 = x := ⟨_, rfl⟩
          obtain ⟨p2, hp2⟩ : ∃ x, n * b2 = x := ⟨_, rfl⟩
          rw [hp1] at hkey m1
          rw [hp2] at hkey m2
          have q1 : 1 ≤ a2 := hbd.1.1
          have q2 : a2 ≤ 480000000000 := hbd.1.2
          have q3 : 1 ≤ b2 := hbd.2.1
          have q4 : b2 ≤ 480000000000 := hbd.2.2
          have HGO := Lib.hid hGo
          have HKEY := Lib.hid hkey
          have HALL := Lib.hid hall
          refine hBo.mono ?_
          rintro e w3 ⟨rfl, hb⟩
          have HF3 := Lib.hid (HF2.out.below hb)
          have BP3 := Lib.hid (BP2.out.below hb)
          have HB3 := Lib.hid (bthen HB2.out hb)
          clear hb HF2 BP2 HB2 c3 c4 hO hG hGo hall hmem hnar hc hok hBo ha1 ha2 hb1 hb2 hbd hB k1 k2 hkey
          have y0 := BP3.out.cell 0
          have y1 := BP3.out.cell 1
          have y2 := BP3.out.cell 2
          have y3 := BP3.out.cell 3
          have y4 := BP3.out.cell 4
          have y5 := BP3.out.cell 5
          have yl := BP3.out.lt
          simp only [List.getElem?_cons_zero, List.getElem?_cons_succ] at y0 y1 y2 y3 y4 y5
          go_wp2_with fail
          have hF4 : FlIn _ (narF F n) (.slice ov vl cv) (.slice os sl cs) := FlIn.mk ((((HF3.out.v.alloc (Obj.cells #[.int .i64 a1, .int .i64 a2] 41)).alloc (Obj.cells #[.int .i64 b1, .int .i64 b2] 41)).alloc (Obj.cells #[.slice ov vl cv, .int .i64 F.f.lv, .int .i64 F.f.er, .int .i64 n, .int .i64 n, .slice os sl cs] 30))) ((((HF3.out.s.alloc (Obj.cells #[.int .i64 a1, .int .i64 a2] 41)).alloc (Obj.cells #[.int .i64 b1, .int .i64 b2] 41)).alloc (Obj.cells #[.slice ov vl cv, .int .i64 F.f.lv, .int .i64 F.f.er, .int .i64 n, .int .i64 n, .slice os sl cs] 30)))
          have hR1 := ((Bk.new w3 41 [.int .i64 a1, .int .i64 a2]).alloc (Obj.cells #[.int .i64 b1, .int .i64 b2] 41)).alloc (Obj.cells #[.slice ov vl cv, .int .i64 F.f.lv, .int .i64 F.f.er, .int .i64 n, .int .i64 n, .slice os sl cs] 30)
          have hR2 := (Bk.new1 w3 (Obj.cells #[.int .i64 a1, .int .i64 a2] 41) 41 [.int .i64 b1, .int .i64 b2]).alloc (Obj.cells #[.slice ov vl cv, .int .i64 F.f.lv, .int .i64 F.f.er, .int .i64 n, .int .i64 n, .slice os sl cs] 30)
          have HR1 := Lib.hid hR1
          have HR2 := Lib.hid hR2
          obtain ⟨b, hbb⟩ : ∃ b, canI (narF F n) (allL F) = b := ⟨_, rfl⟩
          refine (Possible_c (narF F n) _ _ b _ hF4 HGO.out (by rw [HALL.out]; exact hbb)).mono ?_
          rintro e w4 ⟨rfl, hb⟩
          have HB4 := Lib.hid (HB3.out.trans ((bafter (bafter (bafter hb))).mono HB3.out.size))
          have S1 := HR1.out.below hb
          have S2 := HR2.out.below hb
          have r1 := S1.cell 0
          have r2 := S1.cell 1
          have r3 := S2.cell 0
          have r4 := S2.cell 1
          simp only [List.getElem?_cons_zero, List.getElem?_cons_succ] at r1 r2 r3 r4
          have hkey := HKEY.out
          rw [hbb] at hkey
          have HP1 := Lib.hid hp1
          have HP2 := Lib.hid hp2
          have o1 : -9223372036854775808 ≤ n * a2 := by rw [hp1]; omega
          have o2 : n * a2 ≤ 9223372036854775807 := by rw [hp1]; omega
          have o3 : -9223372036854775808 ≤ n * b2 := by rw [hp2]; omega
          have o4 : n * b2 ≤ 9223372036854775807 := by rw [hp2]; omega
          rw [← hp1, ← hp2] at hkey
          clear hb hF4 HF3 BP3 HB3 y0 y1 y2 y3 y4 y5 yl hR1 hR2 HR1 HR2 S1 S2 hbb HKEY HALL hp1 hp2 m1 m2
          have HK := Lib.hid hkey
          clear hkey
          go_wp2_with fail
          all_goals
            go_ret
            refine ⟨ret_bool ?_, HB4.out⟩
            have hk := HK.out
            clear HK
            cases b <;> simp at hk ⊢ <;> omega
  · refine (Check_c F _ _ 30 w1 HF1.out (by unfold chkF; rw [if_neg hok])).mono ?_
    rintro e w2 ⟨rfl, hb⟩
    have HB2 := Lib.hid (bthen HB1.out hb)
    clear hb HF1 BP1 HB1
    go_wp2_with fail
    go_ret
    exact ⟨rfl, HB2.out⟩
theorem rdE_0 {F : Fl} {R : Bool} (ho : okFl F = true) (hR : R = true) (hc : canI F (allL F) = true) : rdE F R = 0 := by
  unfold rdE; rw [if_pos ho, if_pos hR, if_pos hc]
theorem rdE_31 {F : Fl} {R : Bool} (ho : okFl F = true) (hR : R = true) (hc : canI F (allL F) = false) : rdE F R = 31 := by
  unfold rdE; rw [if_pos ho, if_pos hR, if_neg (by rw [hc]; decide)]
theorem rdE_1 {F : Fl} {R : Bool} (ho : okFl F = true) (hR : R = false) : rdE F R = 1 := by
  unfold rdE; rw [if_pos ho, if_neg (by rw [hR]; decide)]
theorem inB_tt {n lo hi : Int} (a : lo ≤ n) (b : n ≤ hi) : inB n lo hi = true := by simp [inB, a, b]
theorem fun_un {F : Fl} (hc : canI F (allL F) = true) (x : Int) : (fun n => decide (0 < n) && unB F x n) = fun n => decide (0 < n) && unM F (allL F) x n := funext fun n => by rw [unB_eq hc]
theorem fun_ov {F : Fl} (hc : canI F (allL F) = true) (x : Int) : (fun n => ovB F x n) = fun n => ovM F (allL F) x n := funext fun n => ovB_eq hc x n
theorem fun_un2 {F : Fl} (hc : canI F (allL F) = true) (m : Int) : (fun n => decide (0 < n) && unB F n m) = fun n => decide (0 < n) && unM F (allL F) n m := funext fun n => by rw [unB_eq hc]
theorem fun_ov2 {F : Fl} (hc : canI F (allL F) = true) (m : Int) : (fun n => ovB F n m) = fun n => ovM F (allL F) n m := funext fun n => ovB_eq hc n m
theorem Reached_yes (F : Fl) (vv vs : Value) (x a b : Int) (w : World) (hF : FlIn w F vv vs) (ho : okFl F = true) (hc : canI F (allL F) = true) (x0 : 0 ≤ x) (xn : x ≤ hgt F.v) (ha : rcLo F (allL F) x = a) (hb : rcHi F (allL F) x = b) :
    Calls Tryz.prog 20 #[flV F vv vs, .int .i64 x] w fun e w' => e = .returned (.tuple #[.agg #[.int .i64 a, .int .i64 b], .int .i64 0]) ∧ Below w.heap.size w w' := by
  have h := Reached_any F vv vs x w hF
  unfold reV rcS at h
  rw [if_pos (rdE_0 ho (inB_tt x0 xn) hc), fun_un hc, fun_ov hc] at h
  subst ha hb
  exact h
theorem Reached_no (F : Fl) (vv vs : Value) (x c : Int) (w : World) (hF : FlIn w F vv vs) (hc : rdE F (inB x 0 (hgt F.v)) = c) (c0 : c ≠ 0) :
    Calls Tryz.prog 20 #[flV F vv vs, .int .i64 x] w fun e w' => e = .returned (.tuple #[raZ, .int .i64 c]) ∧ Below w.heap.size w w' := by
  have h := Reached_any F vv vs x w hF
  unfold reV at h
  rwa [hc, if_neg c0] at h
theorem Level_yes (F : Fl) (vv vs : Value) (m a b : Int) (w : World) (hF : FlIn w F vv vs) (ho : okFl F = true) (hc : canI F (allL F) = true) (m0 : 0 ≤ m) (mn : m ≤ 2097152) (ha : lvLo F (allL F) m = a) (hb : lvHi F (allL F) m = b) :
    Calls Tryz.prog 22 #[flV F vv vs, .int .i64 m] w fun e w' => e = .returned (.tuple #[.agg #[.int .i64 a, .int .i64 b], .int .i64 0]) ∧ Below w.heap.size w w' := by
  have h := Level_any F vv vs m w hF
  unfold leV lvS at h
  rw [if_pos (rdE_0 ho (inB_tt m0 mn) hc), fun_un2 hc, fun_ov2 hc] at h
  subst ha hb
  exact h
theorem Level_no (F : Fl) (vv vs : Value) (m c : Int) (w : World) (hF : FlIn w F vv vs) (hc : rdE F (inB m 0 2097152) = c) (c0 : c ≠ 0) :
    Calls Tryz.prog 22 #[flV F vv vs, .int .i64 m] w fun e w' => e = .returned (.tuple #[raZ, .int .i64 c]) ∧ Below w.heap.size w w' := by
  have h := Level_any F vv vs m w hF
  unfold leV at h
  rwa [hc, if_neg c0] at h
theorem asR_t {F : Fl} {x m : Int} (x0 : 0 ≤ x) (xn : x ≤ hgt F.v) (m0 : 0 ≤ m) (mn : m ≤ 2097152) : asR F x m = true := by unfold asR; rw [inB_tt x0 xn, inB_tt m0 mn]; rfl
theorem Surely_yes (F : Fl) (vv vs : Value) (x m : Int) (s : Bool) (w : World) (hF : FlIn w F vv vs) (ho : okFl F = true) (hc : canI F (allL F) = true) (x0 : 0 ≤ x) (xn : x ≤ hgt F.v) (m0 : 0 ≤ m) (mn : m ≤ 2097152) (hs : (!ovM F (allL F) x m) = s) :
    Calls Tryz.prog 28 #[flV F vv vs, .int .i64 x, .int .i64 m] w fun e w' => e = .returned (.tuple #[.bool s, .int .i64 0]) ∧ Below w.heap.size w w' := by
  have h := Surely_any F vv vs x m w hF
  unfold suV at h
  rw [if_pos (rdE_0 ho (asR_t x0 xn m0 mn) hc), ovB_eq hc, hs] at h
  exact h
theorem Ever_yes (F : Fl) (vv vs : Value) (x m : Int) (s : Bool) (w : World) (hF : FlIn w F vv vs) (ho : okFl F = true) (hc : canI F (allL F) = true) (x0 : 0 ≤ x) (xn : x ≤ hgt F.v) (m0 : 0 ≤ m) (mn : m ≤ 2097152) (hs : evM F (allL F) x m = s) :
    Calls Tryz.prog 30 #[flV F vv vs, .int .i64 x, .int .i64 m] w fun e w' => e = .returned (.tuple #[.bool s, .int .i64 0]) ∧ Below w.heap.size w w' := by
  have h := Ever_any F vv vs x m w hF
  unfold evV at h
  rw [if_pos (rdE_0 ho (asR_t x0 xn m0 mn) hc), evB_eq hc, hs] at h
  exact h
theorem allI_lt (F : Fl) : ∀ i ∈ allL F, i < (F.s.length : Int) := fun i hi => (allL_ok F i hi).2
theorem cm_step {a1 a2 b1 b2 : Int} (e : a1 / a2 = b1 / b2) : b2 * (a1 % a2) - a2 * (b1 % b2) = a1 * b2 - b1 * a2 := by
  have h1 := Int.mul_ediv_add_emod a1 a2
  have h2 := Int.mul_ediv_add_emod b1 b2
  rw [← e] at h2
  generalize a1 / a2 = q at *
  generalize a1 % a2 = m at *
  generalize b1 % b2 = n at *
  subst h1 h2
  grind
def cmM (w wr : World) : Nat := (intOf ((wr.cell? ⟨w.heap.size, 1, none⟩).getD undef)).toNat + (intOf ((wr.cell? ⟨w.heap.size + 1, 1, none⟩).getD undef)).toNat
structure CmI (w wr : World) (s a1 a2 b1 b2 : Int) : Prop where
  a : Bk wr w.heap.size 41 [.int .i64 a1, .int .i64 a2]
  b : Bk wr (w.heap.size + 1) 41 [.int .i64 b1, .int .i64 b2]
  a0 : 0 ≤ a1 ∧ a1 ≤ 9223372036854775807
  a3 : 0 < a2 ∧ a2 ≤ 9223372036854775807
  b0 : 0 ≤ b1 ∧ b1 ≤ 9223372036854775807
  b3 : 0 < b2 ∧ b2 ≤ 9223372036854775807
  w : Below w.heap.size w wr
  s : sgn (a1 * b2 - b1 * a2) = s
set_option maxRecDepth 100000 in
set_option maxHeartbeats 4000000 in
theorem compare_any (p q r t : Int) (w : World) (p0 : 0 ≤ p) (p1 : p ≤ 9223372036854775807) (q0 : 0 < q) (q1 : q ≤ 9223372036854775807) (r0 : 0 ≤ r) (r1 : r ≤ 9223372036854775807) (t0 : 0 < t) (t1 : t ≤ 9223372036854775807) :
    Calls Tryz.prog 34 #[.agg #[.int .i64 p, .int .i64 q], .agg #[.int .i64 r, .int .i64 t]] w fun e w' => e = .returned (.int .i64 (sgn (p * t - r * q))) ∧ Below w.heap.size w w' := by
  obtain ⟨s, hs⟩ : ∃ s, sgn (p * t - r * q) = s := ⟨_, rfl⟩
  rw [hs]
  have HI : Hid (CmI w ((w.alloc (Obj.cells #[.int .i64 p, .int .i64 q] 41)).alloc (Obj.cells #[.int .i64 r, .int .i64 t] 41)) s p q r t) :=
    Lib.hid ⟨(Bk.new w _ [_, _]).alloc _, Bk.new1 w _ _ [_, _], ⟨p0, p1⟩, ⟨q0, q1⟩, ⟨r0, r1⟩, ⟨t0, t1⟩, (ballo w _).alloc (by simp) _, hs⟩
  clear hs p0 p1 q0 q1 r0 r1 t0 t1
  go_enter Tryz.func34, Tryz.ntmps34
  go_wp2_with fail
  go_loopw [] (fun wr => ∃ a1 a2 b1 b2, Hid (CmI w wr s a1 a2 b1 b2)) (fun wr => cmM w wr)
  case atStart => exact ⟨p, q, r, t, HI⟩
  case round =>
    obtain ⟨a1, a2, b1, b2, hI⟩ := hrel
    have c0 := hI.out.a.cell 0
    have c1 := hI.out.a.cell 1
    have d0 := hI.out.b.cell 0
    have d1 := hI.out.b.cell 1
    have f0 := hI.out.a.frozen 0
    have f1 := hI.out.a.frozen 1
    have g0 := hI.out.b.frozen 0
    have g1 := hI.out.b.frozen 1
    have l1 := hI.out.a.lt
    have l2 := hI.out.b.lt
    simp only [List.getElem?_cons_zero, List.getElem?_cons_succ] at c0 c1 d0 d1
    obtain ⟨a0, a00⟩ := hI.out.a0
    obtain ⟨a3, a33⟩ := hI.out.a3
    obtain ⟨b0, b00⟩ := hI.out.b0
    obtain ⟨b3, b33⟩ := hI.out.b3
    have HS := hI.out.s
    have HM : Hid (cmM w wr = a2.toNat + b2.toNat) := Lib.hid (by unfold cmM; rw [c1, d1]; rfl)
    have e1 := Int.tdiv_eq_ediv_of_nonneg a0 (b := a2)
    have e2 := Int.tdiv_eq_ediv_of_nonneg b0 (b := b2)
    have e3 := Int.tmod_eq_emod_of_nonneg a0 (b := a2)
    have e4 := Int.tmod_eq_emod_of_nonneg b0 (b := b2)
    have E1 := Lib.hid e1
    have E2 := Lib.hid e2
    have E3 := Lib.hid e3
    have E4 := Lib.hid e4
    have HS := Lib.hid HS
    clear e1 e2 e3 e4
    have m1 := Int.emod_nonneg a1 (show a2 ≠ 0 by omega)
    have m2 := Int.emod_lt_of_pos a1 a3
    have n1 := Int.emod_nonneg b1 (show b2 ≠ 0 by omega)
    have n2 := Int.emod_lt_of_pos b1 b3
    have k1 := @below_of a1 a2 b1 b2 a3 b3
    have k2 := @below_of b1 b2 a1 a2 b3 a3
    have k3 := @cm_step a1 a2 b1 b2
    have K1 := Lib.hid k1
    have K2 := Lib.hid k2
    have K3 := Lib.hid k3
    clear k1 k2 k3 E1 E2 E3 E4
    have HBW := Lib.hid (below_drewN hI.out.w)
    go_wp2_with fail
    go_quiet (fail)
    obtain ⟨P, hP⟩ : ∃ P, a1 / a2 = P := ⟨_, rfl⟩
    obtain ⟨Q, hQ⟩ : ∃ Q, b1 / b2 = Q := ⟨_, rfl⟩
    rw [hP, hQ] at K1 K2 K3 ⊢
    clear hP hQ
    rcases Int.lt_trichotomy P Q with h | h | h
    · have hs : s = -1 := by rw [← HS.out]; have := K1.out h; unfold sgn; rw [if_pos (by omega)]
      subst hs
      have hne : (P == Q) = false := by simp; omega
      go_wp2_with fail
      go_ret
      exact ⟨rfl, HBW.out _⟩
    · subst h
      go_wp2_with fail
      go_quiet (fail)
      obtain ⟨M, hM⟩ : ∃ M, a1 % a2 = M := ⟨_, rfl⟩
      obtain ⟨N, hN⟩ : ∃ N, b1 % b2 = N := ⟨_, rfl⟩
      rw [hM] at m1 m2 K3 ⊢
      rw [hN] at n1 n2 K3 ⊢
      clear hM hN
      have k3 := K3.out trivial
      have hs := HS.out
      rw [← k3] at hs
      clear K1 K2 K3 k3 HS
      have HS := Lib.hid hs
      clear hs
      by_cases hM : M = 0
      · by_cases hN : N = 0
        · subst hM hN
          have hs : s = 0 := by rw [← HS.out]; simp [sgn]
          subst hs
          go_wp2_with fail
          go_ret
          exact ⟨rfl, HBW.out _⟩
        · subst hM
          have hs : s = -1 := by
            rw [← HS.out]
            have := Int.mul_pos a3 (show 0 < N by omega)
            unfold sgn; rw [if_pos (by omega)]
          subst hs
          have n3 : 0 < N := by omega
          clear hN
          go_wp2_with fail
          go_ret
          exact ⟨rfl, HBW.out _⟩
      · by_cases hN : N = 0
        · subst hN
          have hs : s = 1 := by
            rw [← HS.out]
            have := Int.mul_pos b3 (show 0 < M by omega)
            unfold sgn; rw [if_neg (by omega), if_pos (by omega)]
          subst hs
          have m3 : 0 < M := by omega
          clear hM
          go_wp2_with fail
          go_ret
          exact ⟨rfl, HBW.out _⟩
        · have m3 : 0 < M := by omega
          have n3 : 0 < N := by omega
          clear hM hN
          go_wp2_with fail
          generalize hd : wr.drewN _ = wd
          have hA0 : Bk wd w.heap.size 41 [.int .i64 a1, .int .i64 a2] := by rw [← hd]; exact hI.out.a.drewN _
          have hB0 : Bk wd (w.heap.size + 1) 41 [.int .i64 b1, .int .i64 b2] := by rw [← hd]; exact hI.out.b.drewN _
          have hW0 : Below w.heap.size w wd := by rw [← hd]; exact HBW.out _
          have hA := (((hA0.set 0 (.int .i64 b2)).set 1 (.int .i64 N)).far (p := ⟨w.heap.size + 1, 0, none⟩) (by simp) (.int .i64 a2)).far (p := ⟨w.heap.size + 1, 1, none⟩) (by simp) (.int .i64 M)
          have hB := (((hB0.far (p := ⟨w.heap.size, 0, none⟩) (by simp) (.int .i64 b2)).far (p := ⟨w.heap.size, 1, none⟩) (by simp) (.int .i64 N)).set 0 (.int .i64 a2)).set 1 (.int .i64 M)
          have hW := (((hW0.setCell (p := ⟨w.heap.size, 0, none⟩) (Nat.le_refl _) (.int .i64 b2)).setCell (p := ⟨w.heap.size, 1, none⟩) (Nat.le_refl _) (.int .i64 N)).setCell (p := ⟨w.heap.size + 1, 0, none⟩) (Nat.le_succ _) (.int .i64 a2)).setCell (p := ⟨w.heap.size + 1, 1, none⟩) (Nat.le_succ _) (.int .i64 M)
          refine ⟨⟨b2, N, a2, M, Lib.hid ⟨hA, hB, by omega, by omega, by omega, by omega, hW, HS.out⟩⟩, ?_⟩
          rw [HM.out]
          unfold cmM
          rw [hA.cell, hB.cell]
          show N.toNat + M.toNat < a2.toNat + b2.toNat
          omega
    · have hs : s = 1 := by rw [← HS.out]; have := K2.out h; unfold sgn; rw [if_neg (by omega), if_pos (by omega)]
      subst hs
      have hne : (P == Q) = false := by simp; omega
      go_wp2_with fail
      go_ret
      exact ⟨rfl, HBW.out _⟩
end Go.Proofs.YtnfndiafabhhdaaGreat
/- How further arguments of the laws read: ratios, readings, lists, truths (Wear). -/
namespace Go.Proofs.YtnfndiafabhhdaaGreat
open Go.ChangeShapes Go.WideShapes Go.ChangeAt Go.RowKit Go.Deep
abbrev I64 (a : Int) : Prop := -9223372036854775808 ≤ a ∧ a ≤ 9223372036854775807
section
variable {H : Type} {enc : TypeId × Value → H} {W : World}
set_option maxRecDepth 200000 in
theorem two_open_bd {t : TypeId} {f0 f1 : Field} {n base : Nat} {sp : Nat → Bool} {hd : Bool} {cs : List Value} {x : DataW H × List MemPlace} (hs : Tryz.prog.underlying t = some (.struct #[f0, f1])) (hone : oneCellFields Tryz.prog #[f0, f1] = true) (hC : Tryz.prog.cellsOf t = 2)
    (t0 : Tryz.prog.underlying f0.type = some (.int .i64)) (t1 : Tryz.prog.underlying f1.type = some (.int .i64)) (h : DataW.trod enc Tryz.prog W base sp hd n t cs = some x) : ∃ a b, cs = [.int .i64 a, .int .i64 b] ∧ I64 a ∧ I64 b := by
  obtain ⟨y0, y1, m, _, hl, h0, h1⟩ := trod_struct2 hs h
  obtain ⟨o0, k0⟩ := hone_of hone 0 f0 rfl
  obtain ⟨o1, k1⟩ := hone_of hone 1 f1 rfl
  rw [hC] at hl
  obtain ⟨c0, c1, rfl⟩ := list2 hl
  · simp [o0, k0] at h0
    simp [o1, k1] at h1
    obtain ⟨a, ha, _, wa⟩ := DataW.trod_int t0 h0
    obtain ⟨b, hb, _, wb⟩ := DataW.trod_int t1 h1
    simp at ha hb
    exact ⟨a, b, by rw [ha, hb], wf_bd wa, wf_bd wb⟩
set_option maxRecDepth 200000 in
theorem ratio_open {base : Nat} {v : Value} {d : DataW H} {p : List MemPlace} (hv : Value.okWide Tryz.prog W .any base 41 v) (h : DataW.Trod enc Tryz.prog W 0 (fun _ => true) true 41 v d p) :
    ∃ a b, v = .agg #[.int .i64 a, .int .i64 b] ∧ I64 a ∧ I64 b := by
  obtain ⟨cs, rfl, hsz⟩ := okWide_struct Tryz.underlying41 hv
  obtain ⟨l⟩ := cs
  obtain ⟨fuel, hf⟩ := h
  obtain ⟨a, b, e, w1, w2⟩ := two_open_bd Tryz.underlying41 (by kernel_rfl) (by kernel_rfl) Tryz.underlying3 Tryz.underlying3 (show DataW.trod enc Tryz.prog W 0 (fun _ => true) true fuel 41 l = some (d, p) from hf)
  exact ⟨a, b, by rw [e], w1, w2⟩
structure SnI (S : Sn) : Prop where
  a : I64 S.lo
  b : I64 S.hi
  c : I64 S.k.lv
  d : I64 S.k.er
set_option maxRecDepth 200000 in
theorem seen_open {base : Nat} {v : Value} {d : DataW H} {p : List MemPlace} (hv : Value.okWide Tryz.prog W .any base 88 v) (h : DataW.Trod enc Tryz.prog W 0 (fun _ => true) true 88 v d p) :
    ∃ S : Sn, v = .agg #[.int .i64 S.lo, .int .i64 S.hi, .int .i64 S.k.lv, .int .i64 S.k.er] ∧ SnI S := by
  obtain ⟨cs, rfl, hsz⟩ := okWide_struct Tryz.underlying88 hv
  obtain ⟨l⟩ := cs
  rw [show Tryz.prog.cellsOf 88 = 4 by kernel_rfl] at hsz
  obtain ⟨c0, c1, c2, c3, rfl⟩ := list4 (show l.length = 4 from hsz)
  obtain ⟨fuel, hf⟩ := h
  have hf : DataW.trod enc Tryz.prog W 0 (fun _ => true) true fuel 88 [c0, c1, c2, c3] = some (d, p) := hf
  obtain ⟨y0, y1, m, _, hl, h0, h1⟩ := trod_struct2 Tryz.underlying88 hf
  have h0 : DataW.trod enc Tryz.prog W 0 (fun _ => true) true m 27 [c0, c1] = some y0 := by simpa [show Tryz.prog.cellsOf 27 = 2 by kernel_rfl] using h0
  have h1 : DataW.trod enc Tryz.prog W 0 (fun _ => true) true m 25 [c2, c3] = some y1 := by simpa [show Tryz.prog.cellsOf 25 = 2 by kernel_rfl] using h1
  obtain ⟨a, b, e1, w1, w2⟩ := two_open_bd Tryz.underlying27 (by kernel_rfl) (by kernel_rfl) Tryz.underlying3 Tryz.underlying3 h0
  obtain ⟨a', b', e2, w3, w4⟩ := two_open_bd Tryz.underlying25 (by kernel_rfl) (by kernel_rfl) Tryz.underlying3 Tryz.underlying3 h1
  simp at e1 e2
  exact ⟨⟨a, b, ⟨a', b'⟩⟩, by rw [e1.1, e1.2, e2.1, e2.2], w1, w2, w3, w4⟩
theorem ints_cap {n : Nat} {v : Value} {y : DataW H × List MemPlace} (h : DataW.trod enc Tryz.prog W 0 (fun _ => true) true n 51 [v] = some y) : ∃ o m c, v = .slice o m c ∧ m ≤ c := by
  rcases open_ints Tryz.underlying51 Tryz.underlying3 (by kernel_rfl) h with ⟨hcs, _⟩ | ⟨a, len, cap, zs, hcs, _, hl, _⟩
  · simp at hcs; subst hcs; exact ⟨_, _, _, rfl, Nat.le_refl _⟩
  · simp at hcs; subst hcs; exact ⟨_, _, _, rfl, hl⟩
set_option maxRecDepth 200000 in
theorem list_open {base : Nat} {v : Value} {d : DataW H} {p : List MemPlace} (_hv : Value.okWide Tryz.prog W .any base 51 v) (h : DataW.Trod enc Tryz.prog W 0 (fun _ => true) true 51 v d p) :
    ∃ l o m c, v = .slice o m c ∧ Ints W (.slice o m c) l ∧ m ≤ c := by
  obtain ⟨o, m, c, rfl⟩ := okWide_slice Tryz.underlying51 _hv
  obtain ⟨fuel, hf⟩ := h
  have hf : DataW.trod enc Tryz.prog W 0 (fun _ => true) true fuel 51 [.slice o m c] = some (d, p) := hf
  obtain ⟨l, hl⟩ := ints_of_trod hf
  obtain ⟨_, _, _, e, k⟩ := ints_cap hf
  cases e
  exact ⟨l, o, m, c, rfl, hl, k⟩
set_option maxRecDepth 200000 in
theorem truth_open {base : Nat} {v : Value} {d : DataW H} {p : List MemPlace} (hv : Value.okWide Tryz.prog W .any base 74 v) (h : DataW.Trod enc Tryz.prog W 0 (fun _ => true) true 74 v d p) :
    ∃ a b l o m c, v = .agg #[.int .i64 a, .int .i64 b, .slice o m c] ∧ (I64 a ∧ I64 b) ∧ Ints W (.slice o m c) l ∧ m ≤ c := by
  obtain ⟨cs, rfl, hsz⟩ := okWide_struct Tryz.underlying74 hv
  obtain ⟨l⟩ := cs
  rw [show Tryz.prog.cellsOf 74 = 3 by kernel_rfl] at hsz
  obtain ⟨c0, c1, c2, rfl⟩ := list3 (show l.length = 3 from hsz)
  obtain ⟨fuel, hf⟩ := h
  have hf : DataW.trod enc Tryz.prog W 0 (fun _ => true) true fuel 74 [c0, c1, c2] = some (d, p) := hf
  obtain ⟨y0, y1, y2, m, _, hl, h0, h1, h2⟩ := trod_struct3 Tryz.underlying74 hf
  have h0 : DataW.trod enc Tryz.prog W 0 (fun _ => true) true m 3 [c0] = some y0 := by simpa [show Tryz.prog.cellsOf 3 = 1 by kernel_rfl] using h0
  have h1 : DataW.trod enc Tryz.prog W 0 (fun _ => true) true m 3 [c1] = some y1 := by simpa [show Tryz.prog.cellsOf 3 = 1 by kernel_rfl] using h1
  have h2 : DataW.trod enc Tryz.prog W 0 (fun _ => true) true m 51 [c2] = some y2 := by simpa [show Tryz.prog.cellsOf 3 = 1 by kernel_rfl, show Tryz.prog.cellsOf 51 = 1 by kernel_rfl] using h2
  obtain ⟨a, ha, _, wa⟩ := DataW.trod_int Tryz.underlying3 h0
  obtain ⟨b, hb, _, wb⟩ := DataW.trod_int Tryz.underlying3 h1
  obtain ⟨l, hl⟩ := ints_of_trod h2
  obtain ⟨o, k, c, e, hk⟩ := ints_cap h2
  simp at ha hb
  subst e
  exact ⟨a, b, l, o, k, c, by rw [ha, hb], ⟨wf_bd wa, wf_bd wb⟩, hl, hk⟩
end
end Go.Proofs.YtnfndiafabhhdaaGreat
/- The ends of Bounds are those of cases; a case's wear lies within Bounds (WearEnds): the walk. -/
namespace Go.Proofs.YtnfndiafabhhdaaGreat
open Go.ChangeShapes Go.WideShapes Go.ChangeAt Go.RowKit
theorem ccV_0 {F : Fl} {N D i : Int} (h : ccV F N D i = 0) : OkF F ∧ canI F (allL F) = true ∧ (1 ≤ N ∧ N ≤ 1125899906842624) ∧ (1 ≤ D ∧ D ≤ 1125899906842624) ∧ (solvedW F (allL F)).has (1000 * D) N := by
  unfold ccV at h
  split at h
  · rename_i h1
    split at h
    · rename_i h2
      split at h
      · rename_i h3
        have hO := (okFl_iff F).1 h1
        have r : (1 ≤ N ∧ N ≤ 1125899906842624) ∧ (1 ≤ D ∧ D ≤ 1125899906842624) := by
          simp only [ccR, inB, Bool.and_eq_true, decide_eq_true_eq] at h2
          omega
        have k := case_has hO (allI_lt F) (by omega) (by omega) ((ccB_iff hO).1 h3)
        exact ⟨hO, has_can hO (allI_lt F) (by omega) k, r.1, r.2, k⟩
      · omega
    · omega
  · omega
section
variable {F : Fl}
abbrev bA (F : Fl) : Int := lowN1 (1000 * (solvedW F (allL F)).hi.d) (solvedW F (allL F)).hi.n
abbrev bB (F : Fl) : Int := lowN2 (1000 * (solvedW F (allL F)).hi.d) (solvedW F (allL F)).hi.n
abbrev bC (F : Fl) : Int := lowN1 (1000 * (solvedW F (allL F)).lo.d) (solvedW F (allL F)).lo.n
abbrev bD (F : Fl) : Int := lowN2 (1000 * (solvedW F (allL F)).lo.d) (solvedW F (allL F)).lo.n
theorem ends_ord (h : OkF F) (hc : canI F (allL F) = true) : bA F * bD F ≤ bC F * bB F := by
  obtain ⟨_, _, k⟩ := ends_has h (allI_lt F) hc
  have B := knR_B h
  rw [knR_eq hc] at B
  have a0 := B.a0
  have b0 := B.b0
  have c0 := B.c0
  have d0 := B.d0
  have dd := lowN_bd (n := 1000 * (solvedW F (allL F)).lo.d) (d := (solvedW F (allL F)).lo.n) (by omega) a0
  rw [bA, bB, bC, bD, (low_le (n := 1000 * (solvedW F (allL F)).hi.d) (d := (solvedW F (allL F)).hi.n) (by omega) c0 dd.2.1).1,
    (low_le (n := 1000 * (solvedW F (allL F)).lo.d) (d := (solvedW F (allL F)).lo.n) (by omega) a0 c0).2]
  have e1 : 1000 * (solvedW F (allL F)).hi.d * (solvedW F (allL F)).lo.n = 1000 * ((solvedW F (allL F)).lo.n * (solvedW F (allL F)).hi.d) := by ac_rfl
  have e2 : 1000 * (solvedW F (allL F)).lo.d * (solvedW F (allL F)).hi.n = 1000 * ((solvedW F (allL F)).hi.n * (solvedW F (allL F)).lo.d) := by ac_rfl
  omega
theorem ends_mid (h : OkF F) (hc : canI F (allL F) = true) {N D : Int} (hN : 0 < N) (hD : 0 < D) (k : (solvedW F (allL F)).has (1000 * D) N) : bA F * D ≤ N * bB F ∧ N * bD F ≤ bC F * D := by
  obtain ⟨k1, k2⟩ := held_between h (allI_lt F) hN k
  have B := knR_B h
  rw [knR_eq hc] at B
  have b0 := B.b0
  have d0 := B.d0
  exact ⟨(low_le (by omega) B.c0 hD).1.2 k1, (low_le (by omega) B.a0 hD).2.2 k2⟩
end
theorem Bounds_err (F : Fl) (vv vs : Value) (c : Int) (w : World) (hF : FlIn w F vv vs) (h : rdE F true = c) (c0 : c ≠ 0) : Calls Tryz.prog 32 #[flV F vv vs] w fun e w' => e = .returned (.tuple #[raZ, raZ, .int .i64 c]) ∧ Below w.heap.size w w' := by
  have k := Bounds_any F vv vs w hF
  unfold boV at k
  rwa [if_neg (by rw [h]; exact c0), h] at k
theorem CheckCase_c (F : Fl) (vv vs : Value) (N D n c : Int) (w : World) (hF : FlIn w F vv vs) (h : ccV F N D n = c) : Calls Tryz.prog 33 #[flV F vv vs, .agg #[.int .i64 N, .int .i64 D], .int .i64 n] w fun e w' => e = .returned (.int .i64 c) ∧ Below w.heap.size w w' := by
  rw [← h]; exact CheckCase_any F vv vs N D n w hF
def soB (F : Fl) (N D : Int) (j : Nat) : Bool := (List.range j).any fun i => decide (ccV F N D ((i : Int) - 1) = 0)
theorem soB_step (F : Fl) (N D : Int) (j : Nat) : soB F N D (j + 1) = (soB F N D j || decide (ccV F N D ((j : Int) - 1) = 0)) := by simp [soB, List.range_succ]
theorem soB_all {F : Fl} {N D : Int} (h : ∃ i : Int, -1 ≤ i ∧ i < F.s.length ∧ ccV F N D i = 0) : soB F N D (F.s.length + 1) = true := by
  obtain ⟨i, i0, i1, h⟩ := h
  unfold soB
  rw [List.any_eq_true]
  exact ⟨(i + 1).toNat, by simp; omega, by simp only [decide_eq_true_eq]; rw [show (((i + 1).toNat : Nat) : Int) - 1 = i by omega]; exact h⟩
set_option maxRecDepth 100000 in
set_option maxHeartbeats 4000000 in
theorem law_ends (F : Fl) (vv vs : Value) (N D n : Int) (w : World) (hF : FlIn w F vv vs) (_ : (-9223372036854775808 ≤ N ∧ N ≤ 9223372036854775807) ∧ (-9223372036854775808 ≤ D ∧ D ≤ 9223372036854775807)) (_ : -9223372036854775808 ≤ n) (_ : n ≤ 9223372036854775807) : Calls Tryz.prog 5 #[flV F vv vs, .agg #[.int .i64 N, .int .i64 D], .int .i64 n] w fun e w' => e = .returned (.bool true) ∧ Below w.heap.size w w' := by
  obtain ⟨os, cs, rfl, ms⟩ := hF.s.parts
  obtain ⟨ov, cv, rfl, mv⟩ := hF.v.parts
  obtain ⟨sl, hsl⟩ : ∃ k, F.s.length = k := ⟨_, rfl⟩
  obtain ⟨vl, hvl⟩ : ∃ k, F.v.length = k := ⟨_, rfl⟩
  rw [hsl] at hF ms ⊢
  rw [hvl] at hF mv ⊢
  have HSL := Lib.hid hsl
  have HVL := Lib.hid hvl
  clear hsl hvl
  have HF := Lib.hid (hF.alloc (flO F (.slice ov vl cv) (.slice os sl cs)))
  have BP := Lib.hid (Bk.new w 30 (flL F (.slice ov vl cv) (.slice os sl cs)))
  clear hF
  have BR := Lib.hid (Bk.new1 w (flO F (.slice ov vl cv) (.slice os sl cs)) 41 [.int .i64 N, .int .i64 D])
  go_enter Tryz.func5, Tryz.ntmps5
  go_wp2_with fail
  refine (sane_any _).mono ?_
  rintro e w1 ⟨rfl, hb⟩
  have HF1 := Lib.hid ((HF.out.alloc (Obj.cells #[.int .i64 N, .int .i64 D] 41)).below hb)
  have BP1 := Lib.hid ((BP.out.alloc (Obj.cells #[.int .i64 N, .int .i64 D] 41)).below hb)
  have BR1 := Lib.hid (BR.out.below hb)
  have HB1 := Lib.hid (bafter (bafter hb))
  clear hb HF BP BR
  go_wp2_with (first | (refine ld_at rfl (T := 30) rfl rfl BP1.out Tryz.underlying30 rfl (by kernel_rfl) ?_) | fail)
  obtain ⟨e0, he0⟩ : ∃ e, rdE F true = e := ⟨_, rfl⟩
  by_cases hz : e0 = 0
  · subst hz
    have hO := rdE_ok he0
    have hok := (okFl_iff F).2 hO
    have hc := rdE_can he0
    have HO := Lib.hid (And.intro hok hc)
    have hsl : F.s.length ≤ 24 := hO.n
    have q1 := end_some hO hc (b := (knR F).hi) (Or.inl rfl)
    have q2 := end_some hO hc (b := (knR F).lo) (Or.inr rfl)
    have q3 := ends_ord hO hc
    have q4 : ccV F N D n = 0 → (1 ≤ N ∧ 1 ≤ D) ∧ bA F * D ≤ N * bB F ∧ N * bD F ≤ bC F * D := fun h => by
      obtain ⟨_, _, h1, h2, h3⟩ := ccV_0 h
      exact ⟨⟨h1.1, h2.1⟩, ends_mid hO hc (by omega) (by omega) h3⟩
    rw [knR_eq hc] at q1 q2
    have hBo := Bounds_yes F (.slice ov vl cv) (.slice os sl cs) w1 (bA F) (bB F) (bC F) (bD F) HF1.out hok hc rfl rfl rfl rfl
    obtain ⟨a1, ha1⟩ : ∃ x, bA F = x := ⟨_, rfl⟩
    obtain ⟨a2, ha2⟩ : ∃ x, bB F = x := ⟨_, rfl⟩
    obtain ⟨b1, hb1⟩ : ∃ x, bC F = x := ⟨_, rfl⟩
    obtain ⟨b2, hb2⟩ : ∃ x, bD F = x := ⟨_, rfl⟩
    have q1 : (1 ≤ bA F ∧ bA F ≤ 1125899906842624) ∧ (1 ≤ bB F ∧ bB F ≤ 1125899906842624) ∧ ∃ i : Int, -1 ≤ i ∧ i < F.s.length ∧ ccV F (bA F) (bB F) i = 0 := q1
    have q2 : (1 ≤ bC F ∧ bC F ≤ 1125899906842624) ∧ (1 ≤ bD F ∧ bD F ≤ 1125899906842624) ∧ ∃ i : Int, -1 ≤ i ∧ i < F.s.length ∧ ccV F (bC F) (bD F) i = 0 := q2
    rw [ha1, ha2, hb1, hb2] at hBo q3 q4
    rw [ha1, ha2] at q1
    rw [hb1, hb2] at q2
    obtain ⟨⟨a11, a12⟩, ⟨a21, a22⟩, qa⟩ := q1
    obtain ⟨⟨b11, b12⟩, ⟨b21, b22⟩, qb⟩ := q2
    have SA := Lib.hid (soB_all qa)
    have SB := Lib.hid (soB_all qb)
    rw [HSL.out] at SA SB
    rw [HSL.out] at hsl
    have Q4 := Lib.hid q4
    have s1 : sgn (a1 * b2 - b1 * a2) ≤ 0 := by
      rcases Int.lt_or_le 0 (sgn (a1 * b2 - b1 * a2)) with h | h
      · have := (sgn_gt _).1 h; omega
      · exact h
    obtain ⟨sg, hsg⟩ : ∃ k, sgn (a1 * b2 - b1 * a2) = k := ⟨_, rfl⟩
    rw [hsg] at s1
    have HSG := Lib.hid hsg
    clear hsg q1 q2 q3 q4 qa qb ha1 ha2 hb1 hb2 hO hok hc he0
    refine hBo.mono ?_
    rintro e w2 ⟨rfl, hb⟩
    have HF2 := Lib.hid (((HF1.out.below hb).alloc (Obj.cells #[.int .i64 a1, .int .i64 a2] 41)).alloc (Obj.cells #[.int .i64 b1, .int .i64 b2] 41))
    have BP2 := Lib.hid (((BP1.out.below hb).alloc (Obj.cells #[.int .i64 a1, .int .i64 a2] 41)).alloc (Obj.cells #[.int .i64 b1, .int .i64 b2] 41))
    have BR2 := Lib.hid (((BR1.out.below hb).alloc (Obj.cells #[.int .i64 a1, .int .i64 a2] 41)).alloc (Obj.cells #[.int .i64 b1, .int .i64 b2] 41))
    have BA2 := Lib.hid ((Bk.new w2 41 [.int .i64 a1, .int .i64 a2]).alloc (Obj.cells #[.int .i64 b1, .int .i64 b2] 41))
    have BB2 := Lib.hid (Bk.new1 w2 (Obj.cells #[.int .i64 a1, .int .i64 a2] 41) 41 [.int .i64 b1, .int .i64 b2])
    have hbb := bthen HB1.out hb
    have hbc := hbb.alloc hbb.size (Obj.cells #[.int .i64 a1, .int .i64 a2] 41)
    have HB2 := Lib.hid (hbc.alloc hbc.size (Obj.cells #[.int .i64 b1, .int .i64 b2] 41))
    clear hb hbb hbc hBo HF1 BP1 BR1 HB1
    go_wp2_with fail
    refine (compare_any a1 a2 b1 b2 _ (by omega) (by omega) (by omega) (by omega) (by omega) (by omega) (by omega) (by omega)).mono ?_
    rw [HSG.out]
    rintro e w3 ⟨rfl, hb⟩
    have HF3 := Lib.hid (HF2.out.below hb)
    have BP3 := Lib.hid (BP2.out.below hb)
    have BR3 := Lib.hid (BR2.out.below hb)
    have BA3 := Lib.hid (BA2.out.below hb)
    have BB3 := Lib.hid (BB2.out.below hb)
    have HB3 := Lib.hid (bthen HB2.out hb)
    have x0 := BA3.out.cell 0
    have x1 := BA3.out.cell 1
    have y0 := BB3.out.cell 0
    have y1 := BB3.out.cell 1
    have xl := BA3.out.lt
    have yl := BB3.out.lt
    simp only [List.getElem?_cons_zero, List.getElem?_cons_succ] at x0 x1 y0 y1
    clear hb HF2 BP2 BR2 BA2 BB2 HB2
    obtain ⟨W, hW⟩ : ∃ W, w3.alloc (Obj.cells #[.int .i64 a1, .int .i64 a2, .int .i64 b1, .int .i64 b2] 41) = W := ⟨_, rfl⟩
    have HE := Lib.hid (show Bk W w3.heap.size 41 [.int .i64 a1, .int .i64 a2, .int .i64 b1, .int .i64 b2] by rw [← hW]; exact Bk.new _ _ _)
    have h3W : Below w3.heap.size w3 W := by rw [← hW]; exact ballo _ _
    have HFW := Lib.hid (HF3.out.below h3W)
    have BPW := Lib.hid (BP3.out.below h3W)
    have BRW := Lib.hid (BR3.out.below h3W)
    have BAW := Lib.hid (BA3.out.below h3W)
    have BBW := Lib.hid (BB3.out.below h3W)
    have HBW := Lib.hid (bthen HB3.out h3W)
    clear h3W HF3 BP3 BR3 BA3 BB3 HB3
    go_wp2_with fail
    try rw [hW]
    clear hW x0 x1 y0 y1 xl yl
    go_loopw [57] (fun i wr => ∃ k : Nat, k ≤ 2 ∧ i = .int .i64 (k : Int) ∧ Hid (Below W.heap.size W wr)) (fun i _ => 2 - (intOf i).toNat)
    case atStart => exact ⟨0, by omega, rfl, Lib.hid (Below.refl _ _)⟩
    case round =>
      obtain ⟨k, hk, rfl, hbl⟩ := hrel
      have hE := HE.out.below hbl.out
      by_cases k0 : k = 0
      · subst k0
        have c0 := hE.cell 0
        have c1 := hE.cell 1
        have el := hE.lt
        simp only [List.getElem?_cons_zero, List.getElem?_cons_succ] at c0 c1
        clear hE
        go_wp2_with fail
        obtain ⟨U, hU⟩ : ∃ U, wr.alloc (Obj.cells #[.int .i64 a1, .int .i64 a2] 41) = U := ⟨_, rfl⟩
        have BE := Lib.hid (show Bk U wr.heap.size 41 [.int .i64 a1, .int .i64 a2] by rw [← hU]; exact Bk.new _ _ _)
        have hWU : Below W.heap.size W U := by rw [← hU]; exact hbl.out.alloc hbl.out.size _
        have HFU := Lib.hid (HFW.out.below hWU)
        have BPU := Lib.hid (BPW.out.below hWU)
        have HWU := Lib.hid hWU
        try rw [hU]
        clear hU c0 c1 el hWU
        go_loopw [12, 13] (fun s i wq => ∃ j : Nat, j ≤ sl + 1 ∧ i = .int .i64 ((j : Int) - 1) ∧ s = .bool (soB F a1 a2 j) ∧ Hid (Below U.heap.size U wq)) (fun _ i _ => (sl + 1) - (intOf i + 1).toNat)
        case atStart => exact ⟨0, by omega, rfl, rfl, Lib.hid (Below.refl _ _)⟩
        case round =>
          obtain ⟨j, hj, rfl, rfl, hbq⟩ := hrel
          have hP := BPU.out.below hbq.out
          have hB := BE.out.below hbq.out
          have p0 := hP.cell 0
          have p1 := hP.cell 1
          have p2 := hP.cell 2
          have p3 := hP.cell 3
          have p4 := hP.cell 4
          have p5 := hP.cell 5
          have pl := hP.lt
          have t0 := hB.cell 0
          have t1 := hB.cell 1
          have tl := hB.lt
          simp only [List.getElem?_cons_zero, List.getElem?_cons_succ] at p0 p1 p2 p3 p4 p5 t0 t1
          clear hP hB
          by_cases hjs : j < sl + 1
          · have hst := soB_step F a1 a2 j
            cases hso : soB F a1 a2 j with
            | true =>
              rw [hso, Bool.true_or] at hst
              have HST := Lib.hid hst
              clear hst hso
              go_wp2_with fail
              refine ⟨⟨j + 1, by omega, by go_num, by rw [HST.out], hbq⟩, by simp [intOf]; omega⟩
            | false =>
              obtain ⟨cc, hcc⟩ : ∃ c, ccV F a1 a2 ((j : Int) - 1) = c := ⟨_, rfl⟩
              rw [hso, Bool.false_or, hcc] at hst
              have HST := Lib.hid hst
              have HCC := Lib.hid hcc
              clear hst hso hcc
              go_wp2_with fail
              refine (CheckCase_c F _ _ a1 a2 _ cc _ (HFU.out.below hbq.out) HCC.out).mono ?_
              rintro e wz ⟨rfl, hb⟩
              have HBZ := Lib.hid (bthen hbq.out hb)
              clear hb p0 p1 p2 p3 p4 p5 pl t0 t1 tl
              go_wp2_with fail
              refine ⟨⟨_, _, _, _, _, _, _, _, _, _, _, _, _, _, _, _, _, ?_, rfl⟩, ?_⟩
              · exact ⟨j + 1, by omega, by go_num, by rw [HST.out]; rfl, HBZ⟩
              · simp [intOf]; omega
          · have hj2 : j = sl + 1 := by omega
            subst hj2
            have hso : soB F a1 a2 (sl + 1) = true := SA.out
            rw [hso]
            clear hso p0 p1 p2 p3 p4 t0 t1 tl
            go_wp2_with fail
            refine ⟨⟨1, by omega, by go_num, Lib.hid (HWU.out.trans (hbq.out.mono HWU.out.size))⟩, by simp [intOf]⟩
      by_cases k1 : k = 1
      · subst k1
        have c0 := hE.cell 2
        have c1 := hE.cell 3
        have el := hE.lt
        simp only [List.getElem?_cons_zero, List.getElem?_cons_succ] at c0 c1
        clear hE
        go_wp2_with fail
        obtain ⟨U, hU⟩ : ∃ U, wr.alloc (Obj.cells #[.int .i64 b1, .int .i64 b2] 41) = U := ⟨_, rfl⟩
        have BE := Lib.hid (show Bk U wr.heap.size 41 [.int .i64 b1, .int .i64 b2] by rw [← hU]; exact Bk.new _ _ _)
        have hWU : Below W.heap.size W U := by rw [← hU]; exact hbl.out.alloc hbl.out.size _
        have HFU := Lib.hid (HFW.out.below hWU)
        have BPU := Lib.hid (BPW.out.below hWU)
        have HWU := Lib.hid hWU
        try rw [hU]
        clear hU c0 c1 el hWU
        go_loopw [12, 13] (fun s i wq => ∃ j : Nat, j ≤ sl + 1 ∧ i = .int .i64 ((j : Int) - 1) ∧ s = .bool (soB F b1 b2 j) ∧ Hid (Below U.heap.size U wq)) (fun _ i _ => (sl + 1) - (intOf i + 1).toNat)
        case atStart => exact ⟨0, by omega, rfl, rfl, Lib.hid (Below.refl _ _)⟩
        case round =>
          obtain ⟨j, hj, rfl, rfl, hbq⟩ := hrel
          have hP := BPU.out.below hbq.out
          have hB := BE.out.below hbq.out
          have p0 := hP.cell 0
          have p1 := hP.cell 1
          have p2 := hP.cell 2
          have p3 := hP.cell 3
          have p4 := hP.cell 4
          have p5 := hP.cell 5
          have pl := hP.lt
          have t0 := hB.cell 0
          have t1 := hB.cell 1
          have tl := hB.lt
          simp only [List.getElem?_cons_zero, List.getElem?_cons_succ] at p0 p1 p2 p3 p4 p5 t0 t1
          clear hP hB
          by_cases hjs : j < sl + 1
          · have hst := soB_step F b1 b2 j
            cases hso : soB F b1 b2 j with
            | true =>
              rw [hso, Bool.true_or] at hst
              have HST := Lib.hid hst
              clear hst hso
              go_wp2_with fail
              refine ⟨⟨j + 1, by omega, by go_num, by rw [HST.out], hbq⟩, by simp [intOf]; omega⟩
            | false =>
              obtain ⟨cc, hcc⟩ : ∃ c, ccV F b1 b2 ((j : Int) - 1) = c := ⟨_, rfl⟩
              rw [hso, Bool.false_or, hcc] at hst
              have HST := Lib.hid hst
              have HCC := Lib.hid hcc
              clear hst hso hcc
              go_wp2_with fail
              refine (CheckCase_c F _ _ b1 b2 _ cc _ (HFU.out.below hbq.out) HCC.out).mono ?_
              rintro e wz ⟨rfl, hb⟩
              have HBZ := Lib.hid (bthen hbq.out hb)
              clear hb p0 p1 p2 p3 p4 p5 pl t0 t1 tl
              go_wp2_with fail
              refine ⟨⟨_, _, _, _, _, _, _, _, _, _, _, _, _, _, _, _, _, ?_, rfl⟩, ?_⟩
              · exact ⟨j + 1, by omega, by go_num, by rw [HST.out]; rfl, HBZ⟩
              · simp [intOf]; omega
          · have hj2 : j = sl + 1 := by omega
            subst hj2
            have hso : soB F b1 b2 (sl + 1) = true := SB.out
            rw [hso]
            clear hso p0 p1 p2 p3 p4 t0 t1 tl
            go_wp2_with fail
            refine ⟨⟨2, by omega, by go_num, Lib.hid (HWU.out.trans (hbq.out.mono HWU.out.size))⟩, by simp [intOf]⟩
      · have hk2 : k = 2 := by omega
        subst hk2
        clear hE
        go_wp2_with (first | (refine ld_at rfl (T := 30) rfl rfl (BPW.out.below hbl.out) Tryz.underlying30 rfl (by kernel_rfl) ?_) | (refine ld_at rfl (T := 41) rfl rfl (BRW.out.below hbl.out) Tryz.underlying41 rfl (by kernel_rfl) ?_) | fail)
        obtain ⟨c, hc⟩ : ∃ c, ccV F N D n = c := ⟨_, rfl⟩
        have HC := Lib.hid hc
        clear hc
        refine (CheckCase_c F _ _ N D n c wr (HFW.out.below hbl.out) HC.out).mono ?_
        rintro e w4 ⟨rfl, hb⟩
        have h34 : Below W.heap.size W w4 := hbl.out.trans (hb.mono hbl.out.size)
        have hA := BAW.out.below h34
        have hBB := BBW.out.below h34
        have hR := BRW.out.below h34
        have x0 := hA.cell 0
        have x1 := hA.cell 1
        have y0 := hBB.cell 0
        have y1 := hBB.cell 1
        have r0 := hR.cell 0
        have r1 := hR.cell 1
        have xl := hA.lt
        have yl := hBB.lt
        have rl := hR.lt
        simp only [List.getElem?_cons_zero, List.getElem?_cons_succ] at x0 x1 y0 y1 r0 r1
        have HB4 := Lib.hid (bthen HBW.out h34)
        clear hA hBB hR hb h34
        by_cases hz : c = 0
        · subst hz
          have hq := Q4.out HC.out
          have hq2 := (ccV_0 HC.out).2.2
          obtain ⟨⟨N1, D1⟩, m1, m2⟩ := hq
          obtain ⟨⟨_, N2⟩, ⟨_, D2⟩, _⟩ := hq2
          obtain ⟨s3, hs3⟩ : ∃ k, sgn (a1 * D - N * a2) = k := ⟨_, rfl⟩
          obtain ⟨s4, hs4⟩ : ∃ k, sgn (N * b2 - b1 * D) = k := ⟨_, rfl⟩
          have s30 : s3 ≤ 0 := by
            rcases Int.lt_or_le 0 s3 with h | h
            · rw [← hs3] at h; have := (sgn_gt _).1 h; omega
            · exact h
          have s40 : s4 ≤ 0 := by
            rcases Int.lt_or_le 0 s4 with h | h
            · rw [← hs4] at h; have := (sgn_gt _).1 h; omega
            · exact h
          have HS3 := Lib.hid hs3
          have HS4 := Lib.hid hs4
          clear hs3 hs4 m1 m2
          go_wp2_with fail
          refine (compare_any a1 a2 N D _ (by omega) (by omega) (by omega) (by omega) (by omega) (by omega) (by omega) (by omega)).mono ?_
          rw [HS3.out]
          rintro e w5 ⟨rfl, hb5⟩
          obtain ⟨hc5, hf5⟩ := bcell hb5
          go_wp2_with fail
          refine (compare_any N D b1 b2 _ (by omega) (by omega) (by omega) (by omega) (by omega) (by omega) (by omega) (by omega)).mono ?_
          rw [HS4.out]
          rintro e w6 ⟨rfl, hb6⟩
          have HB6 := Lib.hid (bthen HB4.out (bthen hb5 hb6))
          clear hb5 hb6 hc5 hf5
          go_wp2_with fail
          go_ret
          exact ⟨rfl, HB6.out⟩
        · have hne : (c == 0) = false := by simpa using hz
          clear hz
          go_wp2_with fail
          go_ret
          exact ⟨rfl, HB4.out⟩
  · refine (Bounds_err F _ _ e0 _ HF1.out he0 hz).mono ?_
    rintro e w2 ⟨rfl, hb⟩
    have HF2 := Lib.hid (((HF1.out.below hb).alloc raO).alloc raO)
    have BP2 := Lib.hid (((BP1.out.below hb).alloc raO).alloc raO)
    have BR2 := Lib.hid (((BR1.out.below hb).alloc raO).alloc raO)
    have hbb := bthen HB1.out hb
    have hbc := hbb.alloc hbb.size raO
    have HB2 := Lib.hid (hbc.alloc hbc.size raO)
    have hne : (e0 == 0) = false := by simpa using hz
    have hcc : ccV F N D n ≠ 0 := fun h => by
      obtain ⟨hO, hc, _⟩ := ccV_0 h
      exact hz (he0.symm.trans (rdE_0 ((okFl_iff F).2 hO) rfl hc))
    obtain ⟨c, hc⟩ : ∃ c, ccV F N D n = c := ⟨_, rfl⟩
    rw [hc] at hcc
    have hcn : (c == 0) = false := by simpa using hcc
    have HC := Lib.hid hc
    have r0 := BR2.out.cell 0
    have r1 := BR2.out.cell 1
    have rl := BR2.out.lt
    simp only [List.getElem?_cons_zero, List.getElem?_cons_succ] at r0 r1
    clear hb hbb hbc HF1 BP1 BR1 HB1 hz he0 hcc hc
    go_wp2_with (first | (refine ld_at rfl (T := 30) rfl rfl BP2.out Tryz.underlying30 rfl (by kernel_rfl) ?_) | fail)
    refine (CheckCase_c F _ _ N D n c _ HF2.out HC.out).mono ?_
    rintro e w3 ⟨rfl, hb⟩
    have HB3 := Lib.hid (bthen HB2.out hb)
    clear hb
    go_wp2_with fail
    go_ret
    exact ⟨ret_bool (by simpa using hcn), HB3.out⟩
end Go.Proofs.YtnfndiafabhhdaaGreat
/- What CheckClash accepts: one to three items; none where a case is possible (Wear). Plain. -/
namespace Go.Proofs.YtnfndiafabhhdaaGreat
theorem inB_in {n lo hi : Int} (h : inB n lo hi = true) : lo ≤ n ∧ n ≤ hi := by simpa [inB] using h
theorem liA_get {l : List Int} {k : Nat} (hk : k < l.length) : liA l k = l[k] := by simp [liA, hk]
theorem its_in {F : Fl} {l : List Int} (h : itsB F l = true) {k : Nat} (hk : k < l.length) : (-2 ≤ liA l k ∧ liA l k ≤ (F.s.length : Int) - 1) ∧ (0 < k → liA l (k - 1) < liA l k) := by
  have := List.all_eq_true.1 h k (List.mem_range.2 hk)
  simp only [itB, Bool.and_eq_true, Bool.not_eq_true', Bool.and_eq_false_iff, decide_eq_false_iff_not] at this
  exact ⟨inB_in this.1, fun k0 => by rcases this.2 with h | h <;> omega⟩
theorem its_lt {F : Fl} {l : List Int} (h : itsB F l = true) {j : Nat} : ∀ k : Nat, k < l.length → j < k → liA l j < liA l k := by
  intro k
  induction k with
  | zero => intro _ hj; omega
  | succ k ih =>
    intro hk hj
    have s := (its_in h hk).2 (by omega)
    rw [Nat.add_sub_cancel] at s
    rcases Nat.lt_or_ge j k with c | c
    · have := ih (by omega) c; omega
    · have : j = k := by omega
      subst this; exact s
theorem its_nd {F : Fl} {l : List Int} (h : itsB F l = true) : l.Nodup := by
  rw [List.Nodup, List.pairwise_iff_getElem]
  intro i j hi hj hij e
  have := its_lt h j hj hij
  rw [liA_get hi, liA_get hj] at this
  omega
theorem its_all {F : Fl} {l : List Int} (h : itsB F l = true) : ∀ i ∈ l, -2 ≤ i ∧ i < F.s.length := fun i hi => by
  obtain ⟨k, hk, rfl⟩ := List.getElem_of_mem hi
  have := (its_in h hk).1
  rw [liA_get hk] at this
  omega
theorem but_mem {l : List Int} {k : Nat} (hk : k < l.length) {j : Int} (hj : j ∈ l) (ne : j ≠ l[k]) : j ∈ butL l k := by
  obtain ⟨i, hi, rfl⟩ := List.getElem_of_mem hj
  unfold butL
  rw [List.mem_append]
  rcases Nat.lt_trichotomy i k with c | c | c
  · exact .inl (List.mem_take_iff_getElem.2 ⟨i, by omega, rfl⟩)
  · subst c; exact absurd rfl ne
  · exact .inr (List.mem_drop_iff_getElem.2 ⟨i - (k + 1), by omega, by congr 1; omega⟩)
theorem but_sub {l : List Int} {k : Nat} {j : Int} (hj : j ∈ butL l k) : j ∈ l := by
  unfold butL at hj
  rw [List.mem_append] at hj
  exact hj.elim List.mem_of_mem_take List.mem_of_mem_drop
structure CkOk (F : Fl) (l : List Int) : Prop where
  its : itsB F l = true
  no : canI F l = false
  min : ∀ j, j < l.length → canI F (butL l j) = true
  one : 1 ≤ l.length
  thr : l.length ≤ 3
theorem ck_ok {F : Fl} (h : OkF F) {l : List Int} (h1 : itsB F l = true) (h2 : canI F l = false) (h3 : ∀ j, j < l.length → canI F (butL l j) = true) : CkOk F l := by
  have al := its_all h1
  refine ⟨h1, h2, h3, ?_, ?_⟩
  · cases l with
    | nil => rw [can_nil h] at h2; cases h2
    | cons a l => simp
  · refine three h (fun i hi => (al i hi).2) (its_nd h1) h2 fun i hi => ?_
    obtain ⟨k, hk, rfl⟩ := List.getElem_of_mem hi
    exact ⟨butL l k, fun j hj => (al j (but_sub hj)).2, fun j hj ne => but_mem hk hj ne, h3 k hk⟩
theorem ck_of {F : Fl} {l : List Int} (h : ckV F l = 0) : CkOk F l := by
  unfold ckV at h
  split at h
  · rename_i ho
    split at h
    · rename_i hb
      simp only [ckB, Bool.and_eq_true, Bool.not_eq_true', List.all_eq_true, List.mem_range] at hb
      exact ck_ok ((okFl_iff F).1 ho) hb.1 hb.2.1 hb.2.2
    · omega
  · omega
theorem CkOk.ck {F : Fl} {l : List Int} (ho : okFl F = true) (c : CkOk F l) : ckV F l = 0 := ck_yes ho (by
  simp only [ckB, Bool.and_eq_true, Bool.not_eq_true', List.all_eq_true, List.mem_range]
  exact ⟨c.its, c.no, c.min⟩)
theorem ck_or (F : Fl) (l : List Int) : ckV F l = 0 ∨ ckV F l = 32 ∨ ckV F l = 30 := by
  unfold ckV
  split
  · split
    · exact .inl rfl
    · exact .inr (.inl rfl)
  · exact .inr (.inr rfl)
theorem allL_mm {F : Fl} {i : Int} : i ∈ allL F ↔ -2 ≤ i ∧ i < F.s.length := allI_mem (F := F)
theorem ck_can {F : Fl} (h : OkF F) (hc : canI F (allL F) = true) {l : List Int} : ckV F l ≠ 0 := fun k => by
  have c := ck_of k
  have al := its_all c.its
  have := can_sub h (J := l) (fun i hi => (allL_mm.1 hi).2) (fun i hi => allL_mm.2 (al i hi)) hc
  rw [c.no] at this
  cases this
theorem all_pw (F : Fl) : (allL F).Pairwise (· < ·) := by
  show (List.map _ _).Pairwise _
  rw [List.pairwise_map]
  exact List.pairwise_lt_range.imp fun h => by omega
theorem cl_ck {F : Fl} (h : OkF F) {L : List Int} (c : ClOk F L) : CkOk F L := by
  have pw := (all_pw F).sublist c.sub
  refine ck_ok h ?_ c.no fun j hj => c.min j hj
  refine List.all_eq_true.2 fun k hk => ?_
  rw [List.mem_range] at hk
  have m := allL_mm.1 (c.sub.subset (List.getElem_mem hk))
  simp only [itB, Bool.and_eq_true, Bool.not_eq_true', Bool.and_eq_false_iff, decide_eq_false_iff_not]
  refine ⟨?_, ?_⟩
  · rw [liA_get hk]; simp [inB]; omega
  · rcases Nat.eq_zero_or_pos k with c | c
    · exact .inl (by omega)
    · right
      rw [liA_get hk, liA_get (show k - 1 < L.length by omega)]
      have := List.pairwise_iff_getElem.1 pw (k - 1) k (by omega) hk (by omega)
      omega
end Go.Proofs.YtnfndiafabhhdaaGreat
/- Either a case is possible, or one to three items contradict each other, never both (WearEither): the walk. -/
namespace Go.Proofs.YtnfndiafabhhdaaGreat
open Go.ChangeShapes Go.WideShapes Go.ChangeAt Go.RowKit
theorem Case_yes (F : Fl) (vv vs : Value) (w : World) (hF : FlIn w F vv vs) (ho : okFl F = true) (hc : canI F (allL F) = true) :
    Calls Tryz.prog 62 #[flV F vv vs] w fun e w' => (∃ a b i : Int, ccV F a b i = 0 ∧ e = .returned (.tuple #[.agg #[.int .i64 a, .int .i64 b], .int .i64 i, .bool true, .int .i64 0])) ∧ Below w.heap.size w w' := by
  refine (Case_any F vv vs w hF).mono ?_
  rintro e w' ⟨(⟨h, _⟩ | ⟨_, i, _, _, h, rfl⟩), hb⟩
  · exact absurd (rdE_0 ho rfl hc) h
  · exact ⟨⟨_, _, i, h, rfl⟩, hb⟩
theorem Case_no (F : Fl) (vv vs : Value) (w : World) (hF : FlIn w F vv vs) (ho : okFl F = true) (hc : canI F (allL F) = false) :
    Calls Tryz.prog 62 #[flV F vv vs] w fun e w' => e = .returned (.tuple #[raZ, .int .i64 0, .bool false, .int .i64 0]) ∧ Below w.heap.size w w' := by
  refine (Case_any F vv vs w hF).mono ?_
  rintro e w' ⟨(⟨_, rfl⟩ | ⟨h, _⟩), hb⟩
  · exact ⟨by rw [show chkF F = 0 by unfold chkF; rw [if_pos ho]], hb⟩
  · rw [rdE_31 ho rfl hc] at h
    cases h
theorem Clash_yes (F : Fl) (vv vs : Value) (w : World) (hF : FlIn w F vv vs) (ho : okFl F = true) (hc : canI F (allL F) = true) :
    Calls Tryz.prog 40 #[flV F vv vs] w fun e w' => e = .returned (.tuple #[.slice none 0 0, .bool false, .int .i64 0]) ∧ Below w.heap.size w w' := by
  refine (Clash_any F vv vs w hF).mono ?_
  rintro e w' ⟨(⟨h, _⟩ | ⟨_, _, rfl⟩ | ⟨_, h, _⟩), hb⟩
  · rw [ho] at h; cases h
  · exact ⟨rfl, hb⟩
  · rw [hc] at h; cases h
theorem Clash_no (F : Fl) (vv vs : Value) (w : World) (hF : FlIn w F vv vs) (ho : okFl F = true) (hc : canI F (allL F) = false) :
    Calls Tryz.prog 40 #[flV F vv vs] w fun e w' => (∃ o m c L, e = .returned (.tuple #[.slice o m c, .bool true, .int .i64 0]) ∧ Ints w' (.slice o m c) L ∧ m ≤ c ∧ CkOk F L) ∧ Below w.heap.size w w' := by
  refine (Clash_any F vv vs w hF).mono ?_
  rintro e w' ⟨(⟨h, _⟩ | ⟨_, h, _⟩ | ⟨_, _, v, L, rfl, hL, ⟨o, m, c, rfl, hm⟩, hcl⟩), hb⟩
  · rw [ho] at h; cases h
  · rw [hc] at h; cases h
  · exact ⟨⟨o, m, c, L, rfl, hL, hm, cl_ck ((okFl_iff F).1 ho) hcl⟩, hb⟩
theorem CheckClash_c (F : Fl) (vv vs : Value) (l : List Int) (o : Option Addr) (m c : Nat) (k : Int) (w : World) (hF : FlIn w F vv vs) (hl : Ints w (.slice o m c) l) (hmc : m ≤ c) (h4 : m ≤ 400) (hk : ckV F l = k) :
    Calls Tryz.prog 41 #[flV F vv vs, .slice o m c] w fun e w' => e = .returned (.int .i64 k) ∧ Below w.heap.size w w' := by
  rw [← hk]; exact CheckClash_any F vv vs l o m c w hF hl hmc h4
theorem cc_or {F : Fl} (ho : okFl F = true) (N D n : Int) : ccV F N D n = 0 ∨ ccV F N D n = 1 ∨ ccV F N D n = 31 := by
  unfold ccV
  rw [if_pos ho]
  split
  · split
    · exact .inl rfl
    · exact .inr (.inr rfl)
  · exact .inr (.inl rfl)
theorem ck_or2 {F : Fl} (ho : okFl F = true) (l : List Int) : ckV F l = 0 ∨ ckV F l = 32 := by
  unfold ckV
  rw [if_pos ho]
  split
  · exact .inl rfl
  · exact .inr rfl
set_option maxRecDepth 100000 in
set_option maxHeartbeats 4000000 in
theorem law_either (F : Fl) (vv vs : Value) (N D n : Int) (l : List Int) (o : Option Addr) (m c : Nat) (w : World) (hF : FlIn w F vv vs) (_ : I64 N ∧ I64 D) (_ : -9223372036854775808 ≤ n) (_ : n ≤ 9223372036854775807) (hl : Ints w (.slice o m c) l ∧ m ≤ c) :
    Calls Tryz.prog 16 #[flV F vv vs, .agg #[.int .i64 N, .int .i64 D], .int .i64 n, .slice o m c] w fun e w' => e = .returned (.bool true) ∧ Below w.heap.size w w' := by
  obtain ⟨os, cs, rfl, ms⟩ := hF.s.parts
  obtain ⟨ov, cv, rfl, mv⟩ := hF.v.parts
  obtain ⟨sl, hsl⟩ : ∃ k, F.s.length = k := ⟨_, rfl⟩
  obtain ⟨vl, hvl⟩ : ∃ k, F.v.length = k := ⟨_, rfl⟩
  rw [hsl] at hF ms ⊢
  rw [hvl] at hF mv ⊢
  have HSL := Lib.hid hsl
  have HVL := Lib.hid hvl
  clear hsl hvl
  have HF := Lib.hid (hF.alloc (flO F (.slice ov vl cv) (.slice os sl cs)))
  have BP := Lib.hid (Bk.new w 30 (flL F (.slice ov vl cv) (.slice os sl cs)))
  clear hF
  have hmc := hl.2
  have BR := Lib.hid (Bk.new1 w (flO F (.slice ov vl cv) (.slice os sl cs)) 41 [.int .i64 N, .int .i64 D])
  have HL := Lib.hid ((hl.1.alloc (flO F (.slice ov vl cv) (.slice os sl cs))).alloc (Obj.cells #[.int .i64 N, .int .i64 D] 41))
  clear hl
  go_enter Tryz.func16, Tryz.ntmps16
  go_wp2_with fail
  refine (sane_any _).mono ?_
  rintro e w1 ⟨rfl, hb⟩
  have HF1 := Lib.hid ((HF.out.alloc (Obj.cells #[.int .i64 N, .int .i64 D] 41)).below hb)
  have BP1 := Lib.hid ((BP.out.alloc (Obj.cells #[.int .i64 N, .int .i64 D] 41)).below hb)
  have BR1 := Lib.hid (BR.out.below hb)
  have HL1 := Lib.hid (HL.out.below hb)
  have HB1 := Lib.hid (bafter (bafter hb))
  clear hb HF BP BR HL
  go_wp2_with (first | (refine ld_at rfl (T := 30) rfl rfl BP1.out Tryz.underlying30 rfl (by kernel_rfl) ?_) | fail)
  cases ho : okFl F with
  | false =>
    refine (Check_c F _ _ 30 _ HF1.out (by unfold chkF; rw [if_neg (by rw [ho]; decide)])).mono ?_
    rintro e w2 ⟨rfl, hb⟩
    have HF2 := Lib.hid (HF1.out.below hb)
    have BP2 := Lib.hid (BP1.out.below hb)
    have BR2 := Lib.hid (BR1.out.below hb)
    have HL2 := Lib.hid (HL1.out.below hb)
    have HB2 := Lib.hid (bthen HB1.out hb)
    clear hb HF1 BP1 BR1 HL1 HB1
    go_wp2_with fail
    go_ret
    exact ⟨rfl, HB2.out⟩
  | true =>
    have hO := (okFl_iff F).1 ho
    refine (Check_c F _ _ 0 _ HF1.out (by unfold chkF; rw [if_pos ho])).mono ?_
    rintro e w2 ⟨rfl, hb⟩
    have HF2 := Lib.hid (HF1.out.below hb)
    have BP2 := Lib.hid (BP1.out.below hb)
    have BR2 := Lib.hid (BR1.out.below hb)
    have HL2 := Lib.hid (HL1.out.below hb)
    have HB2 := Lib.hid (bthen HB1.out hb)
    clear hb HF1 BP1 BR1 HL1 HB1
    by_cases hm : m ≤ 24
    · go_wp2_with (first | (refine ld_at rfl (T := 30) rfl rfl BP2.out Tryz.underlying30 rfl (by kernel_rfl) ?_) | fail)
      cases hc : canI F (allL F) with
      | true =>
        refine (Case_yes F _ _ _ HF2.out ho hc).mono ?_
        rintro e w3 ⟨⟨a, b, i, hcc, rfl⟩, hb⟩
        have hb' := hb.alloc hb.size (Obj.cells #[.int .i64 a, .int .i64 b] 41)
        have HF3 := Lib.hid (HF2.out.below hb')
        have BP3 := Lib.hid (BP2.out.below hb')
        have BR3 := Lib.hid (BR2.out.below hb')
        have HL3 := Lib.hid (HL2.out.below hb')
        have HB3 := Lib.hid (bthen HB2.out hb')
        have BO3 := Lib.hid (Bk.new w3 41 [.int .i64 a, .int .i64 b])
        clear hb hb' HF2 BP2 BR2 HL2 HB2
        have HCC := Lib.hid hcc
        clear hcc
        go_wp2_with (first | (refine ld_at rfl (T := 30) rfl rfl BP3.out Tryz.underlying30 rfl (by kernel_rfl) ?_) | fail)
        refine (Clash_yes F _ _ _ HF3.out ho hc).mono ?_
        have BO := BO3
        rintro e w4 ⟨rfl, hb⟩
        have BO4 := Lib.hid (BO3.out.below hb)
        clear BO BO3
        have HF4 := Lib.hid (HF3.out.below hb)
        have BP4 := Lib.hid (BP3.out.below hb)
        have BR4 := Lib.hid (BR3.out.below hb)
        have HL4 := Lib.hid (HL3.out.below hb)
        have HB4 := Lib.hid (bthen HB3.out hb)
        clear hb HF3 BP3 BR3 HL3 HB3
        go_wp2_with (first | (refine ld_at rfl (T := 30) rfl rfl BP4.out Tryz.underlying30 rfl (by kernel_rfl) ?_) | fail)
        refine (Possible_c F _ _ true _ HF4.out ho hc).mono ?_
        rintro e w5 ⟨rfl, hb⟩
        have BO5 := Lib.hid (BO4.out.below hb)
        have HF5 := Lib.hid (HF4.out.below hb)
        have BP5 := Lib.hid (BP4.out.below hb)
        have BR5 := Lib.hid (BR4.out.below hb)
        have HL5 := Lib.hid (HL4.out.below hb)
        have HB5 := Lib.hid (bthen HB4.out hb)
        clear hb HF4 BP4 BR4 HL4 HB4 BO4
        have c0 := BP5.out.cell 0
        have c1 := BP5.out.cell 1
        have c2 := BP5.out.cell 2
        have c3 := BP5.out.cell 3
        have c4 := BP5.out.cell 4
        have c5 := BP5.out.cell 5
        have cl := BP5.out.lt
        have r0 := BO5.out.cell 0
        have r1 := BO5.out.cell 1
        have rl := BO5.out.lt
        simp only [List.getElem?_cons_zero, List.getElem?_cons_succ] at c0 c1 c2 c3 c4 c5 r0 r1
        go_wp2_with fail
        clear c0 c1 c2 c3 c4 c5 cl r0 r1 rl
        refine (CheckCase_c F _ _ a b i 0 _ HF5.out HCC.out).mono ?_
        rintro e w6 ⟨rfl, hb⟩
        have HF6 := Lib.hid (HF5.out.below hb)
        have BP6 := Lib.hid (BP5.out.below hb)
        have BR6 := Lib.hid (BR5.out.below hb)
        have HL6 := Lib.hid (HL5.out.below hb)
        have HB6 := Lib.hid (bthen HB5.out hb)
        clear hb HF5 BP5 BR5 HL5 HB5
        clear BO5
        have HC2 := Lib.hid (show ckV F l = 32 by
          rcases ck_or2 ho l with h | h
          · exact absurd h (ck_can hO hc)
          · exact h)
        go_wp2_with (first | (refine ld_at rfl (T := 30) rfl rfl BP6.out Tryz.underlying30 rfl (by kernel_rfl) ?_) | (refine ld_at rfl (T := 41) rfl rfl BR6.out Tryz.underlying41 rfl (by kernel_rfl) ?_) | fail)
        obtain ⟨c1, hc1⟩ : ∃ c, ccV F N D n = c := ⟨_, rfl⟩
        have hq := hc1 ▸ cc_or ho N D n
        refine (CheckCase_c F _ _ N D n c1 _ HF6.out hc1).mono ?_
        rintro e w9 ⟨rfl, hb⟩
        have HF9 := Lib.hid (HF6.out.below hb)
        have BP9 := Lib.hid (BP6.out.below hb)
        have BR9 := Lib.hid (BR6.out.below hb)
        have HL9 := Lib.hid (HL6.out.below hb)
        have HB9 := Lib.hid (bthen HB6.out hb)
        clear hb HF6 BP6 BR6 HL6 HB6
        clear hc1
        rcases hq with rfl | rfl | rfl
        all_goals
          have c0 := BP9.out.cell 0
          have c1 := BP9.out.cell 1
          have c2 := BP9.out.cell 2
          have c3 := BP9.out.cell 3
          have c4 := BP9.out.cell 4
          have c5 := BP9.out.cell 5
          have cl := BP9.out.lt
          have r0 := BR9.out.cell 0
          have r1 := BR9.out.cell 1
          have rl := BR9.out.lt
          simp only [List.getElem?_cons_zero, List.getElem?_cons_succ] at c0 c1 c2 c3 c4 c5 r0 r1
          go_wp2_with fail
          clear c0 c1 c2 c3 c4 c5 cl r0 r1 rl
          refine (CheckClash_c F _ _ l o m c 32 _ HF9.out HL9.out hmc (by omega) HC2.out).mono ?_
          rintro e w10 ⟨rfl, hb⟩
          have HF10 := Lib.hid (HF9.out.below hb)
          have BP10 := Lib.hid (BP9.out.below hb)
          have BR10 := Lib.hid (BR9.out.below hb)
          have HL10 := Lib.hid (HL9.out.below hb)
          have HB10 := Lib.hid (bthen HB9.out hb)
          clear hb HF9 BP9 BR9 HL9 HB9
          go_wp2_with fail
          go_ret
          exact ⟨rfl, HB10.out⟩
      | false =>
        refine (Case_no F _ _ _ HF2.out ho hc).mono ?_
        rintro e w3 ⟨rfl, hb⟩
        have hb' := hb.alloc hb.size (Obj.cells #[.int .i64 0, .int .i64 0] 41)
        have HF3 := Lib.hid (HF2.out.below hb')
        have BP3 := Lib.hid (BP2.out.below hb')
        have BR3 := Lib.hid (BR2.out.below hb')
        have HL3 := Lib.hid (HL2.out.below hb')
        have HB3 := Lib.hid (bthen HB2.out hb')
        have BO3 := Lib.hid (Bk.new w3 41 [.int .i64 0, .int .i64 0])
        clear hb hb' HF2 BP2 BR2 HL2 HB2
        clear BO3
        go_wp2_with (first | (refine ld_at rfl (T := 30) rfl rfl BP3.out Tryz.underlying30 rfl (by kernel_rfl) ?_) | fail)
        refine (Clash_no F _ _ _ HF3.out ho hc).mono ?_
        rintro e w4 ⟨⟨o2, m2, k2, L, rfl, hL2, hmk, hck⟩, hb⟩
        have HF4 := Lib.hid (HF3.out.below hb)
        have BP4 := Lib.hid (BP3.out.below hb)
        have BR4 := Lib.hid (BR3.out.below hb)
        have HL4 := Lib.hid (HL3.out.below hb)
        have HB4 := Lib.hid (bthen HB3.out hb)
        have hlen := hL2.len
        have hm2 : 1 ≤ m2 ∧ m2 ≤ 3 := by have := hck.one; have := hck.thr; omega
        have HCK := Lib.hid (hck.ck ho)
        have HQ4 := Lib.hid hL2
        clear hb HF3 BP3 BR3 HL3 HB3 hL2 hlen hck
        obtain ⟨hm21, hm22⟩ := hm2
        go_wp2_with (first | (refine ld_at rfl (T := 30) rfl rfl BP4.out Tryz.underlying30 rfl (by kernel_rfl) ?_) | fail)
        refine (Possible_c F _ _ false _ HF4.out ho hc).mono ?_
        rintro e w5 ⟨rfl, hb⟩
        have HQ5 := Lib.hid (HQ4.out.below hb)
        have HF5 := Lib.hid (HF4.out.below hb)
        have BP5 := Lib.hid (BP4.out.below hb)
        have BR5 := Lib.hid (BR4.out.below hb)
        have HL5 := Lib.hid (HL4.out.below hb)
        have HB5 := Lib.hid (bthen HB4.out hb)
        clear hb HF4 BP4 BR4 HL4 HB4 HQ4
        have c0 := BP5.out.cell 0
        have c1 := BP5.out.cell 1
        have c2 := BP5.out.cell 2
        have c3 := BP5.out.cell 3
        have c4 := BP5.out.cell 4
        have c5 := BP5.out.cell 5
        have cl := BP5.out.lt
        have r0 := BR5.out.cell 0
        have r1 := BR5.out.cell 1
        have rl := BR5.out.lt
        simp only [List.getElem?_cons_zero, List.getElem?_cons_succ] at c0 c1 c2 c3 c4 c5 r0 r1
        go_wp2_with fail
        clear c0 c1 c2 c3 c4 c5 cl r0 r1 rl
        refine (CheckClash_c F _ _ L o2 m2 k2 0 _ HF5.out HQ5.out hmk (by omega) HCK.out).mono ?_
        rintro e w6 ⟨rfl, hb⟩
        have HF6 := Lib.hid (HF5.out.below hb)
        have BP6 := Lib.hid (BP5.out.below hb)
        have BR6 := Lib.hid (BR5.out.below hb)
        have HL6 := Lib.hid (HL5.out.below hb)
        have HB6 := Lib.hid (bthen HB5.out hb)
        clear hb HF5 BP5 BR5 HL5 HB5
        clear HQ5
        go_wp2_with (first | (refine ld_at rfl (T := 30) rfl rfl BP6.out Tryz.underlying30 rfl (by kernel_rfl) ?_) | (refine ld_at rfl (T := 41) rfl rfl BR6.out Tryz.underlying41 rfl (by kernel_rfl) ?_) | fail)
        obtain ⟨c1, hc1⟩ : ∃ c, ccV F N D n = c := ⟨_, rfl⟩
        have hc1n : c1 ≠ 0 := fun h => by
          rw [h] at hc1
          obtain ⟨_, k, _⟩ := ccV_0 hc1
          rw [hc] at k
          cases k
        have hq : c1 = 1 ∨ c1 = 31 := by have := hc1 ▸ cc_or ho N D n; omega
        refine (CheckCase_c F _ _ N D n c1 _ HF6.out hc1).mono ?_
        rintro e w7 ⟨rfl, hb⟩
        have HF7 := Lib.hid (HF6.out.below hb)
        have BP7 := Lib.hid (BP6.out.below hb)
        have BR7 := Lib.hid (BR6.out.below hb)
        have HL7 := Lib.hid (HL6.out.below hb)
        have HB7 := Lib.hid (bthen HB6.out hb)
        clear hb HF6 BP6 BR6 HL6 HB6
        clear hc1 hc1n
        obtain ⟨c2, hc2⟩ : ∃ c, ckV F l = c := ⟨_, rfl⟩
        have hr := hc2 ▸ ck_or2 ho l
        have HC2 := Lib.hid hc2
        clear hc2
        rcases hq with rfl | rfl
        all_goals
          have c0 := BP7.out.cell 0
          have c1 := BP7.out.cell 1
          have c2 := BP7.out.cell 2
          have c3 := BP7.out.cell 3
          have c4 := BP7.out.cell 4
          have c5 := BP7.out.cell 5
          have cl := BP7.out.lt
          have r0 := BR7.out.cell 0
          have r1 := BR7.out.cell 1
          have rl := BR7.out.lt
          simp only [List.getElem?_cons_zero, List.getElem?_cons_succ] at c0 c1 c2 c3 c4 c5 r0 r1
          go_wp2_with fail
          clear c0 c1 c2 c3 c4 c5 cl r0 r1 rl
          refine (CheckClash_c F _ _ l o m c c2 _ HF7.out HL7.out hmc (by omega) HC2.out).mono ?_
          rintro e w8 ⟨rfl, hb⟩
          have HF8 := Lib.hid (HF7.out.below hb)
          have BP8 := Lib.hid (BP7.out.below hb)
          have BR8 := Lib.hid (BR7.out.below hb)
          have HL8 := Lib.hid (HL7.out.below hb)
          have HB8 := Lib.hid (bthen HB7.out hb)
          clear hb HF7 BP7 BR7 HL7 HB7
          clear HC2
          rcases hr with rfl | rfl
          all_goals
            go_wp2_with fail
            go_ret
            exact ⟨rfl, HB8.out⟩
    · go_wp2_with fail
      go_ret
      exact ⟨rfl, HB2.out⟩
theorem sn_app (L : List Sn) (x : Sn) : cellsL (snF (L ++ [x])) 4 (L.length + 1) = cellsL (snF L) 4 L.length ++ [.int .i64 x.lo, .int .i64 x.hi, .int .i64 x.k.lv, .int .i64 x.k.er] := by
  rw [cellsL, cellsL_congr (g := snF L)]
  · have : snA (L ++ [x]) L.length = x := by simp [snA]
    simp [List.range_succ, snF, this]
  · intro i j hi _
    have : snA (L ++ [x]) i = snA L i := by simp [snA, List.getElem?_append_left hi]
    simp only [snF, this]
section
variable {F : Fl} {A : List Int} {x : Int}
theorem wid2 (h : x = -2) : widF F (A ++ [x]) = ⟨F.v, (widF F A).f, F.wlo, F.whi, (widF F A).s⟩ := by
  subst h
  simp [widF]
theorem wid1 (h : x = -1) : widF F (A ++ [x]) = ⟨F.v, F.f, (widF F A).wlo, (widF F A).whi, (widF F A).s⟩ := by
  subst h
  simp [widF]
theorem widS (h : 0 ≤ x) (h2 : x < F.s.length) : widF F (A ++ [x]) = ⟨F.v, (widF F A).f, (widF F A).wlo, (widF F A).whi, (widF F A).s ++ [sn F x]⟩ := by
  have e1 : ¬ (-1 : Int) = x := by omega
  have e2 : ¬ (-2 : Int) = x := by omega
  simp [widF, e1, e2, h, h2]
theorem widN (h1 : x ≠ -1) (h2 : x ≠ -2) (h3 : ¬ (0 ≤ x ∧ x < F.s.length)) : widF F (A ++ [x]) = widF F A := by
  have e1 : ¬ (-1 : Int) = x := by omega
  have e2 : ¬ (-2 : Int) = x := by omega
  have e3 : 0 ≤ x → ¬ x < F.s.length := fun a b => h3 ⟨a, b⟩
  simp [widF, e1, e2, List.filter_append]
  intro a
  exact Int.not_lt.1 (e3 a)
end
theorem take_it {l : List Int} {k : Nat} (hk : k < l.length) : l.take (k + 1) = l.take k ++ [l[k]?.getD 0] := by
  rw [List.take_add_one, List.getElem?_eq_getElem hk]
  rfl
theorem wid_len (F : Fl) (A : List Int) : (widF F A).s.length ≤ A.length := by
  simp only [widF, List.length_map]
  exact List.length_filter_le _ _
theorem step_stw {P : Program} {ops : Array Oper} {o : Oper} {a : Act} {w : World} {K : Act → World → Prop} {Q : Exit → Act → World → Prop} {X : Prop} (hgd : o.guard = none) {T : TypeId} {x y : Operand} (ho : o.op = .store T x y)
    {b : Nat} (hx : a.eval x = .pointer (some ⟨b, 0, none⟩)) {cs old : List Value} (hy : a.eval y = .agg cs.toArray) {T' : TypeId} (hg : Bk w b T' old) (hi : (P.info? T).map (·.size) = some cs.length)
    (hl : old.length = cs.length) (h1 : cs.all (·.oneCell') = true)
    (h : ∀ w', Bk w' b T' cs → Bes b w w' → K (a.put o.dst undef) w') : if Region.wanted o (yielded ops a.tmps) = true then Oper.wp P o a w K Q else X := by
  have hw : Region.wanted o (yielded ops a.tmps) = true := by simp [Region.wanted, hgd]
  rw [if_pos hw]
  exact wp_store_row T x y ho b cs.toArray hx hy T' old.toArray hg (by simpa using hi) (by simpa using hl) (by simpa using h1) (h _ (setRow_heap w b _ _ _ _ hg) (bes_setRow _))
set_option maxRecDepth 100000 in
set_option maxHeartbeats 4000000 in
theorem widest_any (F : Fl) (vv vs : Value) (l : List Int) (o : Option Addr) (m c : Nat) (w : World) (hF : FlIn w F vv vs) (hn : F.s.length ≤ 24) (hl : Ints w (.slice o m c) l) (hm : m ≤ 24) :
    Calls Tryz.prog 43 #[flV F vv vs, .int .i64 (hgt F.v), .slice o m c] w fun e w' => (∃ a b, e = .returned (flV (widF F l) vv (.slice a (widF F l).s.length b)) ∧ FlIn w' (widF F l) vv (.slice a (widF F l).s.length b)) ∧ Below w.heap.size w w' := by
  have hlen := hl.len
  obtain ⟨os, cs, rfl, ms⟩ := hF.s.parts
  obtain ⟨ov, cv, rfl, mv⟩ := hF.v.parts
  obtain ⟨ls, hls⟩ : ∃ n, F.s.length = n := ⟨_, rfl⟩
  obtain ⟨lv, hlv⟩ : ∃ n, F.v.length = n := ⟨_, rfl⟩
  have HSL := Lib.hid hls
  have HVL := Lib.hid hlv
  rw [hls] at hF hn ms ⊢
  rw [hlv] at hF mv ⊢
  have HF00 := Lib.hid hF
  have hF0 := (hF.alloc (flO F (.slice ov lv cv) (.slice os ls cs))).alloc (Obj.cells flZ.toArray 30)
  have hL0 := (hl.alloc (flO F (.slice ov lv cv) (.slice os ls cs))).alloc (Obj.cells flZ.toArray 30)
  have hB := (Bk.new w 30 (flL F (.slice ov lv cv) (.slice os ls cs))).alloc (Obj.cells flZ.toArray 30)
  have hZ := Bk.new1 w (flO F (.slice ov lv cv) (.slice os ls cs)) 30 flZ
  have hw0 : Below w.heap.size w ((w.alloc (flO F (.slice ov lv cv) (.slice os ls cs))).alloc (Obj.cells flZ.toArray 30)) := (ballo _ _).alloc (by simp) _
  obtain ⟨W, hW⟩ : ∃ W, (w.alloc (flO F (.slice ov lv cv) (.slice os ls cs))).alloc (Obj.cells flZ.toArray 30) = W := ⟨_, rfl⟩
  rw [hW] at hF0 hB hZ hw0 hL0
  have HF0 := Lib.hid hF0
  have HB := Lib.hid hB
  have HZ := Lib.hid hZ
  have HW0 := Lib.hid hw0
  have HL0 := Lib.hid hL0
  have c0 := hB.cell 0
  have cl := hB.lt
  simp only [flL, List.getElem?_cons_zero] at c0
  obtain ⟨H, hH⟩ : ∃ H, hgt F.v = H := ⟨_, rfl⟩
  have HH := Lib.hid hH
  rw [hH]
  clear hF0 hB hZ hw0 hL0 hF hl hls hlv hH
  go_enter Tryz.func43, Tryz.ntmps43
  go_upto_region 1 with fail
  try rw [hW]
  clear hW
  go_cut [7] from 10 to 15 (fun p wx => ∃ ob, p = .pointer (some ⟨ob, 0, none⟩) ∧ W.heap.size ≤ ob ∧ Hid (Bk wx ob 30 [.slice ov lv cv, .int .i64 H, .int .i64 1000, .int .i64 1, .int .i64 4000, .slice none 0 0]) ∧ Hid (Below W.heap.size W wx))
  case first =>
    refine WpK.begin (S := fun _ => True) (kp := fun _ => true) (f := 8) (up := #[false, false, false, false, false, false, false, false]) (by kernel_rfl) (by kernel_rfl) (by kernel_rfl) ?_
    refine WpK.take (i := 0) (v := ?_) ((toArray_at _ _).trans rfl) (by kernel_rfl) (by kernel_rfl) (by kernel_rfl) (by kernel_rfl) (by kernel_rfl) (fun _ _ _ h => h) (Or.inl ⟨by rfl, ?_⟩) trivial ?_
    rotate_left
    · (intro x hx; go_simp <;> with_reducible rfl)
    simp only [Act.put, puts]
    refine WpK.take (i := 2) (v := ?_) ((toArray_at _ _).trans rfl) (by kernel_rfl) (by kernel_rfl) (by kernel_rfl) (by kernel_rfl) (by kernel_rfl) (fun _ _ _ h => h) (Or.inl ⟨by rfl, ?_⟩) trivial ?_
    rotate_left
    · (intro x hx; go_simp <;> with_reducible rfl)
    simp only [Act.put, puts]
    refine WpK.take (i := 4) (v := ?_) ((toArray_at _ _).trans rfl) (by kernel_rfl) (by kernel_rfl) (by kernel_rfl) (by kernel_rfl) (by kernel_rfl) (fun _ _ _ h => h) (Or.inl ⟨by rfl, ?_⟩) trivial ?_
    rotate_left
    · (intro x hx; go_simp <;> with_reducible rfl)
    simp only [Act.put, puts]
    refine WpK.weaken (S := fun x => Below W.heap.size W x) (kp := (fun i => decide (i < 7))) (fun _ => trivial) _ ?_
    have hS0 := (show Below W.heap.size W W.drew from (Below.refl _ _).drew)
    refine WpK.take (i := 1) (v := ?_) ((toArray_at _ _).trans rfl) (by kernel_rfl) (by kernel_rfl) (by kernel_rfl) (by kernel_rfl) (by kernel_rfl) (fun _ _ _ h => h) (Or.inl ⟨by rfl, ?_⟩) hS0 ?_
    rotate_left
    · (intro x hx; obtain ⟨hcx, hfx⟩ := bcell hx; go_simp <;> with_reducible rfl)
    try simp only [Act.put, puts]
    clear hS0 c0
    refine WpK.two (i := 3) (k := 6) (by kernel_rfl) ((toArray_at _ _).trans rfl) ((toArray_at _ _).trans rfl) ?_ ?_
    all_goals
      intro K hK
      have HK := Lib.hid hK
      clear hK
    · go_simp
      refine (look_any H 1000 _).mono ?_
      rintro e W2 ⟨rfl, hb2⟩
      have hW2 : Below W.heap.size W W2 := Below.trans (Below.drew (Below.refl _ _)) hb2
      refine HK.out _ _ (fun _ => hW2) (fun _ => ?_)
      clear HK K
      try simp only [puts]
      have hS0 := hW2
      refine WpK.take (i := 5) (v := ?_) ((toArray_at _ _).trans rfl) (by kernel_rfl) (by kernel_rfl) (by kernel_rfl) (by kernel_rfl) (by kernel_rfl) (fun _ _ _ h => h) (Or.inl ⟨by rfl, ?_⟩) hS0 ?_
      rotate_left
      · (intro x hx; clear hx; go_simp <;> with_reducible rfl)
      try simp only [Act.put, puts]
      clear hS0
      refine WpK.one (i := 6) (by kernel_rfl) ((toArray_at _ _).trans rfl) ?_
      intro K hK
      have HK := Lib.hid hK
      clear hK
      go_simp
      have hX : Below W.heap.size W (W2.alloc (Obj.cells flZ.toArray 30)) := hW2.alloc hW2.size _
      refine HK.out _ _ (fun _ => hX) (fun _ => ?_)
      clear HK K
      try simp only [puts]
      refine WpK.one (i := 7) (by kernel_rfl) ((toArray_at _ _).trans rfl) ?_
      intro K hK
      have HK := Lib.hid hK
      clear hK
      refine step_stw rfl rfl rfl (cs := [.slice ov lv cv, .int .i64 H, .int .i64 1000, .int .i64 1, .int .i64 4000, .slice none 0 0]) rfl (Bk.new W2 _ flZ) (by kernel_rfl) rfl rfl ?_
      intro WX hkk hsk
      have hWX := bes_then hX hsk hW2.size hX.size
      refine HK.out _ _ (fun h => absurd h (by decide)) (fun _ => ?_)
      clear HK K
      try simp only [puts]
      refine WpK.done (by kernel_rfl) ?_
      have HKK := Lib.hid hkk
      have HWX := Lib.hid hWX
      go_wp2_with fail
      go_meet
      case rel => exact ⟨_, rfl, hW2.size, HKK, HWX⟩
    · go_simp
      have hX1 : Below W.heap.size W (W.drew.alloc (Obj.cells flZ.toArray 30)) := (Below.drew (Below.refl _ _)).alloc (Nat.le_refl _) _
      refine HK.out _ _ (fun _ => hX1) (fun _ => ?_)
      clear HK K
      try simp only [puts]
      refine WpK.one (i := 3) (by kernel_rfl) ((toArray_at _ _).trans rfl) ?_
      intro K hK
      have HK := Lib.hid hK
      clear hK
      go_simp
      refine (look_any H 1000 _).mono ?_
      rintro e W2 ⟨rfl, hb2⟩
      have hX : Below W.heap.size W W2 := hX1.trans (hb2.mono hX1.size)
      refine HK.out _ _ (fun _ => hX) (fun _ => ?_)
      clear HK K
      try simp only [puts]
      refine WpK.one (i := 5) (by kernel_rfl) ((toArray_at _ _).trans rfl) ?_
      intro K hK
      have HK := Lib.hid hK
      clear hK
      go_simp
      refine HK.out _ _ (fun _ => hX) (fun _ => ?_)
      clear HK K
      try simp only [puts]
      refine WpK.one (i := 7) (by kernel_rfl) ((toArray_at _ _).trans rfl) ?_
      intro K hK
      have HK := Lib.hid hK
      clear hK
      refine step_stw rfl rfl rfl (cs := [.slice ov lv cv, .int .i64 H, .int .i64 1000, .int .i64 1, .int .i64 4000, .slice none 0 0]) rfl ((Bk.new W.drew _ flZ).below hb2) (by kernel_rfl) rfl rfl ?_
      intro WX hkk hsk
      have hWX := bes_then hX hsk (Nat.le_refl _) hX.size
      refine HK.out _ _ (fun h => absurd h (by decide)) (fun _ => ?_)
      clear HK K
      try simp only [puts]
      refine WpK.done (by kernel_rfl) ?_
      have HKK := Lib.hid hkk
      have HWX := Lib.hid hWX
      go_wp2_with fail
      go_meet
      case rel => exact ⟨_, rfl, (Nat.le_refl _), HKK, HWX⟩
  case rest =>
    rename World => w1
    obtain ⟨ob, rfl, hob, HO1, H01⟩ := hcut
    clear c0
    go_wp2_with fail
    go_loopw [18] (fun t wr => ∃ (k : Nat) (v : Value), k ≤ m ∧ t = .int .i64 (k : Int) ∧ Hid (wr.ownsRow (ob + 1) 88 4 v (widF F (l.take k)).s.length (cellsL (snF (widF F (l.take k)).s) 4 (widF F (l.take k)).s.length)) ∧ Hid (Bk wr ob 30 [.slice ov lv cv, .int .i64 (widF F (l.take k)).f.lv, .int .i64 (widF F (l.take k)).f.er, .int .i64 (widF F (l.take k)).wlo, .int .i64 (widF F (l.take k)).whi, v]) ∧ Hid (Below W.heap.size W wr)) (fun t _ => m - (intOf t).toNat)
    case atStart =>
      refine ⟨0, .slice none 0 0, Nat.zero_le _, rfl, Lib.hid (World.ownsRow_nil _ _ _ _), Lib.hid ?_, H01⟩
      have e : widF F (l.take 0) = ⟨F.v, ⟨H, 1000⟩, 1, 4000, []⟩ := by rw [← HH.out]; simp [widF]
      rw [e]
      exact HO1.out
    case round =>
      obtain ⟨k, v, hk, rfl, hOw, hBk, hBl⟩ := hrel
      have hF := HB.out.below hBl.out
      have c1 := hF.cell 1
      have c2 := hF.cell 2
      have c3 := hF.cell 3
      have c4 := hF.cell 4
      have c5 := hF.cell 5
      have cl := hF.lt
      simp only [flL, List.getElem?_cons_zero, List.getElem?_cons_succ] at c1 c2 c3 c4 c5
      have hq1 := hBk.out.cell 1
      have hq2 := hBk.out.cell 2
      have hq3 := hBk.out.cell 3
      have hq4 := hBk.out.cell 4
      have hq5 := hBk.out.cell 5
      have hr1 := hBk.out.frozen 1
      have hr2 := hBk.out.frozen 2
      have hr3 := hBk.out.frozen 3
      have hr4 := hBk.out.frozen 4
      have hql := hBk.out.lt
      simp only [List.getElem?_cons_zero, List.getElem?_cons_succ] at hq1 hq2 hq3 hq4 hq5
      have hneb : ob ≠ w.heap.size := by have := HB.out.lt; omega
      clear hF
      by_cases hkm : k < m
      · have hst := take_it (l := l) (k := k) (by omega)
        obtain ⟨p, off, rfl, hp, hcs⟩ := (HL0.out.below hBl.out).cells (by omega)
        have d0 := hcs k hkm
        obtain ⟨x, hx⟩ : ∃ x, l[k]?.getD 0 = x := ⟨_, rfl⟩
        rw [hx] at d0 hst
        have hwl := wid_len F (l.take k)
        rw [List.length_take] at hwl
        have hsp1 := fun h => wid1 (F := F) (A := l.take k) (x := x) h
        have hsp2 := fun h => wid2 (F := F) (A := l.take k) (x := x) h
        have hsp3 := fun h1 h2 => widS (F := F) (A := l.take k) (x := x) h1 h2
        have hsp4 := fun h1 h2 h3 => widN (F := F) (A := l.take k) (x := x) h1 h2 h3
        rw [← hst] at hsp1 hsp2 hsp3 hsp4
        obtain ⟨G, hG⟩ : ∃ G, widF F (l.take k) = G := ⟨_, rfl⟩
        rw [hG] at hsp1 hsp2 hsp3 hsp4 hOw hBk hq1 hq2 hq3 hq4 hwl
        have HWL := Lib.hid hwl
        clear hG hst hcs hx hwl
        by_cases h2 : x = -2
        · have HST := Lib.hid (hsp2 h2)
          subst h2
          clear hsp1 hsp2 hsp3 hsp4
          go_wp2_with fail
          refine ⟨⟨k + 1, v, by omega, by go_num, ?_, ?_, Lib.hid ((hBl.out.setCell hob _).setCell hob _)⟩, by simp [intOf]; omega⟩
          · rw [HST.out]
            exact Lib.hid (OwnR.setCell (OwnR.setCell (show OwnR wr (ob + 1) 88 4 v G.s.length (snF G.s) from hOw.out) (Nat.lt_succ_self _) _) (Nat.lt_succ_self _) _)
          · rw [HST.out]
            exact Lib.hid ((hBk.out.set 3 _).set 4 _)
        · have hne2 : (x == -2) = false := by simpa using h2
          by_cases h1 : x = -1
          · have HST := Lib.hid (hsp1 h1)
            subst h1
            clear hsp1 hsp2 hsp3 hsp4
            go_wp2_with fail
            refine ⟨⟨k + 1, v, by omega, by go_num, ?_, ?_, Lib.hid ((hBl.out.setCell hob _).setCell hob _)⟩, by simp [intOf]; omega⟩
            · rw [HST.out]
              exact Lib.hid (OwnR.setCell (OwnR.setCell (show OwnR wr (ob + 1) 88 4 v G.s.length (snF G.s) from hOw.out) (Nat.lt_succ_self _) _) (Nat.lt_succ_self _) _)
            · rw [HST.out]
              exact Lib.hid ((hBk.out.set 1 _).set 2 _)
          · have hne1 : (x == -1) = false := by simpa using h1
            by_cases h3 : 0 ≤ x ∧ x < F.s.length
            · have HST := Lib.hid (hsp3 h3.1 h3.2)
              rw [HSL.out] at h3
              obtain ⟨h30, h31⟩ := h3
              clear hsp1 hsp2 hsp3 hsp4
              obtain ⟨ix, rfl⟩ : ∃ k : Nat, x = (k : Int) := ⟨x.toNat, by omega⟩
              have hFr := HF0.out.s.below hBl.out
              obtain ⟨bs, fs, rfl, hbs, hcs⟩ := hFr.cells (by rw [HSL.out]; omega)
              have e0 := hcs ix 0 (by rw [HSL.out]; omega) (by omega)
              have e1 := hcs ix 1 (by rw [HSL.out]; omega) (by omega)
              have e2 := hcs ix 2 (by rw [HSL.out]; omega) (by omega)
              have e3 := hcs ix 3 (by rw [HSL.out]; omega) (by omega)
              simp only [snF, Nat.add_zero] at e0 e1 e2 e3
              have hsx : sn F (ix : Int) = snA F.s ix := by simp [sn, snA]
              rw [hsx] at HST
              obtain ⟨y, hxx⟩ : ∃ y, snA F.s ix = y := ⟨_, rfl⟩
              rw [hxx] at e0 e1 e2 e3 HST
              clear hcs hxx hFr hsx hq1 hq2 hq3 hq4 hr1 hr2 hr3 hr4 c1 c2 c3 c4
              obtain ⟨xa, xb, xc, xd⟩ := y
              simp only at e0 e1 e2 e3
              go_wp2_with fail
              refine WpK.begin (S := fun _ => True) (kp := fun _ => true) (f := 11) (up := #[false, false, false, false, false, false, false, false, false, false, false]) (by kernel_rfl) (by kernel_rfl) (by kernel_rfl) ?_
              refine WpK.take (i := 0) (v := ?_) ((toArray_at _ _).trans rfl) (by kernel_rfl) (by kernel_rfl) (by kernel_rfl) (by kernel_rfl) (by kernel_rfl) (fun _ _ _ h => h) (Or.inl ⟨by rfl, ?_⟩) trivial ?_
              rotate_left
              · (intro x hx; go_simp <;> with_reducible rfl)
              simp only [Act.put, puts]
              refine WpK.take (i := 2) (v := ?_) ((toArray_at _ _).trans rfl) (by kernel_rfl) (by kernel_rfl) (by kernel_rfl) (by kernel_rfl) (by kernel_rfl) (fun _ _ _ h => h) (Or.inl ⟨by rfl, ?_⟩) trivial ?_
              rotate_left
              · (intro x hx; go_simp <;> with_reducible rfl)
              simp only [Act.put, puts]
              refine WpK.take (i := 4) (v := ?_) ((toArray_at _ _).trans rfl) (by kernel_rfl) (by kernel_rfl) (by kernel_rfl) (by kernel_rfl) (by kernel_rfl) (fun _ _ _ h => h) (Or.inl ⟨by rfl, ?_⟩) trivial ?_
              rotate_left
              · (intro x hx; go_simp <;> with_reducible rfl)
              simp only [Act.put, puts]
              refine WpK.weaken (S := fun y => Below wr.heap.size wr y) (kp := (fun i => decide (i < 8))) (fun _ => trivial) _ ?_
              have hS0 := (show Below wr.heap.size wr wr.drew from (Below.refl _ _).drew)
              refine WpK.take (i := 1) (v := ?_) ((toArray_at _ _).trans rfl) (by kernel_rfl) (by kernel_rfl) (by kernel_rfl) (by kernel_rfl) (by kernel_rfl) (fun _ _ _ h => h) (Or.inl ⟨by rfl, ?_⟩) hS0 ?_
              rotate_left
              · (intro x hx; obtain ⟨hcx, hfx⟩ := bcell hx; go_simp <;> with_reducible rfl)
              try simp only [Act.put, puts]
              refine WpK.take (i := 3) (v := ?_) ((toArray_at _ _).trans rfl) (by kernel_rfl) (by kernel_rfl) (by kernel_rfl) (by kernel_rfl) (by kernel_rfl) (fun _ _ _ h => h) (Or.inl ⟨by rfl, ?_⟩) hS0 ?_
              rotate_left
              · (intro x hx; obtain ⟨hcx, hfx⟩ := bcell hx; go_simp <;> with_reducible rfl)
              try simp only [Act.put, puts]
              refine WpK.take (i := 5) (v := ?_) ((toArray_at _ _).trans rfl) (by kernel_rfl) (by kernel_rfl) (by kernel_rfl) (by kernel_rfl) (by kernel_rfl) (fun _ _ _ h => h) (Or.inl ⟨by rfl, ?_⟩) hS0 ?_
              rotate_left
              · (intro x hx; obtain ⟨hcx, hfx⟩ := bcell hx; go_simp <;> with_reducible rfl)
              try simp only [Act.put, puts]
              refine WpK.take (i := 6) (v := ?_) ((toArray_at _ _).trans rfl) (by kernel_rfl) (by kernel_rfl) (by kernel_rfl) (by kernel_rfl) (by kernel_rfl) (fun _ _ _ h => h) (Or.inl ⟨by rfl, ?_⟩) hS0 ?_
              rotate_left
              · (intro x hx; obtain ⟨hcx, hfx⟩ := bcell hx; go_simp <;> with_reducible rfl)
              try simp only [Act.put, puts]
              clear hS0
              have hszr := hBl.out.size
              refine WpK.one (i := 7) (by kernel_rfl) ((toArray_at _ _).trans rfl) ?_
              intro K hK
              have HK := Lib.hid hK
              clear hK
              go_simp
              refine HK.out _ _ (fun _ => (Below.drew (Below.refl _ _)).alloc (Nat.le_refl _) _) (fun _ => ?_)
              clear HK K
              try simp only [puts]
              refine WpK.one (i := 8) (by kernel_rfl) ((toArray_at _ _).trans rfl) ?_
              intro K hK
              have HK := Lib.hid hK
              clear hK
              refine step_own Tryz.underlying28 seen_el (by decide) (by decide) rfl (.tmp 45) (.tmp 51) rfl (ob + 1) v G.s.length (cellsL (snF G.s) 4 G.s.length) rfl (owns_below hOw.out ((Below.drew (Below.refl _ _)).alloc (Nat.le_refl _) _)) ⟨wr.drew.heap.size, 0, none⟩ _ [.int .i64 xa, .int .i64 xb, .int .i64 xc, .int .i64 xd] rfl rfl (news_bk (Bk.new _ _ [_, _, _, _])) ?_ ?_ ?_ ?_
              · intro u hu; simp at hu; rcases hu with rfl | rfl | rfl | rfl <;> rfl
              · have := HWL.out; omega
              · simp; omega
              intro g2 c2 q hO4 hP4 hG4 hN4
              have hw4 : Below (ob + 1) wr q := ((Below.drew (Below.refl _ _)).alloc (by simp; omega) _).trans hP4
              have hK4 := (hw4.block ob (Nat.lt_succ_self _)).trans hBk.out
              have hK4 : Bk q ob 30 _ := hK4
              refine HK.out _ _ (fun h => absurd h (by decide)) (fun _ => ?_)
              clear HK K
              try simp only [puts]
              have cq := hK4.cell 5
              have fq := hK4.frozen 5
              have lq := hK4.lt
              simp only [List.getElem?_cons_zero, List.getElem?_cons_succ] at cq
              refine WpK.one (i := 9) (by kernel_rfl) ((toArray_at _ _).trans rfl) ?_
              intro K hK
              have HK := Lib.hid hK
              clear hK
              go_simp
              refine HK.out _ _ (fun h => absurd h (by decide)) (fun _ => ?_)
              clear HK K
              try simp only [puts]
              refine WpK.one (i := 10) (by kernel_rfl) ((toArray_at _ _).trans rfl) ?_
              intro K hK
              have HK := Lib.hid hK
              clear hK
              go_simp
              refine HK.out _ _ (fun h => absurd h (by decide)) (fun _ => ?_)
              clear HK K
              try simp only [puts]
              refine WpK.done (by kernel_rfl) ?_
              have hK5 := hK4.set 5 (.slice (some ⟨g2, 0, none⟩) (G.s.length + 1) c2)
              simp only [List.set_cons_zero, List.set_cons_succ] at hK5
              have hB5 := (hBl.out.trans (hw4.mono (by omega))).setCell (p := ⟨ob, 5, none⟩) hob (.slice (some ⟨g2, 0, none⟩) (G.s.length + 1) c2)
              have hO5 := OwnR.setCell (f := snF (G.s ++ [⟨xa, xb, ⟨xc, xd⟩⟩])) (b := ob) (j := 5) (n := G.s.length + 1) (k := 4) (by unfold OwnR; rw [sn_app]; exact hO4) (Nat.lt_succ_self _) (.slice (some ⟨g2, 0, none⟩) (G.s.length + 1) c2)
              unfold OwnR at hO5
              clear cq fq lq hK4 hw4 hO4 hP4 hG4 hN4
              go_wp2_with fail
              refine ⟨⟨k + 1, .slice (some ⟨g2, 0, none⟩) (G.s.length + 1) c2, by omega, by go_num, ?_, ?_, Lib.hid hB5⟩, by simp [intOf]; omega⟩
              · rw [HST.out, List.length_append]
                exact Lib.hid hO5
              · rw [HST.out]
                exact Lib.hid hK5
            · have HST := Lib.hid (hsp4 h1 h2 h3)
              rw [HSL.out] at h3
              clear hsp1 hsp2 hsp3 hsp4
              by_cases h30 : x < 0
              · clear h3
                go_wp2_with fail
                refine ⟨⟨k + 1, v, by omega, by go_num, ?_, ?_, hBl⟩, by simp [intOf]; omega⟩
                · rw [HST.out]; exact hOw
                · rw [HST.out]; exact hBk
              · have h31 : (ls : Int) ≤ x := by omega
                clear h3
                go_wp2_with fail
                refine ⟨⟨k + 1, v, by omega, by go_num, ?_, ?_, hBl⟩, by simp [intOf]; omega⟩
                · rw [HST.out]; exact hOw
                · rw [HST.out]; exact hBk
      · obtain rfl : k = m := by omega
        have hfull : l.take k = l := by rw [List.take_of_length_le]; omega
        rw [hfull] at hOw hBk
        obtain ⟨G, hG⟩ : ∃ G, widF F l = G := ⟨_, rfl⟩
        have hGv : G.v = F.v := by rw [← hG]; rfl
        rw [hG] at hOw hBk
        have HG := Lib.hid hG
        have hrw : Row wr v 4 G.s.length (snF G.s) := OwnR.row (show OwnR wr (ob + 1) 88 4 v _ (snF G.s) from hOw.out)
        obtain ⟨x4, n4, rfl, _⟩ := hrw.parts
        have hZr := HZ.out.below hBl.out
        have HZr := Lib.hid hZr
        have HWr := Lib.hid (HW0.out.trans (hBl.out.mono HW0.out.size))
        have HGV := Lib.hid hGv
        have hbl := HZ.out.lt
        clear hfull hZr hrw hG hGv c1 c2 c3 c4 c5 hq1 hq2 hq3 hq4 hq5 hr1 hr2 hr3 hr4
        go_wp2_with (first | (refine ld_at rfl (T := 30) rfl rfl hBk.out Tryz.underlying30 rfl (by kernel_rfl) ?_) | (refine st_at rfl (T := 30) rfl rfl (cs := [.slice ov lv cv, .int .i64 G.f.lv, .int .i64 G.f.er, .int .i64 G.wlo, .int .i64 G.whi, .slice x4 G.s.length n4]) rfl HZr.out (by kernel_rfl) rfl rfl ?_; intro wk hkk hsk) | fail)
        refine bodyPost_ret (v := flV G (.slice ov lv cv) (.slice x4 G.s.length n4)) (results_cell_row rfl _ _ (w.heap.size + 1) _ _ (0, 0) _ rfl hkk Tryz.underlying30 rfl (by kernel_rfl)) rfl ?_
        have hv1 := HF00.out.v.below (bes_then HWr.out hsk (by omega) HWr.out.size)
        have hs1 : Row wk (.slice x4 G.s.length n4) 4 G.s.length (snF G.s) := OwnR.row (show OwnR wk (ob + 1) 88 4 _ _ (snF G.s) from owns_bes hOw.out hsk (by omega))
        rw [← HGV.out] at hv1
        have hgo := HG.out
        subst hgo
        exact ⟨⟨x4, n4, rfl, hv1, hs1⟩, bes_then HWr.out hsk (by omega) HWr.out.size⟩
theorem Sizes_ok (F : Fl) (v : Value) (w : World) (hR : RgR w v F.v) (hv : okVs F.v = true) :
    Calls Tryz.prog 39 #[v] w fun e w' => (∃ a b, e = .returned (.tuple #[.int .i64 (hgt F.v), .int .i64 a, .int .i64 b, .int .i64 0])) ∧ Below w.heap.size w w' := by
  refine (Sizes_any F.v v w hR).mono ?_
  rintro e w' ⟨rfl, hb⟩
  exact ⟨⟨_, _, by rw [if_pos hv, show chkV F.v = 0 by unfold chkV; rw [if_pos hv]]⟩, hb⟩
theorem Clash_any3 (F : Fl) (vv vs : Value) (w : World) (hF : FlIn w F vv vs) (ho : okFl F = true) :
    Calls Tryz.prog 40 #[flV F vv vs] w fun e w' => (∃ o m c L b, e = .returned (.tuple #[.slice o m c, .bool b, .int .i64 0]) ∧ Ints w' (.slice o m c) L ∧ m ≤ c ∧ m ≤ 3 ∧ (b = true → ckV F L = 0 ∧ 1 ≤ m)) ∧ Below w.heap.size w w' := by
  cases hc : canI F (allL F) with
  | true =>
    refine (Clash_yes F vv vs w hF ho hc).mono ?_
    rintro e w' ⟨rfl, hb⟩
    exact ⟨⟨none, 0, 0, [], false, rfl, .inl ⟨rfl, _, _, rfl⟩, Nat.le_refl _, by omega, by simp⟩, hb⟩
  | false =>
    refine (Clash_no F vv vs w hF ho hc).mono ?_
    rintro e w' ⟨⟨o, m, c, L, rfl, hL, hm, hck⟩, hb⟩
    have := hL.len
    exact ⟨⟨o, m, c, L, true, rfl, hL, hm, by have := hck.thr; omega, fun _ => ⟨hck.ck ho, by have := hck.one; omega⟩⟩, hb⟩
theorem but_len3 {X : List Int} {j : Nat} : (butL X j).length ≤ X.length := by
  have := (butL_sub (L := X) (k := j)).length_le
  exact this
set_option maxRecDepth 100000 in
set_option maxHeartbeats 4000000 in
theorem law_three (F : Fl) (vv vs : Value) (l : List Int) (o : Option Addr) (m c : Nat) (w : World) (hF : FlIn w F vv vs) (hl : Ints w (.slice o m c) l ∧ m ≤ c) :
    Calls Tryz.prog 10 #[flV F vv vs, .slice o m c] w fun e w' => e = .returned (.bool true) ∧ Below w.heap.size w w' := by
  have hmc := hl.2
  obtain ⟨os, cs, rfl, ms⟩ := hF.s.parts
  obtain ⟨ov, cv, rfl, mv⟩ := hF.v.parts
  obtain ⟨sl, hsl⟩ : ∃ k, F.s.length = k := ⟨_, rfl⟩
  obtain ⟨vl, hvl⟩ : ∃ k, F.v.length = k := ⟨_, rfl⟩
  rw [hsl] at hF ms ⊢
  rw [hvl] at hF mv ⊢
  have HSL := Lib.hid hsl
  have HVL := Lib.hid hvl
  clear hsl hvl
  have HF := Lib.hid (hF.alloc (flO F (.slice ov vl cv) (.slice os sl cs)))
  have BP := Lib.hid (Bk.new w 30 (flL F (.slice ov vl cv) (.slice os sl cs)))
  clear hF
  have HL := Lib.hid (hl.1.alloc (flO F (.slice ov vl cv) (.slice os sl cs)))
  clear hl
  go_enter Tryz.func10, Tryz.ntmps10
  go_wp2_with fail
  refine (sane_any _).mono ?_
  rintro e w1 ⟨rfl, hb⟩
  have HF1 := Lib.hid (HF.out.below hb)
  have BP1 := Lib.hid (BP.out.below hb)
  have HL1 := Lib.hid (HL.out.below hb)
  have HB1 := Lib.hid (bafter hb)
  clear hb HF BP HL
  go_wp2_with (first | (refine ld_at rfl (T := 30) rfl rfl BP1.out Tryz.underlying30 rfl (by kernel_rfl) ?_) | fail)
  cases ho : okFl F with
  | false =>
    refine (Check_c F _ _ 30 _ HF1.out (by unfold chkF; rw [if_neg (by rw [ho]; decide)])).mono ?_
    rintro e w2 ⟨rfl, hb⟩
    have HF2 := Lib.hid (HF1.out.below hb)
    have BP2 := Lib.hid (BP1.out.below hb)
    have HL2 := Lib.hid (HL1.out.below hb)
    have HB2 := Lib.hid (bthen HB1.out hb)
    clear HF1 BP1 HL1 HB1
    clear hb
    go_wp2_with fail
    go_ret
    exact ⟨rfl, HB2.out⟩
  | true =>
    have hO := (okFl_iff F).1 ho
    have hn24 := hO.n
    rw [HSL.out] at hn24
    refine (Check_c F _ _ 0 _ HF1.out (by unfold chkF; rw [if_pos ho])).mono ?_
    rintro e w2 ⟨rfl, hb⟩
    have HF2 := Lib.hid (HF1.out.below hb)
    have BP2 := Lib.hid (BP1.out.below hb)
    have HL2 := Lib.hid (HL1.out.below hb)
    have HB2 := Lib.hid (bthen HB1.out hb)
    clear HF1 BP1 HL1 HB1
    clear hb
    by_cases hm : m ≤ 24
    · have c0 := BP2.out.cell 0
      have cl := BP2.out.lt
      simp only [List.getElem?_cons_zero] at c0
      go_wp2_with fail
      refine (Sizes_ok F _ _ HF2.out.v hO.v).mono ?_
      rintro e w3 ⟨⟨sa, sb, rfl⟩, hb⟩
      have HF3 := Lib.hid (HF2.out.below hb)
      have BP3 := Lib.hid (BP2.out.below hb)
      have HL3 := Lib.hid (HL2.out.below hb)
      have HB3 := Lib.hid (bthen HB2.out hb)
      clear HF2 BP2 HL2 HB2
      clear hb c0 cl
      have hwd := fun l o m c w h h2 h3 => widest_any F (.slice ov vl cv) (.slice os sl cs) l o m c w h hO.n h2 h3
      have hcw := fun (l : List Int) h1 h2 h3 => can_wid (F := F) hO (l := l) h1 h2 h3
      obtain ⟨H, hH⟩ : ∃ H, hgt F.v = H := ⟨_, rfl⟩
      rw [hH] at hwd hcw ⊢
      have HWD := Lib.hid hwd
      have HCW := Lib.hid hcw
      clear hwd hcw hH
      go_wp2_with (first | (refine ld_at rfl (T := 30) rfl rfl BP3.out Tryz.underlying30 rfl (by kernel_rfl) ?_) | fail)
      refine (Clash_any3 F _ _ _ HF3.out ho).mono ?_
      rintro e w4 ⟨⟨o2, m2, k2, L, b, rfl, hL2, hmk, hm3, hbL⟩, hb⟩
      have HF4 := Lib.hid (HF3.out.below hb)
      have BP4 := Lib.hid (BP3.out.below hb)
      have HL4 := Lib.hid (HL3.out.below hb)
      have HB4 := Lib.hid (bthen HB3.out hb)
      clear HF3 BP3 HL3 HB3
      have HM4 := Lib.hid hL2
      have HBL := Lib.hid hbL
      clear hb hL2 hbL
      by_cases hh : H ≤ 1000
      · go_wp2_with fail
        obtain ⟨W, hW⟩ : ∃ W, w4.alloc (Obj.cells #[.slice o2 m2 k2, .slice o m c] 51) = W := ⟨_, rfl⟩
        have hX := Bk.new w4 51 [.slice o2 m2 k2, .slice o m c]
        have h4W := ballo w4 (Obj.cells #[.slice o2 m2 k2, .slice o m c] 51)
        rw [hW] at hX h4W
        have HX := Lib.hid hX
        have HFW := Lib.hid (HF4.out.below h4W)
        have BPW := Lib.hid (BP4.out.below h4W)
        have HLW := Lib.hid (HL4.out.below h4W)
        have HMW := Lib.hid (HM4.out.below h4W)
        have HBW := Lib.hid (bthen HB4.out h4W)
        try rw [hW]
        clear hW hX h4W HF4 BP4 HL4 HM4 HB4
        go_loopw [55] (fun t wr => ∃ k : Nat, k ≤ 2 ∧ t = .int .i64 (k : Int) ∧ Hid (Below W.heap.size W wr)) (fun t _ => 2 - (intOf t).toNat)
        case atStart => exact ⟨0, by omega, rfl, Lib.hid (Below.refl _ _)⟩
        case round =>
          obtain ⟨k, hk, rfl, hbl⟩ := hrel
          by_cases hk2 : k < 2
          · have hx : ∃ o' m' c' X, W.cell? ⟨w4.heap.size, k, none⟩ = some (.slice o' m' c') ∧ Ints W (.slice o' m' c') X ∧ m' ≤ c' ∧ m' ≤ 24 ∧ (ckV F X ≠ 0 → b = true → (X == L) = false) := by
              by_cases k0 : k = 0
              · subst k0
                exact ⟨o2, m2, k2, L, HX.out.cell 0, HMW.out, hmk, by omega, fun h hb => absurd (HBL.out hb).1 h⟩
              · obtain rfl : k = 1 := by omega
                refine ⟨o, m, c, l, HX.out.cell 1, HLW.out, hmc, hm, fun h hb => ?_⟩
                cases e : (l == L) with
                | false => rfl
                | true => exact absurd (by rw [eq_of_beq e]; exact (HBL.out hb).1) h
            obtain ⟨o', m', c', X, hcell, hXI, hm1, hm2, hne⟩ := hx
            have hcell := (hbl.out.cell (p := ⟨w4.heap.size, k, none⟩) HX.out.lt).trans hcell
            have hxlt := (HX.out.below hbl.out).lt
            have HFr := Lib.hid (HFW.out.below hbl.out)
            have BPr := Lib.hid (BPW.out.below hbl.out)
            have HXr := Lib.hid (hXI.below hbl.out)
            have HMr := Lib.hid (HMW.out.below hbl.out)
            have HNE := Lib.hid hne
            clear hXI hne
            go_wp2_with (first | (refine ld_at rfl (T := 30) rfl rfl BPr.out Tryz.underlying30 rfl (by kernel_rfl) ?_) | fail)
            obtain ⟨c1, hc1⟩ : ∃ x, ckV F X = x := ⟨_, rfl⟩
            refine (CheckClash_c F _ _ X o' m' c' c1 _ HFr.out HXr.out hm1 (by omega) hc1).mono ?_
            rintro e w5 ⟨rfl, hb⟩
            have HF5 := Lib.hid (HFr.out.below hb)
            have BP5 := Lib.hid (BPr.out.below hb)
            have HX5 := Lib.hid (HXr.out.below hb)
            have HM5 := Lib.hid (HMr.out.below hb)
            have HB5 := Lib.hid (bthen hbl.out hb)
            clear hb HFr BPr HXr HMr
            by_cases hz : c1 = 0
            · subst hz
              have ck := ck_of hc1
              have hlen := HX5.out.len
              have h1m : 1 ≤ m' := by have := ck.one; omega
              have h3m : m' ≤ 3 := by have := ck.thr; omega
              have CK := Lib.hid ck
              have hcan := HCW.out X (its_all ck.its) (by omega) hh
              rw [ck.no] at hcan
              have hokw := (okFl_iff _).2 (okF_wid hO (l := X) (by omega))
              have HCAN := Lib.hid hcan
              have HOKW := Lib.hid hokw
              clear ck hcan hokw hc1
              go_wp2_with (first | (refine ld_at rfl (T := 30) rfl rfl BP5.out Tryz.underlying30 rfl (by kernel_rfl) ?_) | fail)
              refine (HWD.out X o' m' c' _ HF5.out HX5.out hm2).mono ?_
              rintro e w6 ⟨⟨ga, gb, rfl, hin⟩, hb⟩
              have HX6 := Lib.hid (HX5.out.below hb)
              have HP6 := Lib.hid (Possible_c (widF F X) _ _ false w6 hin HOKW.out HCAN.out)
              have HB6 := Lib.hid (bthen HB5.out hb)
              clear hb hin
              go_wp2_with fail
              refine HP6.out.mono ?_
              rintro e w7 ⟨rfl, hb⟩
              have HB7 := Lib.hid (bthen HB6.out hb)
              have HF7 := Lib.hid (HFW.out.below HB7.out)
              have BP7 := Lib.hid (BPW.out.below HB7.out)
              have HX7 := Lib.hid (HX6.out.below hb)
              clear hb HP6
              go_wp2_with fail
              go_loopw [99] (fun t wr => ∃ j : Nat, j ≤ m' ∧ t = .int .i64 (j : Int) ∧ Hid (Below w7.heap.size w7 wr)) (fun t _ => m' - (intOf t).toNat)
              case atStart => exact ⟨0, by omega, rfl, Lib.hid (Below.refl _ _)⟩
              case round =>
                obtain ⟨j, hj, rfl, hbi⟩ := hrel
                by_cases hjm : j < m'
                · have hXr := HX7.out.below hbi.out
                  obtain ⟨p, off, rfl, hp, hcs⟩ := hXr.cells (by omega)
                  have hst : Str wr p off X := ⟨hp, fun t ht => hcs t (by omega)⟩
                  have hlt := hst.1
                  have t1 := hst.take j
                  have t2 : ∃ o2, (if c' = j + 1 then some (⟨p, off, none⟩ : Addr) else some ⟨p, off + (j + 1), none⟩) = some ⟨p, o2, none⟩ ∧ Str wr p o2 (X.drop (j + 1)) := by
                    by_cases hcc : c' = j + 1
                    · refine ⟨off, by rw [if_pos hcc], ?_⟩
                      have : X.drop (j + 1) = [] := List.drop_eq_nil_of_le (by omega)
                      rw [this]
                      exact Str.nil wr off hlt
                    · exact ⟨off + (j + 1), by rw [if_neg hcc], hst.drop (j + 1)⟩
                  obtain ⟨oo, ho2, t2⟩ := t2
                  have l1 : (X.take j).length = j := by rw [List.length_take]; omega
                  have l2 : (X.drop (j + 1)).length = m' - (j + 1) := by rw [List.length_drop]; omega
                  have T1 := Lib.hid t1
                  have T2 := Lib.hid t2
                  have L1 := Lib.hid l1
                  have L2 := Lib.hid l2
                  have hkc : j ≤ c' := by omega
                  have hkn : j + 1 ≤ m' := by omega
                  have hw1 : IntKind.i64.wrap ((j : Int) + 1) = (j : Int) + 1 := IntWalk.i64_in _ (by omega)
                  have hnn : (0 : Int) ≤ (j : Int) + 1 := by omega
                  have hnm : (j : Int) + 1 ≤ (m' : Int) := by omega
                  have htn : ((j : Int) + 1).toNat = j + 1 := by omega
                  have hBr := BP7.out.below hbi.out
                  have HFi := Lib.hid (HF7.out.below hbi.out)
                  have e0 := hBr.cell 0
                  have e1 := hBr.cell 1
                  have e2 := hBr.cell 2
                  have e3 := hBr.cell 3
                  have e4 := hBr.cell 4
                  have e5 := hBr.cell 5
                  have el := hBr.lt
                  simp only [List.getElem?_cons_zero, List.getElem?_cons_succ] at e0 e1 e2 e3 e4 e5
                  have hbt : ItOk F (butL X j) := fun i hi => its_all CK.out.its i (but_sub hi)
                  have hbl5 := but_len3 (X := X) (j := j)
                  have hbc := HCW.out (butL X j) hbt (by omega) hh
                  rw [CK.out.min j (by omega)] at hbc
                  have HPW := Lib.hid (fun vv vs w h => Possible_c (widF F (butL X j)) vv vs true w h ((okFl_iff _).2 (okF_wid hO (l := butL X j) (by omega))) hbc)
                  have HBL5 := Lib.hid hbl5
                  clear t1 t2 l1 l2 hst hcs hXr hBr hbt hbc hbl5
                  go_wp2_with fail
                  refine WpK.begin (S := fun _ => True) (kp := fun _ => true) (f := 19) (up := #[false, false, false, false, false, false, false, false, false, false, false, false, false, false, false, false, false, false, false]) (by kernel_rfl) (by kernel_rfl) (by kernel_rfl) ?_
                  refine WpK.take (i := 1) (v := ?_) ((toArray_at _ _).trans rfl) (by kernel_rfl) (by kernel_rfl) (by kernel_rfl) (by kernel_rfl) (by kernel_rfl) (fun _ _ _ h => h) (Or.inl ⟨by rfl, ?_⟩) trivial ?_
                  rotate_left
                  · (intro x hx; go_simp <;> with_reducible rfl)
                  simp only [Act.put, puts]
                  refine WpK.take (i := 2) (v := ?_) ((toArray_at _ _).trans rfl) (by kernel_rfl) (by kernel_rfl) (by kernel_rfl) (by kernel_rfl) (by kernel_rfl) (fun _ _ _ h => h) (Or.inl ⟨by rfl, ?_⟩) trivial ?_
                  rotate_left
                  · (intro x hx; go_simp <;> with_reducible rfl)
                  simp only [Act.put, puts]
                  refine WpK.take (i := 3) (v := ?_) ((toArray_at _ _).trans rfl) (by kernel_rfl) (by kernel_rfl) (by kernel_rfl) (by kernel_rfl) (by kernel_rfl) (fun _ _ _ h => h) (Or.inl ⟨by rfl, ?_⟩) trivial ?_
                  rotate_left
                  · (intro x hx; go_simp <;> with_reducible rfl)
                  simp only [Act.put, puts]
                  refine WpK.take (i := 4) (v := ?_) ((toArray_at _ _).trans rfl) (by kernel_rfl) (by kernel_rfl) (by kernel_rfl) (by kernel_rfl) (by kernel_rfl) (fun _ _ _ h => h) (Or.inl ⟨by rfl, ?_⟩) trivial ?_
                  rotate_left
                  · (intro x hx; go_simp <;> with_reducible rfl)
                  simp only [Act.put, puts]
                  refine WpK.take (i := 6) (v := ?_) ((toArray_at _ _).trans rfl) (by kernel_rfl) (by kernel_rfl) (by kernel_rfl) (by kernel_rfl) (by kernel_rfl) (fun _ _ _ h => h) (Or.inl ⟨by rfl, ?_⟩) trivial ?_
                  rotate_left
                  · (intro x hx; go_simp <;> with_reducible rfl)
                  simp only [Act.put, puts]
                  refine WpK.take (i := 7) (v := ?_) ((toArray_at _ _).trans rfl) (by kernel_rfl) (by kernel_rfl) (by kernel_rfl) (by kernel_rfl) (by kernel_rfl) (fun _ _ _ h => h) (Or.inl ⟨by rfl, ?_⟩) trivial ?_
                  rotate_left
                  · (intro x hx; go_simp <;> with_reducible rfl)
                  simp only [Act.put, puts]
                  refine WpK.take (i := 8) (v := ?_) ((toArray_at _ _).trans rfl) (by kernel_rfl) (by kernel_rfl) (by kernel_rfl) (by kernel_rfl) (by kernel_rfl) (fun _ _ _ h => h) (Or.inl ⟨by rfl, ?_⟩) trivial ?_
                  rotate_left
                  · (intro x hx; go_simp <;> with_reducible rfl)
                  simp only [Act.put, puts]
                  refine WpK.take (i := 5) (v := ?_) ((toArray_at _ _).trans rfl) (by kernel_rfl) (by kernel_rfl) (by kernel_rfl) (by kernel_rfl) (by kernel_rfl) (fun _ _ _ h => h) (Or.inl ⟨by rfl, ?_⟩) trivial ?_
                  rotate_left
                  · (intro x hx; go_simp <;> with_reducible rfl)
                  simp only [Act.put, puts]
                  refine WpK.take (i := 9) (v := ?_) ((toArray_at _ _).trans rfl) (by kernel_rfl) (by kernel_rfl) (by kernel_rfl) (by kernel_rfl) (by kernel_rfl) (fun _ _ _ h => h) (Or.inl ⟨by rfl, ?_⟩) trivial ?_
                  rotate_left
                  · (intro x hx; go_simp <;> with_reducible rfl)
                  simp only [Act.put, puts]
                  refine WpK.weaken (S := fun x => Below wr.heap.size wr x) (kp := (fun _ => true)) (fun _ => trivial) _ ?_
                  have hS0 := (show Below wr.heap.size wr wr.drew from (Below.refl _ _).drew)
                  refine WpK.take (i := 0) (v := ?_) ((toArray_at _ _).trans rfl) (by kernel_rfl) (by kernel_rfl) (by kernel_rfl) (by kernel_rfl) (by kernel_rfl) (fun _ _ _ h => h) (Or.inl ⟨by rfl, ?_⟩) hS0 ?_
                  rotate_left
                  · (intro x hx; obtain ⟨hcx, hfx⟩ := bcell hx; go_simp <;> with_reducible rfl)
                  try simp only [Act.put, puts]
                  clear hS0 e0 e1 e2 e3 e4 e5
                  refine WpK.one (i := 10) (by kernel_rfl) ((toArray_at _ _).trans rfl) ?_
                  intro K hK
                  have HK := Lib.hid hK
                  clear hK
                  go_simp
                  have hbk := (Bk.new wr.drew 51 [.slice (some ⟨p, off, none⟩) j j, .slice (some ⟨p, oo, none⟩) (m' - (j + 1)) (c' - (j + 1))])
                  have hb9 : Below wr.heap.size wr (wr.drew.alloc (Obj.cells #[.slice (some ⟨p, off, none⟩) j j, .slice (some ⟨p, oo, none⟩) (m' - (j + 1)) (c' - (j + 1))] 51)) := (Below.drew (Below.refl _ _)).alloc (Nat.le_refl _) _
                  refine HK.out _ _ (fun _ => hb9) (fun _ => ?_)
                  clear HK K
                  try simp only [puts]
                  refine WpK.one (i := 11) (by kernel_rfl) ((toArray_at _ _).trans rfl) ?_
                  intro K hK
                  have HK := Lib.hid hK
                  clear hK
                  go_simp
                  have hcc := concat_any wr.drew.heap.size 2 p off j p oo (c' - (j + 1)) (X.take j) (X.drop (j + 1)) _ hbk.lt (T1.out.below hb9) (T2.out.below hb9) (by rw [L1.out]; omega) (by rw [L2.out]; omega) (by rw [L1.out]; exact hbk.cell 0) (by rw [L2.out]; exact hbk.cell 1)
                  refine hcc.mono ?_
                  rintro e q1 ⟨v5, rfl, hb10, hin5, o5, m5, c5, rfl, hm5⟩
                  have hbA := hb9.trans (hb10.mono hb9.size)
                  refine HK.out _ _ (fun _ => hbA) (fun _ => ?_)
                  clear HK K
                  try simp only [puts]
                  have hl5 := hin5.len
                  have hl6 : m5 ≤ 24 := by have := HBL5.out; have := HX7.out.len; have e : (X.take j ++ X.drop (j + 1)).length = (butL X j).length := rfl; omega
                  refine WpK.one (i := 12) (by kernel_rfl) ((toArray_at _ _).trans rfl) ?_
                  intro K hK
                  have HK := Lib.hid hK
                  clear hK
                  go_simp
                  refine (HWD.out (butL X j) o5 m5 c5 q1 (HFi.out.below hbA) hin5 hl6).mono ?_
                  rintro e q2 ⟨⟨ga2, gb2, rfl, hin6⟩, hb11⟩
                  have hbB := hbA.trans (hb11.mono hbA.size)
                  refine HK.out _ _ (fun _ => hbB) (fun _ => ?_)
                  clear HK K
                  try simp only [puts]
                  refine WpK.one (i := 13) (by kernel_rfl) ((toArray_at _ _).trans rfl) ?_
                  intro K hK
                  have HK := Lib.hid hK
                  clear hK
                  go_simp
                  refine (HPW.out _ _ q2 hin6).mono ?_
                  rintro e q3 ⟨rfl, hb12⟩
                  have hbC := hbB.trans (hb12.mono hbB.size)
                  refine HK.out _ _ (fun _ => hbC) (fun _ => ?_)
                  clear HK K
                  try simp only [puts]
                  have hS0 := hbC
                  refine WpK.take (i := 14) (v := ?_) ((toArray_at _ _).trans rfl) (by kernel_rfl) (by kernel_rfl) (by kernel_rfl) (by kernel_rfl) (by kernel_rfl) (fun _ _ _ h => h) (Or.inl ⟨by rfl, ?_⟩) hS0 ?_
                  rotate_left
                  · (intro x hx; clear hx; go_simp <;> with_reducible rfl)
                  try simp only [Act.put, puts]
                  refine WpK.take (i := 15) (v := ?_) ((toArray_at _ _).trans rfl) (by kernel_rfl) (by kernel_rfl) (by kernel_rfl) (by kernel_rfl) (by kernel_rfl) (fun _ _ _ h => h) (Or.inl ⟨by rfl, ?_⟩) hS0 ?_
                  rotate_left
                  · (intro x hx; clear hx; go_simp <;> with_reducible rfl)
                  try simp only [Act.put, puts]
                  refine WpK.take (i := 16) (v := ?_) ((toArray_at _ _).trans rfl) (by kernel_rfl) (by kernel_rfl) (by kernel_rfl) (by kernel_rfl) (by kernel_rfl) (fun _ _ _ h => h) (Or.inl ⟨by rfl, ?_⟩) hS0 ?_
                  rotate_left
                  · (intro x hx; clear hx; go_simp <;> with_reducible rfl)
                  try simp only [Act.put, puts]
                  clear hb9 hb10 hb11 hb12 hbA hbB hcc hbk hin5 hin6 hl5
                  clear hS0
                  refine WpK.one (i := 17) (by kernel_rfl) ((toArray_at _ _).trans rfl) ?_
                  intro K hK
                  have HK := Lib.hid hK
                  clear hK
                  go_simp
                  refine HK.out _ _ (fun _ => hbC) (fun _ => ?_)
                  clear HK K
                  try simp only [puts]
                  refine WpK.one (i := 18) (by kernel_rfl) ((toArray_at _ _).trans rfl) ?_
                  intro K hK
                  have HK := Lib.hid hK
                  clear hK
                  go_simp
                  refine HK.out _ _ (fun _ => hbC) (fun _ => ?_)
                  clear HK K
                  try simp only [puts]
                  refine WpK.done (by kernel_rfl) ?_
                  have HBC := Lib.hid (hbi.out.trans (hbC.mono hbi.out.size))
                  clear hbC
                  go_wp2_with fail
                  exact ⟨⟨j + 1, by omega, by go_num, HBC⟩, by simp [intOf]; omega⟩
                · obtain rfl : j = m' := by omega
                  have HB9 := Lib.hid (HB7.out.trans (hbi.out.mono HB7.out.size))
                  go_wp2_with fail
                  exact ⟨⟨k + 1, by omega, by go_num, HB9⟩, by simp [intOf]; omega⟩
            · have hqz : c1 = 32 := by rcases hc1 ▸ ck_or2 ho X with h | h <;> omega
              subst hqz
              have hq := HNE.out (by rw [hc1]; decide)
              cases b with
              | false =>
                go_wp2_with fail
                exact ⟨⟨k + 1, by omega, by go_num, HB5⟩, by simp [intOf]; omega⟩
              | true =>
                have h2m : 1 ≤ m2 := (HBL.out rfl).2
                have HQ := Lib.hid (hq rfl)
                clear hq
                go_wp2_with fail
                refine (equal_any _ _ X L _ HX5.out HM5.out (by have := HX5.out.len; omega) (by have := HM5.out.len; omega)).mono ?_
                rintro e w6 ⟨rfl, hb⟩
                rw [HQ.out]
                have HB6 := Lib.hid (bthen HB5.out hb)
                clear hb
                go_wp2_with fail
                exact ⟨⟨k + 1, by omega, by go_num, HB6⟩, by simp [intOf]; omega⟩
          · obtain rfl : k = 2 := by omega
            go_wp2_with fail
            go_ret
            exact ⟨rfl, HBW.out.trans (hbl.out.mono HBW.out.size)⟩
      · go_wp2_with fail
        go_ret
        exact ⟨rfl, HB4.out⟩
    · go_wp2_with fail
      go_ret
      exact ⟨rfl, HB2.out⟩
end Go.Proofs.YtnfndiafabhhdaaGreat
