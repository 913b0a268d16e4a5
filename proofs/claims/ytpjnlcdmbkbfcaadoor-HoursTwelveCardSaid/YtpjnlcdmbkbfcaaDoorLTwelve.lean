/- The walk of HoursTwelve. -/
import Derived.Test.YtpjnlcdmbkbfcaaDoorLLines
namespace Go.Proofs.YtpjnlcdmbkbfcaaDoor
open Go.ChangeShapes Go.WideShapes Go.ChangeAt Go.RowKit Go.BigFrame

theorem Box.set3 {w : World} {b : Nat} {x y z : Value} (h : Box w b [x, y, z]) (x' y' z' : Value) : Box (((w.setCell ⟨b, 0, none⟩ x').setCell ⟨b, 1, none⟩ y').setCell ⟨b, 2, none⟩ z') b [x', y', z'] := by
  have h0 : w.cell? ⟨b, 0, none⟩ = some x := h.c 0 (by simp)
  have h1 : w.cell? ⟨b, 1, none⟩ = some y := h.c 1 (by simp)
  have h2 : w.cell? ⟨b, 2, none⟩ = some z := h.c 2 (by simp)
  have a0 : (w.setCell ⟨b, 0, none⟩ x').cell? ⟨b, 0, none⟩ = some x' := World.cell?_setCell_same' _ _ _ (by rw [h0]; rfl)
  have a1 : (w.setCell ⟨b, 0, none⟩ x').cell? ⟨b, 1, none⟩ = some y := (World.cell?_setCell_other _ _ _ _ (fun e => by cases e)).trans h1
  have a2 : (w.setCell ⟨b, 0, none⟩ x').cell? ⟨b, 2, none⟩ = some z := (World.cell?_setCell_other _ _ _ _ (fun e => by cases e)).trans h2
  have b0 : ((w.setCell ⟨b, 0, none⟩ x').setCell ⟨b, 1, none⟩ y').cell? ⟨b, 0, none⟩ = some x' := (World.cell?_setCell_other _ _ _ _ (fun e => by cases e)).trans a0
  have b1 : ((w.setCell ⟨b, 0, none⟩ x').setCell ⟨b, 1, none⟩ y').cell? ⟨b, 1, none⟩ = some y' := World.cell?_setCell_same' _ _ _ (by rw [a1]; rfl)
  have b2 : ((w.setCell ⟨b, 0, none⟩ x').setCell ⟨b, 1, none⟩ y').cell? ⟨b, 2, none⟩ = some z := (World.cell?_setCell_other _ _ _ _ (fun e => by cases e)).trans a2
  refine ⟨by simpa using h.lt, fun j hj => ?_⟩
  obtain rfl | rfl | rfl : j = 0 ∨ j = 1 ∨ j = 2 := by simp at hj; omega
  · exact (World.cell?_setCell_other _ _ _ _ (fun e => by cases e)).trans b0
  · exact (World.cell?_setCell_other _ _ _ _ (fun e => by cases e)).trans b1
  · exact World.cell?_setCell_same' _ _ _ (by rw [b2]; rfl)
theorem Bx.put {w : World} {L : List (Nat × List Value)} {b : Nat} {A : List Value} (h : Bx w L) (hb : Box w b A) : Bx w ((b, A) :: L) := fun p hp => by
  rcases List.mem_cons.1 hp with rfl | h1
  · exact hb
  · exact h p h1
theorem mom_0 (S : Sea) (day : Int) (nt : Bool) : mom S day nt 0 0 = 720 * spanA S day nt := by unfold mom; omega
theorem mom_up (S : Sea) (day : Int) (nt : Bool) (h p : Int) : mom S day nt h (p + 1) = mom S day nt h p + las S day nt := by
  unfold mom
  rw [show 60 * h + (p + 1) = (60 * h + p) + 1 by omega, Int.mul_add]
  omega
theorem mom_over (S : Sea) (day : Int) (nt : Bool) {h : Int} (h0 : 0 ≤ h) (h1 : h ≤ 11) : ∃ d2 nt2 h2, okH h2 0 = true ∧ ordr d2 nt2 h2 0 = ordr day nt h 0 + 60 * 1 ∧ (day ≤ d2 ∧ d2 ≤ day + 1) ∧ mom S d2 nt2 h2 0 = mom S day nt h 59 + las S day nt := by
  have hk : okH h 59 = true := okH_mk h0 h1 (by decide) (by decide)
  obtain ⟨e1, e2, _⟩ := ordr_parts day nt hk
  have e : ordr day nt h 0 + 60 * 1 = ordr day nt h 59 + 1 := by unfold ordr; omega
  have hp : (ordr day nt h 59 + 1) % 60 = 0 := by unfold ordr; split <;> omega
  have hd := ordr_dec (ordr day nt h 59 + 1)
  have hk2 := okH_dec (ordr day nt h 59 + 1)
  rw [hp] at hd hk2
  refine ⟨_, _, _, hk2, by rw [hd, e], by omega, ?_⟩
  rw [gm_ordr S _ _ hk2, hd, gm_step, e1, e2, ← gm_ordr S _ _ hk]
set_option maxRecDepth 100000 in
set_option maxHeartbeats 4000000 in
theorem law_twelve (S : Sea) (vd vr vs : Value) (day : Int) (nt : Bool) (h p : Int) (w : World) (hI : SeaIn w vd vr vs S)
    (_ : -9223372036854775808 ≤ day) (_ : day ≤ 9223372036854775807) :
    Calls Tryd.prog 10 #[.agg #[.int .i64 S.L, vd, vr, vs], .int .i64 day, .agg #[.bool nt, .int .i64 h, .int .i64 p]] w fun e w' => e = .returned (.bool true) ∧ Below w.heap.size w w' := by
  have hI0 := (hI.alloc (seaO S vd vr vs)).alloc (hrO nt h p)
  have hL0 := ((Bx.none w).cons [.int .i64 S.L, vd, vr, vs] 24).cons [.bool nt, .int .i64 h, .int .i64 p] 37
  simp only [World.size_alloc] at hL0
  have hB0 : Below w.heap.size w ((w.alloc (seaO S vd vr vs)).alloc (hrO nt h p)) := (by repeat (first | exact Below.refl _ _ | assumption | refine bthen ?_ (by assumption) | refine Below.alloc ?_ (by first | exact Nat.le_refl _ | (simp; done) | (simp; omega) | omega) _ | refine Below.setCell ?_ (by first | exact Nat.le_refl _ | (simp; done) | (simp; omega) | omega) _ | refine below_drewN ?_ _ | refine Below.drew ?_))
  have hC := True.intro
  by_cases hmax : day = 9223372036854775807
  · have HR := Lib.hid (show rgt S [9223372036854775807, wrap64 9223372036854775808] (okH h p) = false by simp [rgt, daysB, inB])
    subst hmax
    go_enter Tryd.func10, Tryd.ntmps10
    go_wp2_with fail
    clear hC
    refine (sane_any _).mono ?_
    rintro e w1 ⟨rfl, hb⟩
    have hI1 := hI0.below hb
    have hL1 := hL0.below hb
    have hB1 := bnext hB0 hb
    have hC := hL1.facts
    simp only [AllC, RowC, Nat.zero_add, Nat.reduceAdd] at hC
    go_wp2_with fail
    clear hC
    refine (right_2 S _ _ _ _ _ _ _ _ _ _ hI1 HR.out).mono ?_
    rintro e w2 ⟨rfl, hb⟩
    have hI2 := hI1.below hb
    have hL2 := hL1.below hb
    have hB2 := bnext hB1 hb
    have hC := hL2.facts
    simp only [AllC, RowC, Nat.zero_add, Nat.reduceAdd] at hC
    go_wp2_with fail
    go_ret
    exact ⟨rfl, hB2⟩
  rcases bool_ft (rgt S [day, day + 1] (okH h p)) with hr | hr
  · have HR := Lib.hid hr
    clear hr
    go_enter Tryd.func10, Tryd.ntmps10
    go_wp2_with fail
    clear hC
    refine (sane_any _).mono ?_
    rintro e w1 ⟨rfl, hb⟩
    have hI1 := hI0.below hb
    have hL1 := hL0.below hb
    have hB1 := bnext hB0 hb
    have hC := hL1.facts
    simp only [AllC, RowC, Nat.zero_add, Nat.reduceAdd] at hC
    go_wp2_with fail
    clear hC
    refine (right_2 S _ _ _ _ _ _ _ _ _ _ hI1 HR.out).mono ?_
    rintro e w2 ⟨rfl, hb⟩
    have hI2 := hI1.below hb
    have hL2 := hL1.below hb
    have hB2 := bnext hB1 hb
    have hC := hL2.facts
    simp only [AllC, RowC, Nat.zero_add, Nat.reduceAdd] at hC
    go_wp2_with fail
    go_ret
    exact ⟨rfl, hB2⟩
  obtain ⟨hv, ⟨d1, d2⟩, ⟨_, d4⟩, hk⟩ := rgt_t2 hr
  obtain ⟨⟨k1, k2⟩, p1, p2⟩ := okH_bd hk
  have qr := lnR_bd hv day
  have qs := lnS_bd hv day
  have qn := lnR_bd hv (day + 1)
  have z1 : las S day false = lnS S day - lnR S day := rfl
  have z2 : las S day true = 1440 + lnR S (day + 1) - lnS S day := rfl
  have y1 : mom S day false 0 0 = 720 * (day * 1440 + lnR S day) := mom_0 S day false
  have y2 : mom S day true 0 0 = 720 * (day * 1440 + lnS S day) := mom_0 S day true
  have y3 : mom S (day + 1) false 0 0 = 720 * (day * 1440 + 1440 + lnR S (day + 1)) := by rw [mom_0]; simp only [spanA, Bool.false_eq_true, if_false]; omega
  have la := las_bd hv day false
  have lb := las_bd hv day true
  have ca := low_cross (n := las S day false) (d := 12) (by omega) (by decide)
  have cb := low_cross (n := las S day true) (d := 12) (by omega) (by decide)
  have ra := low1_le (n := las S day false) (d := 12) (by omega)
  have rb := low1_le (n := las S day true) (d := 12) (by omega)
  have ra' := low1_nn (n := las S day false) (d := 12) (by omega)
  have rb' := low1_nn (n := las S day true) (d := 12) (by omega)
  have sa := low2_le (n := las S day false) (d := 12) (by decide)
  have sb := low2_le (n := las S day true) (d := 12) (by decide)
  have sa' := low2_pos (n := las S day false) (d := 12) (by omega) (by decide)
  have sb' := low2_pos (n := las S day true) (d := 12) (by omega) (by decide)
  obtain ⟨m1, m2⟩ := mom_bd hv d1 (by omega) nt k1 k2 p1 p2
  have mu := mom_up S day nt h p
  obtain ⟨e2, nt2, h2, ok2, or2, ⟨dd1, dd2⟩, mo2⟩ := mom_over S day nt k1 k2
  obtain ⟨a1, ha1⟩ : ∃ x, low1 (las S day false) 12 = x := ⟨_, rfl⟩
  obtain ⟨a2, ha2⟩ : ∃ x, low2 (las S day false) 12 = x := ⟨_, rfl⟩
  obtain ⟨b1, hb1⟩ : ∃ x, low1 (las S day true) 12 = x := ⟨_, rfl⟩
  obtain ⟨b2, hb2⟩ : ∃ x, low2 (las S day true) 12 = x := ⟨_, rfl⟩
  obtain ⟨A, hA⟩ : ∃ x, mom S day nt h p = x := ⟨_, rfl⟩
  obtain ⟨x1, hx1⟩ : ∃ x, lnR S day = x := ⟨_, rfl⟩
  obtain ⟨x2, hx2⟩ : ∃ x, lnS S day = x := ⟨_, rfl⟩
  obtain ⟨x3, hx3⟩ : ∃ x, lnR S (day + 1) = x := ⟨_, rfl⟩
  rw [hA] at m1 m2 mu
  rw [hx1] at qr z1 y1
  rw [hx2] at qs z1 z2 y2
  rw [hx3] at qn z2 y3
  rw [z1] at la
  rw [z2] at lb
  rw [ha1, ha2, z1] at ca
  rw [hb1, hb2, z2] at cb
  rw [ha1] at ra ra'
  rw [hb1] at rb rb'
  rw [z1] at ra
  rw [z2] at rb
  rw [ha2] at sa sa'
  rw [hb2] at sb sb'
  obtain ⟨u1, u1'⟩ := prod_bd (by omega : 0 ≤ x2 - x1) (by omega) (by omega : 0 ≤ a2) (by omega)
  obtain ⟨u2, u2'⟩ := prod_bd (by omega : 0 ≤ 1440 + x3 - x2) (by omega) (by omega : 0 ≤ b2) (by omega)
  have X1 := Lib.hid hx1
  have X2 := Lib.hid hx2
  have X3 := Lib.hid hx3
  have A1 := Lib.hid ha1
  have A2 := Lib.hid ha2
  have B1 := Lib.hid hb1
  have B2 := Lib.hid hb2
  have Y1 := Lib.hid y1
  have Y2 := Lib.hid y2
  have Y3 := Lib.hid y3
  have MU := Lib.hid mu
  have Z1 := Lib.hid z1
  have Z2 := Lib.hid z2
  have MO := Lib.hid mo2
  have OR := Lib.hid or2
  have OK := Lib.hid ok2
  have HA := Lib.hid hA
  have HR := Lib.hid hr
  have HV := Lib.hid hv
  have HK := Lib.hid hk
  clear hx1 hx2 hx3 ha1 ha2 hb1 hb2 hr hv hk y1 y2 y3 mu z1 z2 mo2 or2 ok2 hA
  by_cases hp : p = 59
  · subst hp
    obtain ⟨B, hB⟩ : ∃ x, mom S e2 nt2 h2 0 = x := ⟨_, rfl⟩
    have HB := Lib.hid hB
    clear hB
    cases nt
    · have F0 : B - A = x2 - x1 := by rw [← HB.out, MO.out, HA.out, Z1.out]; omega
      have F1 : (B - A) * a2 = 12 * a1 := by rw [F0, ← ca]; omega
      have F2 : 0 ≤ B - A ∧ B - A ≤ 1400 := by omega
      have q1 : 0 ≤ (B - A) * a2 ∧ (B - A) * a2 ≤ 100000 := by rw [F1]; omega
      have q2 : 0 ≤ B := by omega
      have q3 : B ≤ 300000000000 := by omega
      go_enter Tryd.func10, Tryd.ntmps10
      go_wp2_with fail
      clear hC
      refine (sane_any _).mono ?_
      rintro e w1 ⟨rfl, hb⟩
      have hI1 := hI0.below hb
      have hL1 := hL0.below hb
      have hB1 := bnext hB0 hb
      have hC := hL1.facts
      simp only [AllC, RowC, Nat.zero_add, Nat.reduceAdd] at hC
      go_wp2_with fail
      clear hC
      refine (right_2 S _ _ _ _ _ _ _ _ _ _ hI1 HR.out).mono ?_
      rintro e w2 ⟨rfl, hb⟩
      have hI2 := hI1.below hb
      have hL2 := hL1.below hb
      have hB2 := bnext hB1 hb
      have hC := hL2.facts
      simp only [AllC, RowC, Nat.zero_add, Nat.reduceAdd] at hC
      go_wp2_with fail
      clear hC
      refine (Rise_ok S _ _ _ day _ _ hI2 HV.out d1 d2 X1.out).mono ?_
      rintro e w3 ⟨rfl, hb⟩
      have hI3 := hI2.below hb
      have hL3 := hL2.below hb
      have hB3 := bnext hB2 hb
      have hC := hL3.facts
      simp only [AllC, RowC, Nat.zero_add, Nat.reduceAdd] at hC
      go_wp2_with fail
      clear hC
      refine (Set_ok S _ _ _ day _ _ hI3 HV.out d1 d2 X2.out).mono ?_
      rintro e w4 ⟨rfl, hb⟩
      have hI4 := hI3.below hb
      have hL4 := hL3.below hb
      have hB4 := bnext hB3 hb
      have hC := hL4.facts
      simp only [AllC, RowC, Nat.zero_add, Nat.reduceAdd] at hC
      go_wp2_with fail
      clear hC
      refine (Rise_ok S _ _ _ (day + 1) _ _ hI4 HV.out (by omega) (by omega) X3.out).mono ?_
      rintro e w5 ⟨rfl, hb⟩
      have hI5 := hI4.below hb
      have hL5 := hL4.below hb
      have hB5 := bnext hB4 hb
      have hC := hL5.facts
      simp only [AllC, RowC, Nat.zero_add, Nat.reduceAdd] at hC
      go_wp2_with fail
      clear hC
      refine (Length_ok S _ _ _ day false _ _ _ hI5 HV.out d1 d2 A1.out A2.out).mono ?_
      rintro e w6 ⟨rfl, hb⟩
      have hI6 := hI5.below hb
      have hL6 := hL5.below hb
      have hB6 := bnext hB5 hb
      have hC := hL6.facts
      simp only [AllC, RowC, Nat.zero_add, Nat.reduceAdd] at hC
      go_wp2_with fail
      clear hC
      refine (Length_ok S _ _ _ day true _ _ _ (hI6.alloc _) HV.out d1 d2 B1.out B2.out).mono ?_
      rintro e w7 ⟨rfl, hb⟩
      have hI7 := (hI6.alloc _).below hb
      have hL7 := (hL6.cons _ _).below hb
      have hB7 := bnextA hB6 hb
      have hC := hL7.facts
      simp only [AllC, RowC, Nat.zero_add, Nat.reduceAdd] at hC
      go_wp2_with fail
      clear hC
      refine (exact_ok S _ _ _ day false 0 0 _ _ (hI7.alloc _) HV.out d1 d2 (okH_mk (by decide) (by decide) (by decide) (by decide)) Y1.out).mono ?_
      rintro e w8 ⟨rfl, hb⟩
      have hI8 := (hI7.alloc _).below hb
      have hL8 := (hL7.cons _ _).below hb
      have hB8 := bnextA hB7 hb
      have hC := hL8.facts
      simp only [AllC, RowC, Nat.zero_add, Nat.reduceAdd] at hC
      go_wp2_with fail
      clear hC
      refine (exact_ok S _ _ _ day true 0 0 _ _ hI8 HV.out d1 d2 (okH_mk (by decide) (by decide) (by decide) (by decide)) Y2.out).mono ?_
      rintro e w9 ⟨rfl, hb⟩
      have hI9 := hI8.below hb
      have hL9 := hL8.below hb
      have hB9 := bnext hB8 hb
      have hC := hL9.facts
      simp only [AllC, RowC, Nat.zero_add, Nat.reduceAdd] at hC
      go_wp2_with fail
      clear hC
      refine (exact_ok S _ _ _ (day + 1) false 0 0 _ _ hI9 HV.out (by omega) (by omega) (okH_mk (by decide) (by decide) (by decide) (by decide)) Y3.out).mono ?_
      rintro e w10 ⟨rfl, hb⟩
      have hI10 := hI9.below hb
      have hL10 := hL9.below hb
      have hB10 := bnext hB9 hb
      have hC := hL10.facts
      simp only [AllC, RowC, Nat.zero_add, Nat.reduceAdd] at hC
      go_wp2_with fail
      go_region
      go_wp2_with fail
      have hX : Below w10.heap.size w10 (w10.alloc (hrO false h 0)).drew := (by repeat (first | exact Below.refl _ _ | assumption | refine bthen ?_ (by assumption) | refine Below.alloc ?_ (by first | exact Nat.le_refl _ | (simp; done) | (simp; omega) | omega) _ | refine Below.setCell ?_ (by first | exact Nat.le_refl _ | (simp; done) | (simp; omega) | omega) _ | refine below_drewN ?_ _ | refine Below.drew ?_))
      have hI11 := hI10.below hX
      have hL11 := (hL10.cons [.bool false, .int .i64 h, .int .i64 0] 37).below (Below.drew (Below.refl _ _))
      have hB11 := bnext hB10 hX
      have hfr : ∀ j, (w10.alloc (hrO false h 0)).drew.frozen? ⟨w10.heap.size, j, none⟩ = false := fun j => frozen_new_row w10 _ _ j
      have hlt : w10.heap.size < (w10.alloc (hrO false h 0)).drew.heap.size := by simp
      have n6 : w6.heap.size < w10.heap.size := (hL10 (w6.heap.size, [.int .i64 a1, .int .i64 a2]) (by simp)).lt
      have n7 : w7.heap.size < w10.heap.size := (hL10 (w7.heap.size, [.int .i64 b1, .int .i64 b2]) (by simp)).lt
      have n1 : w.heap.size + 1 < w10.heap.size := (hL10 (w.heap.size + 1, [.bool false, .int .i64 h, .int .i64 59]) (by simp)).lt
      have n6a : ¬ w6.heap.size = w10.heap.size := by omega
      have n7a : ¬ w7.heap.size = w10.heap.size := by omega
      have n1a : ¬ w.heap.size + 1 = w10.heap.size := by omega
      have n0a : ¬ w.heap.size = w10.heap.size := by omega
      have n6b : ¬ w10.heap.size = w6.heap.size := by omega
      have n7b : ¬ w10.heap.size = w7.heap.size := by omega
      have n1b : ¬ w10.heap.size = w.heap.size + 1 := by omega
      have n0b : ¬ w10.heap.size = w.heap.size := by omega
      generalize hwn : (w10.alloc (hrO false h 0)).drew = w11 at *
      clear hwn
      clear hC
      refine (Later_ok S _ _ _ day false h 0 1 e2 nt2 h2 0 _ hI11 HV.out d1 d2 (okH_mk k1 k2 (by decide) (by decide)) (by decide) (by decide) (by omega) (by omega) OK.out OR.out).mono ?_
      rintro e w12 ⟨rfl, hb⟩
      have hI12 := hI11.below hb
      have hL12 := hL11.below hb
      have hB12 := bnext hB11 hb
      have hC := hL12.facts
      simp only [AllC, RowC, Nat.zero_add, Nat.reduceAdd] at hC
      have fr0 := (hb.frozen (p := ⟨w10.heap.size, 0, none⟩) hlt).trans (hfr 0)
      have fr1 := (hb.frozen (p := ⟨w10.heap.size, 1, none⟩) hlt).trans (hfr 1)
      have fr2 := (hb.frozen (p := ⟨w10.heap.size, 2, none⟩) hlt).trans (hfr 2)
      go_wp2_with fail
      have hX1 : Below w10.heap.size w10 (((w12.setCell ⟨w10.heap.size, 0, none⟩ (.bool nt2)).setCell ⟨w10.heap.size, 1, none⟩ (.int .i64 h2)).setCell ⟨w10.heap.size, 2, none⟩ (.int .i64 0)) :=
        (((hX.trans (hb.mono hX.size)).setCell (Nat.le_refl _) _).setCell (Nat.le_refl _) _).setCell (Nat.le_refl _) _
      have hBx := (hL12 (w10.heap.size, [.bool false, .int .i64 h, .int .i64 0]) (by simp)).set3 (.bool nt2) (.int .i64 h2) (.int .i64 0)
      have hLs := (hL10.below hX1).put hBx
      have hI11 := (hI10.below hX1).alloc (Obj.cells #[.int .i64 a1, .int .i64 a2] 31)
      have hL11 := hLs.cons [.int .i64 a1, .int .i64 a2] 31
      have hB11 := (bthen hB10 hX1).alloc (B := w.heap.size) (by have := (bthen hB10 hX1).size; omega) (Obj.cells #[.int .i64 a1, .int .i64 a2] 31)
      simp only [World.size_setCell] at hL11
      clear hX1 hLs hBx hX hC hfr fr0 fr1 fr2
      generalize hwn : ((((w12.setCell ⟨w10.heap.size, 0, none⟩ (.bool nt2)).setCell ⟨w10.heap.size, 1, none⟩ (.int .i64 h2)).setCell ⟨w10.heap.size, 2, none⟩ (.int .i64 0)).alloc (Obj.cells #[.int .i64 a1, .int .i64 a2] 31)) = w13 at *
      clear hwn
      have hC := hL11.facts
      simp only [AllC, RowC, Nat.zero_add, Nat.reduceAdd] at hC
      have cE : ∀ i : More w13, _ := fun i => more_call (exact_ok S _ _ _ day _ _ _ _ i.x (hI11.below i.h) HV.out d1 d2 HK.out HA.out)
      have cF : ∀ i : More w13, _ := fun i => more_call (exact_ok S _ _ _ e2 _ h2 0 _ i.x (hI11.below i.h) HV.out (by omega) (by omega) OK.out HB.out)
      have CE := Lib.hid cE; clear cE
      have CF := Lib.hid cF; clear cF
      have mc := fun (i : More w13) => (bcell i.h).1
      refine wp_region_more (by kernel_rfl) (by kernel_rfl) ?_
      iterate 8 (try (first | go_big_quiet_step ((first | with_reducible exact CE.out _ | with_reducible exact CF.out _)) | quiet_step ((first | with_reducible exact CE.out _ | with_reducible exact CF.out _))))
      iterate 8 (try (first | go_big_quiet_step ((first | with_reducible exact CE.out _ | with_reducible exact CF.out _)) | quiet_step ((first | with_reducible exact CE.out _ | with_reducible exact CF.out _))))
      iterate 8 (try (first | go_big_quiet_step ((first | with_reducible exact CE.out _ | with_reducible exact CF.out _)) | quiet_step ((first | with_reducible exact CE.out _ | with_reducible exact CF.out _))))
      iterate 8 (try (first | go_big_quiet_step ((first | with_reducible exact CE.out _ | with_reducible exact CF.out _)) | quiet_step ((first | with_reducible exact CE.out _ | with_reducible exact CF.out _))))
      iterate 8 (try (first | go_big_quiet_step ((first | with_reducible exact CE.out _ | with_reducible exact CF.out _)) | quiet_step ((first | with_reducible exact CE.out _ | with_reducible exact CF.out _))))
      refine wpQuiet_nil ?_
      rintro ⟨wm, hbm⟩
      dsimp only
      have hL12 := hL11.below hbm
      have hB12 := bnext hB11 hbm
      have hC := hL12.facts
      simp only [AllC, RowC, Nat.zero_add, Nat.reduceAdd] at hC
      clear mc CE CF hbm
      go_wp2_with fail
      go_ret
      exact ⟨ret_bool (by first | (simp; done) | (simp; omega)), (by repeat (first | exact Below.refl _ _ | assumption | refine bthen ?_ (by assumption) | refine Below.alloc ?_ (by first | exact Nat.le_refl _ | (simp; done) | (simp; omega) | omega) _ | refine Below.setCell ?_ (by first | exact Nat.le_refl _ | (simp; done) | (simp; omega) | omega) _ | refine below_drewN ?_ _ | refine Below.drew ?_))⟩
    · have F0 : B - A = 1440 + x3 - x2 := by rw [← HB.out, MO.out, HA.out, Z2.out]; omega
      have F1 : (B - A) * b2 = 12 * b1 := by rw [F0, ← cb]; omega
      have F2 : 0 ≤ B - A ∧ B - A ≤ 1400 := by omega
      have q1 : 0 ≤ (B - A) * b2 ∧ (B - A) * b2 ≤ 100000 := by rw [F1]; omega
      have q2 : 0 ≤ B := by omega
      have q3 : B ≤ 300000000000 := by omega
      go_enter Tryd.func10, Tryd.ntmps10
      go_wp2_with fail
      clear hC
      refine (sane_any _).mono ?_
      rintro e w1 ⟨rfl, hb⟩
      have hI1 := hI0.below hb
      have hL1 := hL0.below hb
      have hB1 := bnext hB0 hb
      have hC := hL1.facts
      simp only [AllC, RowC, Nat.zero_add, Nat.reduceAdd] at hC
      go_wp2_with fail
      clear hC
      refine (right_2 S _ _ _ _ _ _ _ _ _ _ hI1 HR.out).mono ?_
      rintro e w2 ⟨rfl, hb⟩
      have hI2 := hI1.below hb
      have hL2 := hL1.below hb
      have hB2 := bnext hB1 hb
      have hC := hL2.facts
      simp only [AllC, RowC, Nat.zero_add, Nat.reduceAdd] at hC
      go_wp2_with fail
      clear hC
      refine (Rise_ok S _ _ _ day _ _ hI2 HV.out d1 d2 X1.out).mono ?_
      rintro e w3 ⟨rfl, hb⟩
      have hI3 := hI2.below hb
      have hL3 := hL2.below hb
      have hB3 := bnext hB2 hb
      have hC := hL3.facts
      simp only [AllC, RowC, Nat.zero_add, Nat.reduceAdd] at hC
      go_wp2_with fail
      clear hC
      refine (Set_ok S _ _ _ day _ _ hI3 HV.out d1 d2 X2.out).mono ?_
      rintro e w4 ⟨rfl, hb⟩
      have hI4 := hI3.below hb
      have hL4 := hL3.below hb
      have hB4 := bnext hB3 hb
      have hC := hL4.facts
      simp only [AllC, RowC, Nat.zero_add, Nat.reduceAdd] at hC
      go_wp2_with fail
      clear hC
      refine (Rise_ok S _ _ _ (day + 1) _ _ hI4 HV.out (by omega) (by omega) X3.out).mono ?_
      rintro e w5 ⟨rfl, hb⟩
      have hI5 := hI4.below hb
      have hL5 := hL4.below hb
      have hB5 := bnext hB4 hb
      have hC := hL5.facts
      simp only [AllC, RowC, Nat.zero_add, Nat.reduceAdd] at hC
      go_wp2_with fail
      clear hC
      refine (Length_ok S _ _ _ day false _ _ _ hI5 HV.out d1 d2 A1.out A2.out).mono ?_
      rintro e w6 ⟨rfl, hb⟩
      have hI6 := hI5.below hb
      have hL6 := hL5.below hb
      have hB6 := bnext hB5 hb
      have hC := hL6.facts
      simp only [AllC, RowC, Nat.zero_add, Nat.reduceAdd] at hC
      go_wp2_with fail
      clear hC
      refine (Length_ok S _ _ _ day true _ _ _ (hI6.alloc _) HV.out d1 d2 B1.out B2.out).mono ?_
      rintro e w7 ⟨rfl, hb⟩
      have hI7 := (hI6.alloc _).below hb
      have hL7 := (hL6.cons _ _).below hb
      have hB7 := bnextA hB6 hb
      have hC := hL7.facts
      simp only [AllC, RowC, Nat.zero_add, Nat.reduceAdd] at hC
      go_wp2_with fail
      clear hC
      refine (exact_ok S _ _ _ day false 0 0 _ _ (hI7.alloc _) HV.out d1 d2 (okH_mk (by decide) (by decide) (by decide) (by decide)) Y1.out).mono ?_
      rintro e w8 ⟨rfl, hb⟩
      have hI8 := (hI7.alloc _).below hb
      have hL8 := (hL7.cons _ _).below hb
      have hB8 := bnextA hB7 hb
      have hC := hL8.facts
      simp only [AllC, RowC, Nat.zero_add, Nat.reduceAdd] at hC
      go_wp2_with fail
      clear hC
      refine (exact_ok S _ _ _ day true 0 0 _ _ hI8 HV.out d1 d2 (okH_mk (by decide) (by decide) (by decide) (by decide)) Y2.out).mono ?_
      rintro e w9 ⟨rfl, hb⟩
      have hI9 := hI8.below hb
      have hL9 := hL8.below hb
      have hB9 := bnext hB8 hb
      have hC := hL9.facts
      simp only [AllC, RowC, Nat.zero_add, Nat.reduceAdd] at hC
      go_wp2_with fail
      clear hC
      refine (exact_ok S _ _ _ (day + 1) false 0 0 _ _ hI9 HV.out (by omega) (by omega) (okH_mk (by decide) (by decide) (by decide) (by decide)) Y3.out).mono ?_
      rintro e w10 ⟨rfl, hb⟩
      have hI10 := hI9.below hb
      have hL10 := hL9.below hb
      have hB10 := bnext hB9 hb
      have hC := hL10.facts
      simp only [AllC, RowC, Nat.zero_add, Nat.reduceAdd] at hC
      go_wp2_with fail
      go_region
      go_wp2_with fail
      have hX : Below w10.heap.size w10 (w10.alloc (hrO true h 0)).drew := (by repeat (first | exact Below.refl _ _ | assumption | refine bthen ?_ (by assumption) | refine Below.alloc ?_ (by first | exact Nat.le_refl _ | (simp; done) | (simp; omega) | omega) _ | refine Below.setCell ?_ (by first | exact Nat.le_refl _ | (simp; done) | (simp; omega) | omega) _ | refine below_drewN ?_ _ | refine Below.drew ?_))
      have hI11 := hI10.below hX
      have hL11 := (hL10.cons [.bool true, .int .i64 h, .int .i64 0] 37).below (Below.drew (Below.refl _ _))
      have hB11 := bnext hB10 hX
      have hfr : ∀ j, (w10.alloc (hrO true h 0)).drew.frozen? ⟨w10.heap.size, j, none⟩ = false := fun j => frozen_new_row w10 _ _ j
      have hlt : w10.heap.size < (w10.alloc (hrO true h 0)).drew.heap.size := by simp
      have n6 : w6.heap.size < w10.heap.size := (hL10 (w6.heap.size, [.int .i64 a1, .int .i64 a2]) (by simp)).lt
      have n7 : w7.heap.size < w10.heap.size := (hL10 (w7.heap.size, [.int .i64 b1, .int .i64 b2]) (by simp)).lt
      have n1 : w.heap.size + 1 < w10.heap.size := (hL10 (w.heap.size + 1, [.bool true, .int .i64 h, .int .i64 59]) (by simp)).lt
      have n6a : ¬ w6.heap.size = w10.heap.size := by omega
      have n7a : ¬ w7.heap.size = w10.heap.size := by omega
      have n1a : ¬ w.heap.size + 1 = w10.heap.size := by omega
      have n0a : ¬ w.heap.size = w10.heap.size := by omega
      have n6b : ¬ w10.heap.size = w6.heap.size := by omega
      have n7b : ¬ w10.heap.size = w7.heap.size := by omega
      have n1b : ¬ w10.heap.size = w.heap.size + 1 := by omega
      have n0b : ¬ w10.heap.size = w.heap.size := by omega
      generalize hwn : (w10.alloc (hrO true h 0)).drew = w11 at *
      clear hwn
      clear hC
      refine (Later_ok S _ _ _ day true h 0 1 e2 nt2 h2 0 _ hI11 HV.out d1 d2 (okH_mk k1 k2 (by decide) (by decide)) (by decide) (by decide) (by omega) (by omega) OK.out OR.out).mono ?_
      rintro e w12 ⟨rfl, hb⟩
      have hI12 := hI11.below hb
      have hL12 := hL11.below hb
      have hB12 := bnext hB11 hb
      have hC := hL12.facts
      simp only [AllC, RowC, Nat.zero_add, Nat.reduceAdd] at hC
      have fr0 := (hb.frozen (p := ⟨w10.heap.size, 0, none⟩) hlt).trans (hfr 0)
      have fr1 := (hb.frozen (p := ⟨w10.heap.size, 1, none⟩) hlt).trans (hfr 1)
      have fr2 := (hb.frozen (p := ⟨w10.heap.size, 2, none⟩) hlt).trans (hfr 2)
      go_wp2_with fail
      have hX1 : Below w10.heap.size w10 (((w12.setCell ⟨w10.heap.size, 0, none⟩ (.bool nt2)).setCell ⟨w10.heap.size, 1, none⟩ (.int .i64 h2)).setCell ⟨w10.heap.size, 2, none⟩ (.int .i64 0)) :=
        (((hX.trans (hb.mono hX.size)).setCell (Nat.le_refl _) _).setCell (Nat.le_refl _) _).setCell (Nat.le_refl _) _
      have hBx := (hL12 (w10.heap.size, [.bool true, .int .i64 h, .int .i64 0]) (by simp)).set3 (.bool nt2) (.int .i64 h2) (.int .i64 0)
      have hLs := (hL10.below hX1).put hBx
      have hI11 := (hI10.below hX1).alloc (Obj.cells #[.int .i64 b1, .int .i64 b2] 31)
      have hL11 := hLs.cons [.int .i64 b1, .int .i64 b2] 31
      have hB11 := (bthen hB10 hX1).alloc (B := w.heap.size) (by have := (bthen hB10 hX1).size; omega) (Obj.cells #[.int .i64 b1, .int .i64 b2] 31)
      simp only [World.size_setCell] at hL11
      clear hX1 hLs hBx hX hC hfr fr0 fr1 fr2
      generalize hwn : ((((w12.setCell ⟨w10.heap.size, 0, none⟩ (.bool nt2)).setCell ⟨w10.heap.size, 1, none⟩ (.int .i64 h2)).setCell ⟨w10.heap.size, 2, none⟩ (.int .i64 0)).alloc (Obj.cells #[.int .i64 b1, .int .i64 b2] 31)) = w13 at *
      clear hwn
      have hC := hL11.facts
      simp only [AllC, RowC, Nat.zero_add, Nat.reduceAdd] at hC
      have cE : ∀ i : More w13, _ := fun i => more_call (exact_ok S _ _ _ day _ _ _ _ i.x (hI11.below i.h) HV.out d1 d2 HK.out HA.out)
      have cF : ∀ i : More w13, _ := fun i => more_call (exact_ok S _ _ _ e2 _ h2 0 _ i.x (hI11.below i.h) HV.out (by omega) (by omega) OK.out HB.out)
      have CE := Lib.hid cE; clear cE
      have CF := Lib.hid cF; clear cF
      have mc := fun (i : More w13) => (bcell i.h).1
      refine wp_region_more (by kernel_rfl) (by kernel_rfl) ?_
      iterate 8 (try (first | go_big_quiet_step ((first | with_reducible exact CE.out _ | with_reducible exact CF.out _)) | quiet_step ((first | with_reducible exact CE.out _ | with_reducible exact CF.out _))))
      iterate 8 (try (first | go_big_quiet_step ((first | with_reducible exact CE.out _ | with_reducible exact CF.out _)) | quiet_step ((first | with_reducible exact CE.out _ | with_reducible exact CF.out _))))
      iterate 8 (try (first | go_big_quiet_step ((first | with_reducible exact CE.out _ | with_reducible exact CF.out _)) | quiet_step ((first | with_reducible exact CE.out _ | with_reducible exact CF.out _))))
      iterate 8 (try (first | go_big_quiet_step ((first | with_reducible exact CE.out _ | with_reducible exact CF.out _)) | quiet_step ((first | with_reducible exact CE.out _ | with_reducible exact CF.out _))))
      iterate 8 (try (first | go_big_quiet_step ((first | with_reducible exact CE.out _ | with_reducible exact CF.out _)) | quiet_step ((first | with_reducible exact CE.out _ | with_reducible exact CF.out _))))
      refine wpQuiet_nil ?_
      rintro ⟨wm, hbm⟩
      dsimp only
      have hL12 := hL11.below hbm
      have hB12 := bnext hB11 hbm
      have hC := hL12.facts
      simp only [AllC, RowC, Nat.zero_add, Nat.reduceAdd] at hC
      clear mc CE CF hbm
      go_wp2_with fail
      go_ret
      exact ⟨ret_bool (by first | (simp; done) | (simp; omega)), (by repeat (first | exact Below.refl _ _ | assumption | refine bthen ?_ (by assumption) | refine Below.alloc ?_ (by first | exact Nat.le_refl _ | (simp; done) | (simp; omega) | omega) _ | refine Below.setCell ?_ (by first | exact Nat.le_refl _ | (simp; done) | (simp; omega) | omega) _ | refine below_drewN ?_ _ | refine Below.drew ?_))⟩
  · cases nt
    · obtain ⟨B, hB⟩ : ∃ x, mom S day false h (p + 1) = x := ⟨_, rfl⟩
      have HB := Lib.hid hB
      clear hB
      have F0 : B - A = x2 - x1 := by rw [← HB.out, MU.out, Z1.out]; omega
      have F1 : (B - A) * a2 = 12 * a1 := by rw [F0, ← ca]; omega
      have F2 : 0 ≤ B - A ∧ B - A ≤ 1400 := by omega
      have q1 : 0 ≤ (B - A) * a2 ∧ (B - A) * a2 ≤ 100000 := by rw [F1]; omega
      have q2 : 0 ≤ B := by omega
      have q3 : B ≤ 300000000000 := by omega
      go_enter Tryd.func10, Tryd.ntmps10
      go_wp2_with fail
      clear hC
      refine (sane_any _).mono ?_
      rintro e w1 ⟨rfl, hb⟩
      have hI1 := hI0.below hb
      have hL1 := hL0.below hb
      have hB1 := bnext hB0 hb
      have hC := hL1.facts
      simp only [AllC, RowC, Nat.zero_add, Nat.reduceAdd] at hC
      go_wp2_with fail
      clear hC
      refine (right_2 S _ _ _ _ _ _ _ _ _ _ hI1 HR.out).mono ?_
      rintro e w2 ⟨rfl, hb⟩
      have hI2 := hI1.below hb
      have hL2 := hL1.below hb
      have hB2 := bnext hB1 hb
      have hC := hL2.facts
      simp only [AllC, RowC, Nat.zero_add, Nat.reduceAdd] at hC
      go_wp2_with fail
      clear hC
      refine (Rise_ok S _ _ _ day _ _ hI2 HV.out d1 d2 X1.out).mono ?_
      rintro e w3 ⟨rfl, hb⟩
      have hI3 := hI2.below hb
      have hL3 := hL2.below hb
      have hB3 := bnext hB2 hb
      have hC := hL3.facts
      simp only [AllC, RowC, Nat.zero_add, Nat.reduceAdd] at hC
      go_wp2_with fail
      clear hC
      refine (Set_ok S _ _ _ day _ _ hI3 HV.out d1 d2 X2.out).mono ?_
      rintro e w4 ⟨rfl, hb⟩
      have hI4 := hI3.below hb
      have hL4 := hL3.below hb
      have hB4 := bnext hB3 hb
      have hC := hL4.facts
      simp only [AllC, RowC, Nat.zero_add, Nat.reduceAdd] at hC
      go_wp2_with fail
      clear hC
      refine (Rise_ok S _ _ _ (day + 1) _ _ hI4 HV.out (by omega) (by omega) X3.out).mono ?_
      rintro e w5 ⟨rfl, hb⟩
      have hI5 := hI4.below hb
      have hL5 := hL4.below hb
      have hB5 := bnext hB4 hb
      have hC := hL5.facts
      simp only [AllC, RowC, Nat.zero_add, Nat.reduceAdd] at hC
      go_wp2_with fail
      clear hC
      refine (Length_ok S _ _ _ day false _ _ _ hI5 HV.out d1 d2 A1.out A2.out).mono ?_
      rintro e w6 ⟨rfl, hb⟩
      have hI6 := hI5.below hb
      have hL6 := hL5.below hb
      have hB6 := bnext hB5 hb
      have hC := hL6.facts
      simp only [AllC, RowC, Nat.zero_add, Nat.reduceAdd] at hC
      go_wp2_with fail
      clear hC
      refine (Length_ok S _ _ _ day true _ _ _ (hI6.alloc _) HV.out d1 d2 B1.out B2.out).mono ?_
      rintro e w7 ⟨rfl, hb⟩
      have hI7 := (hI6.alloc _).below hb
      have hL7 := (hL6.cons _ _).below hb
      have hB7 := bnextA hB6 hb
      have hC := hL7.facts
      simp only [AllC, RowC, Nat.zero_add, Nat.reduceAdd] at hC
      go_wp2_with fail
      clear hC
      refine (exact_ok S _ _ _ day false 0 0 _ _ (hI7.alloc _) HV.out d1 d2 (okH_mk (by decide) (by decide) (by decide) (by decide)) Y1.out).mono ?_
      rintro e w8 ⟨rfl, hb⟩
      have hI8 := (hI7.alloc _).below hb
      have hL8 := (hL7.cons _ _).below hb
      have hB8 := bnextA hB7 hb
      have hC := hL8.facts
      simp only [AllC, RowC, Nat.zero_add, Nat.reduceAdd] at hC
      go_wp2_with fail
      clear hC
      refine (exact_ok S _ _ _ day true 0 0 _ _ hI8 HV.out d1 d2 (okH_mk (by decide) (by decide) (by decide) (by decide)) Y2.out).mono ?_
      rintro e w9 ⟨rfl, hb⟩
      have hI9 := hI8.below hb
      have hL9 := hL8.below hb
      have hB9 := bnext hB8 hb
      have hC := hL9.facts
      simp only [AllC, RowC, Nat.zero_add, Nat.reduceAdd] at hC
      go_wp2_with fail
      clear hC
      refine (exact_ok S _ _ _ (day + 1) false 0 0 _ _ hI9 HV.out (by omega) (by omega) (okH_mk (by decide) (by decide) (by decide) (by decide)) Y3.out).mono ?_
      rintro e w10 ⟨rfl, hb⟩
      have hI10 := hI9.below hb
      have hL10 := hL9.below hb
      have hB10 := bnext hB9 hb
      have hC := hL10.facts
      simp only [AllC, RowC, Nat.zero_add, Nat.reduceAdd] at hC
      go_wp2_with fail
      go_region
      go_wp2_with fail
      have hX : Below w10.heap.size w10 ((w10.alloc (hrO false h (p + 1))).alloc (Obj.cells #[.int .i64 a1, .int .i64 a2] 31)).drew := (by repeat (first | exact Below.refl _ _ | assumption | refine bthen ?_ (by assumption) | refine Below.alloc ?_ (by first | exact Nat.le_refl _ | (simp; done) | (simp; omega) | omega) _ | refine Below.setCell ?_ (by first | exact Nat.le_refl _ | (simp; done) | (simp; omega) | omega) _ | refine below_drewN ?_ _ | refine Below.drew ?_))
      have hI11 := hI10.below hX
      have hL11 := ((hL10.cons [.bool false, .int .i64 h, .int .i64 (p + 1)] 37).cons [.int .i64 a1, .int .i64 a2] 31).below (Below.drew (Below.refl _ _))
      have hB11 := bnext hB10 hX
      simp only [World.size_alloc] at hL11
      clear hX hC
      generalize hwn : ((w10.alloc (hrO false h (p + 1))).alloc (Obj.cells #[.int .i64 a1, .int .i64 a2] 31)).drew = w11 at *
      clear hwn
      have hC := hL11.facts
      simp only [AllC, RowC, Nat.zero_add, Nat.reduceAdd] at hC
      have cE : ∀ i : More w11, _ := fun i => more_call (exact_ok S _ _ _ day _ _ _ _ i.x (hI11.below i.h) HV.out d1 d2 HK.out HA.out)
      have cF : ∀ i : More w11, _ := fun i => more_call (exact_ok S _ _ _ day _ h (p + 1) _ i.x (hI11.below i.h) HV.out (by omega) (by omega) (okH_mk k1 k2 (by omega) (by omega)) HB.out)
      have CE := Lib.hid cE; clear cE
      have CF := Lib.hid cF; clear cF
      have mc := fun (i : More w11) => (bcell i.h).1
      refine wp_region_more (by kernel_rfl) (by kernel_rfl) ?_
      iterate 8 (try (first | go_big_quiet_step ((first | with_reducible exact CE.out _ | with_reducible exact CF.out _)) | quiet_step ((first | with_reducible exact CE.out _ | with_reducible exact CF.out _))))
      iterate 8 (try (first | go_big_quiet_step ((first | with_reducible exact CE.out _ | with_reducible exact CF.out _)) | quiet_step ((first | with_reducible exact CE.out _ | with_reducible exact CF.out _))))
      iterate 8 (try (first | go_big_quiet_step ((first | with_reducible exact CE.out _ | with_reducible exact CF.out _)) | quiet_step ((first | with_reducible exact CE.out _ | with_reducible exact CF.out _))))
      iterate 8 (try (first | go_big_quiet_step ((first | with_reducible exact CE.out _ | with_reducible exact CF.out _)) | quiet_step ((first | with_reducible exact CE.out _ | with_reducible exact CF.out _))))
      iterate 8 (try (first | go_big_quiet_step ((first | with_reducible exact CE.out _ | with_reducible exact CF.out _)) | quiet_step ((first | with_reducible exact CE.out _ | with_reducible exact CF.out _))))
      refine wpQuiet_nil ?_
      rintro ⟨wm, hbm⟩
      dsimp only
      have hL12 := hL11.below hbm
      have hB12 := bnext hB11 hbm
      have hC := hL12.facts
      simp only [AllC, RowC, Nat.zero_add, Nat.reduceAdd] at hC
      clear mc CE CF hbm
      go_wp2_with fail
      go_ret
      exact ⟨ret_bool (by first | (simp; done) | (simp; omega)), (by repeat (first | exact Below.refl _ _ | assumption | refine bthen ?_ (by assumption) | refine Below.alloc ?_ (by first | exact Nat.le_refl _ | (simp; done) | (simp; omega) | omega) _ | refine Below.setCell ?_ (by first | exact Nat.le_refl _ | (simp; done) | (simp; omega) | omega) _ | refine below_drewN ?_ _ | refine Below.drew ?_))⟩
    · obtain ⟨B, hB⟩ : ∃ x, mom S day true h (p + 1) = x := ⟨_, rfl⟩
      have HB := Lib.hid hB
      clear hB
      have F0 : B - A = 1440 + x3 - x2 := by rw [← HB.out, MU.out, Z2.out]; omega
      have F1 : (B - A) * b2 = 12 * b1 := by rw [F0, ← cb]; omega
      have F2 : 0 ≤ B - A ∧ B - A ≤ 1400 := by omega
      have q1 : 0 ≤ (B - A) * b2 ∧ (B - A) * b2 ≤ 100000 := by rw [F1]; omega
      have q2 : 0 ≤ B := by omega
      have q3 : B ≤ 300000000000 := by omega
      go_enter Tryd.func10, Tryd.ntmps10
      go_wp2_with fail
      clear hC
      refine (sane_any _).mono ?_
      rintro e w1 ⟨rfl, hb⟩
      have hI1 := hI0.below hb
      have hL1 := hL0.below hb
      have hB1 := bnext hB0 hb
      have hC := hL1.facts
      simp only [AllC, RowC, Nat.zero_add, Nat.reduceAdd] at hC
      go_wp2_with fail
      clear hC
      refine (right_2 S _ _ _ _ _ _ _ _ _ _ hI1 HR.out).mono ?_
      rintro e w2 ⟨rfl, hb⟩
      have hI2 := hI1.below hb
      have hL2 := hL1.below hb
      have hB2 := bnext hB1 hb
      have hC := hL2.facts
      simp only [AllC, RowC, Nat.zero_add, Nat.reduceAdd] at hC
      go_wp2_with fail
      clear hC
      refine (Rise_ok S _ _ _ day _ _ hI2 HV.out d1 d2 X1.out).mono ?_
      rintro e w3 ⟨rfl, hb⟩
      have hI3 := hI2.below hb
      have hL3 := hL2.below hb
      have hB3 := bnext hB2 hb
      have hC := hL3.facts
      simp only [AllC, RowC, Nat.zero_add, Nat.reduceAdd] at hC
      go_wp2_with fail
      clear hC
      refine (Set_ok S _ _ _ day _ _ hI3 HV.out d1 d2 X2.out).mono ?_
      rintro e w4 ⟨rfl, hb⟩
      have hI4 := hI3.below hb
      have hL4 := hL3.below hb
      have hB4 := bnext hB3 hb
      have hC := hL4.facts
      simp only [AllC, RowC, Nat.zero_add, Nat.reduceAdd] at hC
      go_wp2_with fail
      clear hC
      refine (Rise_ok S _ _ _ (day + 1) _ _ hI4 HV.out (by omega) (by omega) X3.out).mono ?_
      rintro e w5 ⟨rfl, hb⟩
      have hI5 := hI4.below hb
      have hL5 := hL4.below hb
      have hB5 := bnext hB4 hb
      have hC := hL5.facts
      simp only [AllC, RowC, Nat.zero_add, Nat.reduceAdd] at hC
      go_wp2_with fail
      clear hC
      refine (Length_ok S _ _ _ day false _ _ _ hI5 HV.out d1 d2 A1.out A2.out).mono ?_
      rintro e w6 ⟨rfl, hb⟩
      have hI6 := hI5.below hb
      have hL6 := hL5.below hb
      have hB6 := bnext hB5 hb
      have hC := hL6.facts
      simp only [AllC, RowC, Nat.zero_add, Nat.reduceAdd] at hC
      go_wp2_with fail
      clear hC
      refine (Length_ok S _ _ _ day true _ _ _ (hI6.alloc _) HV.out d1 d2 B1.out B2.out).mono ?_
      rintro e w7 ⟨rfl, hb⟩
      have hI7 := (hI6.alloc _).below hb
      have hL7 := (hL6.cons _ _).below hb
      have hB7 := bnextA hB6 hb
      have hC := hL7.facts
      simp only [AllC, RowC, Nat.zero_add, Nat.reduceAdd] at hC
      go_wp2_with fail
      clear hC
      refine (exact_ok S _ _ _ day false 0 0 _ _ (hI7.alloc _) HV.out d1 d2 (okH_mk (by decide) (by decide) (by decide) (by decide)) Y1.out).mono ?_
      rintro e w8 ⟨rfl, hb⟩
      have hI8 := (hI7.alloc _).below hb
      have hL8 := (hL7.cons _ _).below hb
      have hB8 := bnextA hB7 hb
      have hC := hL8.facts
      simp only [AllC, RowC, Nat.zero_add, Nat.reduceAdd] at hC
      go_wp2_with fail
      clear hC
      refine (exact_ok S _ _ _ day true 0 0 _ _ hI8 HV.out d1 d2 (okH_mk (by decide) (by decide) (by decide) (by decide)) Y2.out).mono ?_
      rintro e w9 ⟨rfl, hb⟩
      have hI9 := hI8.below hb
      have hL9 := hL8.below hb
      have hB9 := bnext hB8 hb
      have hC := hL9.facts
      simp only [AllC, RowC, Nat.zero_add, Nat.reduceAdd] at hC
      go_wp2_with fail
      clear hC
      refine (exact_ok S _ _ _ (day + 1) false 0 0 _ _ hI9 HV.out (by omega) (by omega) (okH_mk (by decide) (by decide) (by decide) (by decide)) Y3.out).mono ?_
      rintro e w10 ⟨rfl, hb⟩
      have hI10 := hI9.below hb
      have hL10 := hL9.below hb
      have hB10 := bnext hB9 hb
      have hC := hL10.facts
      simp only [AllC, RowC, Nat.zero_add, Nat.reduceAdd] at hC
      go_wp2_with fail
      go_region
      go_wp2_with fail
      have hX : Below w10.heap.size w10 ((w10.alloc (hrO true h (p + 1))).alloc (Obj.cells #[.int .i64 b1, .int .i64 b2] 31)).drew := (by repeat (first | exact Below.refl _ _ | assumption | refine bthen ?_ (by assumption) | refine Below.alloc ?_ (by first | exact Nat.le_refl _ | (simp; done) | (simp; omega) | omega) _ | refine Below.setCell ?_ (by first | exact Nat.le_refl _ | (simp; done) | (simp; omega) | omega) _ | refine below_drewN ?_ _ | refine Below.drew ?_))
      have hI11 := hI10.below hX
      have hL11 := ((hL10.cons [.bool true, .int .i64 h, .int .i64 (p + 1)] 37).cons [.int .i64 b1, .int .i64 b2] 31).below (Below.drew (Below.refl _ _))
      have hB11 := bnext hB10 hX
      simp only [World.size_alloc] at hL11
      clear hX hC
      generalize hwn : ((w10.alloc (hrO true h (p + 1))).alloc (Obj.cells #[.int .i64 b1, .int .i64 b2] 31)).drew = w11 at *
      clear hwn
      have hC := hL11.facts
      simp only [AllC, RowC, Nat.zero_add, Nat.reduceAdd] at hC
      have cE : ∀ i : More w11, _ := fun i => more_call (exact_ok S _ _ _ day _ _ _ _ i.x (hI11.below i.h) HV.out d1 d2 HK.out HA.out)
      have cF : ∀ i : More w11, _ := fun i => more_call (exact_ok S _ _ _ day _ h (p + 1) _ i.x (hI11.below i.h) HV.out (by omega) (by omega) (okH_mk k1 k2 (by omega) (by omega)) HB.out)
      have CE := Lib.hid cE; clear cE
      have CF := Lib.hid cF; clear cF
      have mc := fun (i : More w11) => (bcell i.h).1
      refine wp_region_more (by kernel_rfl) (by kernel_rfl) ?_
      iterate 8 (try (first | go_big_quiet_step ((first | with_reducible exact CE.out _ | with_reducible exact CF.out _)) | quiet_step ((first | with_reducible exact CE.out _ | with_reducible exact CF.out _))))
      iterate 8 (try (first | go_big_quiet_step ((first | with_reducible exact CE.out _ | with_reducible exact CF.out _)) | quiet_step ((first | with_reducible exact CE.out _ | with_reducible exact CF.out _))))
      iterate 8 (try (first | go_big_quiet_step ((first | with_reducible exact CE.out _ | with_reducible exact CF.out _)) | quiet_step ((first | with_reducible exact CE.out _ | with_reducible exact CF.out _))))
      iterate 8 (try (first | go_big_quiet_step ((first | with_reducible exact CE.out _ | with_reducible exact CF.out _)) | quiet_step ((first | with_reducible exact CE.out _ | with_reducible exact CF.out _))))
      iterate 8 (try (first | go_big_quiet_step ((first | with_reducible exact CE.out _ | with_reducible exact CF.out _)) | quiet_step ((first | with_reducible exact CE.out _ | with_reducible exact CF.out _))))
      refine wpQuiet_nil ?_
      rintro ⟨wm, hbm⟩
      dsimp only
      have hL12 := hL11.below hbm
      have hB12 := bnext hB11 hbm
      have hC := hL12.facts
      simp only [AllC, RowC, Nat.zero_add, Nat.reduceAdd] at hC
      clear mc CE CF hbm
      go_wp2_with fail
      go_ret
      exact ⟨ret_bool (by first | (simp; done) | (simp; omega)), (by repeat (first | exact Below.refl _ _ | assumption | refine bthen ?_ (by assumption) | refine Below.alloc ?_ (by first | exact Nat.le_refl _ | (simp; done) | (simp; omega) | omega) _ | refine Below.setCell ?_ (by first | exact Nat.le_refl _ | (simp; done) | (simp; omega) | omega) _ | refine below_drewN ?_ _ | refine Below.drew ?_))⟩
end Go.Proofs.YtpjnlcdmbkbfcaaDoor
