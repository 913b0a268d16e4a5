/- Walk of Sinks (Wear). -/
import Derived.Test.YtnfndiafabhhdaaGreatD8
import Derived.Test.YtnfndiafabhhdaaGreatE2
import Derived.Test.YtnfndiafabhhdaaGreatA3
namespace Go.Proofs.YtnfndiafabhhdaaGreat
open Go.ChangeShapes Go.WideShapes Go.ChangeAt Go.RowKit
theorem rdE_can {F : Fl} {R : Bool} (h : rdE F R = 0) : canI F (allL F) = true := by
  unfold rdE at h
  cases ho : okFl F <;> cases R <;> cases hc : canI F (allL F) <;> simp [ho, hc] at h <;> rfl
theorem allL_in {F : Fl} : ∀ i ∈ allL F, i < F.s.length := fun i hi => (allL_ok F i hi).2
theorem Sinks1_any (F : Fl) (b : Nat) (vv vs pv : Value) (x y : Int) (m1 m2 : Nat) (w : World) (hS : Sty w F b vv vs pv) (hm1 : w.cell? ⟨m1, 0, none⟩ = some (.int .i64 x)) (hm2 : w.cell? ⟨m2, 0, none⟩ = some (.int .i64 y)) (l1 : m1 < w.heap.size) (l2 : m2 < w.heap.size) :
    Calls Tryz.prog 85 #[.pointer (some ⟨b, 0, none⟩), .pointer (some ⟨m1, 0, none⟩), .pointer (some ⟨m2, 0, none⟩)] w fun e w' => e = .returned (.bool ((inB x 0 (hgt F.v) && inB y 0 (hgt F.v)) && decide (y ≤ x))) ∧ Below w.heap.size w w' := by
  have hO := isLevel_any F b vv vs pv (.slice (some ⟨w.heap.size, 0, none⟩) 2 2) [x, y] _ (hS.alloc (Obj.cells #[.int .i64 x, .int .i64 y] 3)) (ints_bk (L := [x, y]) (Bk.new w 3 [.int .i64 x, .int .i64 y]) (by simp) (by simp) 2) (by simp)
  have e : ([x, y].all fun n => inB n 0 (hgt F.v)) = (inB x 0 (hgt F.v) && inB y 0 (hgt F.v)) := by simp
  rw [e] at hO
  obtain ⟨q, hq⟩ : ∃ q, (inB x 0 (hgt F.v) && inB y 0 (hgt F.v)) = q := ⟨_, rfl⟩
  rw [hq] at hO ⊢
  have HO := Lib.hid hO
  clear hO hS e hq
  cases q
  · go_enter Tryz.func85, Tryz.ntmps85
    go_wp2_with fail
    refine HO.out.mono ?_
    rintro e w1 ⟨rfl, hb1⟩
    obtain ⟨hc1, hf1⟩ := bcell (bafter hb1)
    go_wp2_with fail
    go_ret
    exact ⟨rfl, bafter hb1⟩
  · go_enter Tryz.func85, Tryz.ntmps85
    go_wp2_with fail
    refine HO.out.mono ?_
    rintro e w1 ⟨rfl, hb1⟩
    obtain ⟨hc1, hf1⟩ := bcell (bafter hb1)
    go_wp2_with fail
    go_ret
    exact ⟨by simp, bafter hb1⟩
abbrev skS (F : Fl) (x y : Int) : Value := .agg #[.int .i64 (skLo F (knR F).hi x y), .int .i64 (skHi F (knR F).lo x y)]
def skR (F : Fl) (x y : Int) : Bool := (inB x 0 (hgt F.v) && inB y 0 (hgt F.v)) && decide (y ≤ x)
def skV (F : Fl) (x y : Int) : Value := if rdE F (skR F x y) = 0 then .tuple #[skS F x y, .int .i64 0] else .tuple #[raZ, .int .i64 (rdE F (skR F x y))]
theorem kn_quarter {F : Fl} (h : OkF F) (hc : canI F (allL F) = true) : (knR F).lo.d ≤ 4 * (knR F).lo.n ∧ (knR F).hi.d ≤ 4 * (knR F).hi.n := by
  obtain ⟨a, b, _⟩ := ends_has h allL_in hc
  have s := (solved_same h (allL_in (F := F))).1
  have a := ((solved_has h allL_in s.l).1 a).1.1.1
  have b := ((solved_has h allL_in s.h).1 b).1.1.1
  have e1 : (knR F).lo = (solvedW F (allL F)).lo := rfl
  have e2 : (knR F).hi = (solvedW F (allL F)).hi := rfl
  rw [e1, e2]
  omega
theorem sk_q {F : Fl} (h : OkF F) {b : Bd} (b0 : 0 < b.n) (d0 : 0 < b.d) (q : b.d ≤ 4 * b.n) {x y : Int} (y0 : 0 ≤ y) (yx : y ≤ x) (xn : x ≤ hgt F.v) :
    0 ≤ skN F x y ∧ skN F x y ≤ 480000000000 ∧ 0 < skD F x y ∧ skD F x y ≤ 1000000 ∧ 0 ≤ skN F x y * b.d ∧ skN F x y * b.d / (skD F x y * b.n) ≤ 1920000 ∧ 0 ≤ skN F x y * b.d / (skD F x y * b.n) := by
  have X := tm_bd h.v (show 0 ≤ x by omega) xn
  have Y := tm_bd h.v y0 (show y ≤ vX F.v F.v.length by rw [← hgt_eq]; omega)
  have t := tm_le h.v y0 yx xn
  have top := tm_top h.v (show 0 ≤ x by omega) xn
  have a := mul_bd X.1.1 X.1.2 (Int.le_of_lt Y.2.1) Y.2.2
  have c := mul_bd (Int.le_of_lt X.2.1) X.2.2 (Int.le_of_lt Y.2.1) Y.2.2
  have d := Int.mul_pos X.2.1 Y.2.1
  have nn := Int.mul_nonneg Y.1.1 (Int.le_of_lt X.2.1)
  have tt := mul_mono top Y.2.1
  have N0 : 0 ≤ skN F x y := by unfold skN; omega
  have N1 : skN F x y ≤ 480000 * skD F x y := by unfold skN skD; rw [← Int.mul_assoc]; omega
  have D0 : 0 < skD F x y := d
  have D1 : skD F x y ≤ 1000000 := by unfold skD; omega
  have N2 : skN F x y ≤ 480000000000 := by omega
  have P := Int.mul_pos D0 b0
  refine ⟨N0, N2, D0, D1, Int.mul_nonneg N0 (Int.le_of_lt d0), ?_, Int.ediv_nonneg (Int.mul_nonneg N0 (Int.le_of_lt d0)) (Int.le_of_lt P)⟩
  have e1 := mul_mono N1 d0
  have e2 := Int.mul_le_mul_of_nonneg_left q (show 0 ≤ 480000 * skD F x y by omega)
  have e3 : 480000 * skD F x y * (4 * b.n) = 1920000 * (skD F x y * b.n) := by grind
  have := Int.ediv_lt_of_lt_mul (a := skN F x y * b.d) (b := 1920001) P (by omega)
  omega
set_option maxRecDepth 100000 in
set_option maxHeartbeats 4000000 in
theorem Sinks_any (F : Fl) (vv vs : Value) (x y : Int) (w : World) (hF : FlIn w F vv vs) : Calls Tryz.prog 26 #[flV F vv vs, .int .i64 x, .int .i64 y] w fun e w' => e = .returned (skV F x y) ∧ Below w.heap.size w w' := by
  obtain ⟨rq, hrq⟩ : ∃ q, skR F x y = q := ⟨_, rfl⟩
  have b2 := ((Bk.new1 w (flO F vv vs) 3 [.int .i64 x]).alloc (Obj.cells #[.int .i64 y] 3)).alloc (Obj.cells #[.int .i64 0, .int .i64 0] 27)
  have b3 := (Bk.new1 (w.alloc (flO F vv vs)) (Obj.cells #[.int .i64 x] 3) 3 [.int .i64 y]).alloc (Obj.cells #[.int .i64 0, .int .i64 0] 27)
  have b4 := Bk.new1 ((w.alloc (flO F vv vs)).alloc (Obj.cells #[.int .i64 x] 3)) (Obj.cells #[.int .i64 y] 3) 27 [.int .i64 0, .int .i64 0]
  simp only [World.size_alloc] at b3 b4
  have hO := ready_any F vv vs 85 #[.pointer (some ⟨w.heap.size + 1, 0, none⟩), .pointer (some ⟨w.heap.size + 1 + 1, 0, none⟩)] rq _ ((((hF.alloc (flO F vv vs)).alloc (Obj.cells #[.int .i64 x] 3)).alloc (Obj.cells #[.int .i64 y] 3)).alloc (Obj.cells #[.int .i64 0, .int .i64 0] 27))
    (fun args W => by simp [go_sem]) (fun _ b pv W hb hS => by rw [← hrq]; exact Sinks1_any F b _ _ pv x y _ _ W hS ((b2.below hb).cell 0) ((b3.below hb).cell 0) (b2.below hb).lt (b3.below hb).lt)
  obtain ⟨os, cs, rfl, ms⟩ := hF.s.parts
  obtain ⟨ov, cv, rfl, mv⟩ := hF.v.parts
  have HRQ := Lib.hid hrq
  have HO := Lib.hid hO
  have B2 := Lib.hid b2
  have B3 := Lib.hid b3
  have B4 := Lib.hid b4
  clear hO hF b2 b3 b4 hrq
  go_enter Tryz.func26, Tryz.ntmps26
  go_wp2_with fail
  refine HO.out.mono ?_
  rintro e w1 (⟨h0, rfl, hb1⟩ | ⟨h0, b, pv, va, vb, rfl, hb1, hK⟩)
  · have hwe : skV F x y = .tuple #[raZ, .int .i64 (rdE F rq)] := by unfold skV; rw [HRQ.out, if_neg h0]
    obtain ⟨er, her⟩ : ∃ x, rdE F rq = x := ⟨_, rfl⟩
    have hbd := rdE_bd F rq
    rw [her] at h0 hbd hwe ⊢
    have hne : (er == 0) = false := by simpa using h0
    have HWE := Lib.hid hwe
    have hs1 := hb1.size
    simp only [World.size_alloc] at hs1
    have hbw : Below w.heap.size w w1 := Below.trans (Below.alloc (Below.alloc (Below.alloc (Below.alloc (Below.refl _ _) (Nat.le_refl _) _) (by simp) _) (by simp; omega) _) (by simp; omega) _) (hb1.mono (by simp; omega))
    have h3 := (B4.out.below hb1).alloc (Obj.cells #[.pointer none, .int .i64 0, .int .i64 0, .bool false, .int .i64 0, .int .i64 0, .bool false, .slice none 0 0, .slice none 0 0, .bool false] 102)
    have H3 := Lib.hid h3
    have HBW := Lib.hid (hbw.alloc hbw.size (Obj.cells #[.pointer none, .int .i64 0, .int .i64 0, .bool false, .int .i64 0, .int .i64 0, .bool false, .slice none 0 0, .slice none 0 0, .bool false] 102))
    clear hbw hb1 her h3 hwe
    go_wp2_with (refine st_at rfl (T := 27) rfl rfl (cs := [.int .i64 0, .int .i64 0]) rfl H3.out (by kernel_rfl) rfl rfl ?_; intro wk hkk hsk)
    refine bodyPost_ret (ret_cell_tmp rfl _ _ rfl hkk Tryz.underlying27 rfl (by kernel_rfl)) rfl ⟨by rw [HWE.out]; rfl, ?_⟩
    exact bes_then HBW.out hsk (by omega) (by simp; omega)
  · have hR : rq = true := by
      rcases bool_ft rq with hf | hf
      · rw [hf] at h0
        unfold rdE at h0
        cases ho : okFl F <;> simp [ho] at h0
      · exact hf
    have HWE := Lib.hid (show skV F x y = .tuple #[skS F x y, .int .i64 0] by unfold skV; rw [HRQ.out, if_pos h0])
    have hc := rdE_can h0
    have hok := hK.s.o
    obtain ⟨x0, xn, y0, yx⟩ : 0 ≤ x ∧ x ≤ hgt F.v ∧ 0 ≤ y ∧ y ≤ x := by
      have := HRQ.out.trans hR
      simp only [skR, inB, Bool.and_eq_true, decide_eq_true_eq] at this
      omega
    obtain ⟨Q1, Q2⟩ := kn_quarter hok hc
    have rB := knR_B hok
    have S1 := sk_q hok rB.c0 rB.d0 Q2 y0 yx xn
    have S2 := sk_q hok rB.a0 rB.b0 Q1 y0 yx xn
    have X := tm_bd hok.v x0 xn
    have Y := tm_bd hok.v y0 (show y ≤ vX F.v F.v.length by rw [← hgt_eq]; omega)
    have a1 := mul_bd X.1.1 X.1.2 (Int.le_of_lt Y.2.1) Y.2.2
    have a2 := mul_bd Y.1.1 Y.1.2 (Int.le_of_lt X.2.1) X.2.2
    have a3 := mul_bd (Int.le_of_lt X.2.1) X.2.2 (Int.le_of_lt Y.2.1) Y.2.2
    obtain ⟨oa, ca, rfl, _⟩ := hK.a.parts
    obtain ⟨ob, cb, rfl, _⟩ := hK.b.parts
    have hs1 := hb1.size
    simp only [World.size_alloc] at hs1
    have hbw : Below w.heap.size w w1 := Below.trans (Below.alloc (Below.alloc (Below.alloc (Below.alloc (Below.refl _ _) (Nat.le_refl _) _) (by simp) _) (by simp; omega) _) (by simp; omega) _) (hb1.mono (by simp; omega))
    have hb5 := Bk.new w1 102 (knL b (knR F) (.slice oa (lows (linesL F (allL F))).length ca) (.slice ob (ups (linesL F (allL F))).length cb))
    have hS := hK.s
    obtain ⟨kr, hkr⟩ : ∃ r, knR F = r := ⟨_, rfl⟩
    unfold skS skLo skHi at HWE
    have eN : skN F x y = tmN F.v x * tmD F.v y - tmN F.v y * tmD F.v x := rfl
    have eD : skD F x y = tmD F.v x * tmD F.v y := rfl
    rw [hkr] at HWE S1 S2 hb5 rB ⊢
    have hT1 := fun W hb => time_any F b _ _ pv x W (hS.below hb) x0 xn
    have hT2 := fun W hb => time_any F b _ _ pv y W (hS.below hb) y0 (by omega)
    have hLS := fun W => wless_any (tmN F.v x) (tmD F.v x) (tmN F.v y) (tmD F.v y) W (by omega) (by omega) (by omega)
    rw [← eN, ← eD] at hLS
    obtain ⟨n, hn⟩ : ∃ r, skN F x y = r := ⟨_, rfl⟩
    obtain ⟨d, hd⟩ : ∃ r, skD F x y = r := ⟨_, rfl⟩
    rw [hn, hd] at HWE S1 S2
    simp only [hn, hd] at hLS
    obtain ⟨xn', hxn⟩ : ∃ r, tmN F.v x = r := ⟨_, rfl⟩
    obtain ⟨xd', hxd⟩ : ∃ r, tmD F.v x = r := ⟨_, rfl⟩
    obtain ⟨yn', hyn⟩ : ∃ r, tmN F.v y = r := ⟨_, rfl⟩
    obtain ⟨yd', hyd⟩ : ∃ r, tmD F.v y = r := ⟨_, rfl⟩
    simp only [hxn, hxd, hyn, hyd] at hT1 hT2 hLS
    obtain ⟨n0, n1, d0, d1, p0, p1, p2⟩ := S1
    obtain ⟨_, _, _, _, r0, r1, r2⟩ := S2
    have c0 := rB.a0; have c1 := rB.a1; have c2 := rB.b0; have c3 := rB.b1
    have c4 := rB.c0; have c5 := rB.c1; have c6 := rB.d0; have c7 := rB.d1
    have m1 := mul_bd (Int.le_of_lt d0) d1 (Int.le_of_lt c4) c5
    have m2 := mul_bd (Int.le_of_lt d0) d1 (Int.le_of_lt c0) c1
    have g1 := Int.mul_pos d0 c4
    have g2 := Int.mul_pos d0 c0
    have hO1 := fun W => wover_any (n * kr.hi.d) (d * kr.hi.n) W p0 g1 (by omega) (by omega)
    have hO2 := fun W => wover_any (n * kr.lo.d) (d * kr.lo.n) W r0 g2 (by omega) (by omega)
    have hM1 := fun W => times_any n kr.hi.d W n0 (by omega) (by omega) (by omega)
    have hM2 := fun W => times_any n kr.lo.d W n0 (by omega) (by omega) (by omega)
    have hw1 : IntKind.i64.wrap (d * kr.hi.n) = d * kr.hi.n := IntWalk.i64_in _ (by omega)
    have hw2 : IntKind.i64.wrap (d * kr.lo.n) = d * kr.lo.n := IntWalk.i64_in _ (by omega)
    obtain ⟨D1, hD1⟩ : ∃ r, d * kr.hi.n = r := ⟨_, rfl⟩
    obtain ⟨D2, hD2⟩ : ∃ r, d * kr.lo.n = r := ⟨_, rfl⟩
    have hwd1 : IntKind.i64.wrap (d * kr.hi.n) = D1 := by rw [hw1, hD1]
    have hwd2 : IntKind.i64.wrap (d * kr.lo.n) = D2 := by rw [hw2, hD2]
    clear hw1 hw2
    simp only [hD1, hD2] at HWE hO1 hO2 p1 p2 r1 r2 g1 g2
    obtain ⟨q1, hq1⟩ : ∃ r, n * kr.hi.d / D1 = r := ⟨_, rfl⟩
    obtain ⟨q2, hq2⟩ : ∃ r, n * kr.lo.d / D2 = r := ⟨_, rfl⟩
    rw [hq1] at p1 p2
    rw [hq2] at r1 r2
    simp only [hq1, hq2] at HWE hO1 hO2
    obtain ⟨z, hz⟩ : ∃ r, n * kr.lo.d % D2 = r := ⟨_, rfl⟩
    obtain ⟨z', hz'⟩ : ∃ r, n * kr.hi.d % D1 = r := ⟨_, rfl⟩
    simp only [hz, hz'] at HWE hO1 hO2
    obtain ⟨rb, hrb⟩ : ∃ r, decide (z ≠ 0) = r := ⟨_, rfl⟩
    simp only [hrb] at hO2
    have HRB := Lib.hid hrb
    clear hrb
    have HT1 := Lib.hid hT1
    have HT2 := Lib.hid hT2
    have HLS := Lib.hid hLS
    have HO1 := Lib.hid hO1
    have HO2 := Lib.hid hO2
    have HM1 := Lib.hid hM1
    have HM2 := Lib.hid hM2
    obtain ⟨la, hla⟩ : ∃ r, (lows (linesL F (allL F))).length = r := ⟨_, rfl⟩
    obtain ⟨lb, hlb⟩ : ∃ r, (ups (linesL F (allL F))).length = r := ⟨_, rfl⟩
    rw [hla, hlb] at hb5 ⊢
    clear hT1 hT2 hLS hO1 hO2 hM1 hM2 hn hd eN eD X Y a1 a2 a3 hK hS rB Q1 Q2 hc hok h0 hR hkr hxn hxd hyn hyd hD1 hD2 hq1 hq2 hz hz' m1 m2 c0 c1 c2 c3 c4 c5 c6 c7 p0 r0 hla hlb
    clear HO
    have z1 := (B2.out.below hb1).cell 0
    have z2 := (B3.out.below hb1).cell 0
    have z3 := (B2.out.below hb1).lt
    have z4 := (B3.out.below hb1).lt
    simp only [List.getElem?_cons_zero] at z1 z2
    have h4 := B4.out.below hb1
    have H4 := Lib.hid h4
    have HB5 := Lib.hid hb5
    have HBW := Lib.hid hbw
    have HB1 := Lib.hid hb1
    clear h4 hb5 hbw hb1 B2 B3
    go_wp2_with fail
    obtain ⟨W, hWW⟩ : ∃ W, w1.alloc (Obj.cells #[.pointer (some ⟨b, 0, none⟩), .int .i64 kr.lo.n, .int .i64 kr.lo.d, .bool kr.lo.s, .int .i64 kr.hi.n, .int .i64 kr.hi.d, .bool kr.hi.s, .slice oa la ca, .slice ob lb cb, .bool kr.e] 102) = W := ⟨_, rfl⟩
    have hW1 : Below w1.heap.size w1 W := by rw [← hWW]; exact ballo _ _
    have hbW : Bk W w1.heap.size 102 (knL b kr (.slice oa la ca) (.slice ob lb cb)) := by rw [← hWW]; exact HB5.out
    have HBW2 := Lib.hid (HBW.out.trans (hW1.mono HBW.out.size))
    have H4W := Lib.hid (H4.out.below hW1)
    rw [hWW]
    clear hWW HB5 HBW H4 B4
    have v1 : ∀ i : More W, i.x.cell? ⟨w.heap.size + 1, 0, none⟩ = some (.int .i64 x) := fun i => ((hW1.trans (i.h.mono hW1.size)).cell (p := ⟨w.heap.size + 1, 0, none⟩) z3).trans z1
    have v2 : ∀ i : More W, i.x.cell? ⟨w.heap.size + 1 + 1, 0, none⟩ = some (.int .i64 y) := fun i => ((hW1.trans (i.h.mono hW1.size)).cell (p := ⟨w.heap.size + 1 + 1, 0, none⟩) z4).trans z2
    have v3 : ∀ i : More W, i.x.cell? ⟨w1.heap.size, 0, none⟩ = some (.pointer (some ⟨b, 0, none⟩)) := fun i => (hbW.below i.h).cell 0
    have J1 := Lib.hid (fun i : More W => more_call (HT1.out i.x (hW1.trans (i.h.mono hW1.size))))
    have J2 := Lib.hid (fun i : More W => more_call (HT2.out i.x (hW1.trans (i.h.mono hW1.size))))
    have J3 := Lib.hid (fun i : More W => more_call (HLS.out i.x))
    have HbW := Lib.hid hbW
    have HW1 := Lib.hid hW1
    clear hbW hW1 HT1 HT2 HLS z1 z2
    refine wp_region_more (by kernel_rfl) (by kernel_rfl) ?_
    iterate 8 (try (first | go_big_quiet_step ((with_reducible first | exact J1.out _ | exact J2.out _ | exact J3.out _)) | quiet_step ((with_reducible first | exact J1.out _ | exact J2.out _ | exact J3.out _))))
    iterate 8 (try (first | go_big_quiet_step ((with_reducible first | exact J1.out _ | exact J2.out _ | exact J3.out _)) | quiet_step ((with_reducible first | exact J1.out _ | exact J2.out _ | exact J3.out _))))
    iterate 8 (try (first | go_big_quiet_step ((with_reducible first | exact J1.out _ | exact J2.out _ | exact J3.out _)) | quiet_step ((with_reducible first | exact J1.out _ | exact J2.out _ | exact J3.out _))))
    iterate 8 (try (first | go_big_quiet_step ((with_reducible first | exact J1.out _ | exact J2.out _ | exact J3.out _)) | quiet_step ((with_reducible first | exact J1.out _ | exact J2.out _ | exact J3.out _))))
    iterate 8 (try (first | go_big_quiet_step ((with_reducible first | exact J1.out _ | exact J2.out _ | exact J3.out _)) | quiet_step ((with_reducible first | exact J1.out _ | exact J2.out _ | exact J3.out _))))
    refine wpQuiet_nil ?_
    rintro ⟨wm, hbm⟩
    try dsimp only
    clear J1 J2 J3 v1 v2 v3
    have hbV := HbW.out.below hbm
    have v1 : ∀ i : More wm, i.x.cell? ⟨w1.heap.size, 5, none⟩ = some (.int .i64 kr.hi.d) := fun i => (hbV.below i.h).cell 5
    have v2 : ∀ i : More wm, i.x.cell? ⟨w1.heap.size, 4, none⟩ = some (.int .i64 kr.hi.n) := fun i => (hbV.below i.h).cell 4
    have J1 := Lib.hid (fun i : More wm => more_call (HM1.out i.x))
    have J2 := Lib.hid (fun i : More wm => more_call (HO1.out i.x))
    have HBM := Lib.hid hbm
    have HbV := Lib.hid hbV
    clear hbm hbV HM1 HO1
    go_wp2_with fail
    refine wp_region_more (by kernel_rfl) (by kernel_rfl) ?_
    iterate 8 (try (first | go_big_quiet_step ((with_reducible first | exact J1.out _ | exact J2.out _)) | quiet_step ((with_reducible first | exact J1.out _ | exact J2.out _))))
    iterate 8 (try (first | go_big_quiet_step ((with_reducible first | exact J1.out _ | exact J2.out _)) | quiet_step ((with_reducible first | exact J1.out _ | exact J2.out _))))
    iterate 8 (try (first | go_big_quiet_step ((with_reducible first | exact J1.out _ | exact J2.out _)) | quiet_step ((with_reducible first | exact J1.out _ | exact J2.out _))))
    iterate 8 (try (first | go_big_quiet_step ((with_reducible first | exact J1.out _ | exact J2.out _)) | quiet_step ((with_reducible first | exact J1.out _ | exact J2.out _))))
    iterate 8 (try (first | go_big_quiet_step ((with_reducible first | exact J1.out _ | exact J2.out _)) | quiet_step ((with_reducible first | exact J1.out _ | exact J2.out _))))
    refine wpQuiet_nil ?_
    rintro ⟨wm, hbm⟩
    try dsimp only
    clear J1 J2 v1 v2
    rename_i wm1 _
    have hbV := HbV.out.below hbm
    have v1 : ∀ i : More wm, i.x.cell? ⟨w1.heap.size, 2, none⟩ = some (.int .i64 kr.lo.d) := fun i => (hbV.below i.h).cell 2
    have v2 : ∀ i : More wm, i.x.cell? ⟨w1.heap.size, 1, none⟩ = some (.int .i64 kr.lo.n) := fun i => (hbV.below i.h).cell 1
    have J1 := Lib.hid (fun i : More wm => more_call (HM2.out i.x))
    have J2 := Lib.hid (fun i : More wm => more_call (HO2.out i.x))
    have HBM2 := Lib.hid (bthen HBM.out hbm)
    clear hbm hbV HM2 HO2 HBM HbV
    go_wp2_with fail
    refine wp_region_more (by kernel_rfl) (by kernel_rfl) ?_
    iterate 8 (try (first | go_big_quiet_step ((with_reducible first | exact J1.out _ | exact J2.out _)) | quiet_step ((with_reducible first | exact J1.out _ | exact J2.out _))))
    iterate 8 (try (first | go_big_quiet_step ((with_reducible first | exact J1.out _ | exact J2.out _)) | quiet_step ((with_reducible first | exact J1.out _ | exact J2.out _))))
    iterate 8 (try (first | go_big_quiet_step ((with_reducible first | exact J1.out _ | exact J2.out _)) | quiet_step ((with_reducible first | exact J1.out _ | exact J2.out _))))
    iterate 8 (try (first | go_big_quiet_step ((with_reducible first | exact J1.out _ | exact J2.out _)) | quiet_step ((with_reducible first | exact J1.out _ | exact J2.out _))))
    iterate 8 (try (first | go_big_quiet_step ((with_reducible first | exact J1.out _ | exact J2.out _)) | quiet_step ((with_reducible first | exact J1.out _ | exact J2.out _))))
    refine wpQuiet_nil ?_
    rintro ⟨wm, hbm⟩
    try dsimp only
    clear J1 J2 v1 v2
    have hBM := bthen HBM2.out hbm
    have h4 := H4W.out.below hBM
    have H4F := Lib.hid h4
    have HBF := Lib.hid (HBW2.out.trans (hBM.mono HBW2.out.size))
    have hz4 := HBF.out.size
    clear h4 hbm hBM H4W HBW2 HBM2 HW1 HbW
    cases rb with
    | false =>
      rw [if_pos (by simpa using HRB.out)] at HWE
      clear HRB
      go_wp2_with (refine st_at rfl (T := 27) rfl rfl (cs := [.int .i64 q1, .int .i64 q2]) rfl H4F.out (by kernel_rfl) rfl rfl ?_; intro wk hkk hsk)
      refine bodyPost_ret (ret_cell_tmp rfl _ _ rfl hkk Tryz.underlying27 rfl (by kernel_rfl)) rfl ⟨by rw [HWE.out, Int.add_zero]; rfl, ?_⟩
      exact bes_then HBF.out hsk (by omega) (by omega)
    | true =>
      rw [if_neg (by simpa using HRB.out)] at HWE
      clear HRB
      go_wp2_with (refine st_at rfl (T := 27) rfl rfl (cs := [.int .i64 q1, .int .i64 (q2 + 1)]) rfl H4F.out (by kernel_rfl) rfl rfl ?_; intro wk hkk hsk)
      refine bodyPost_ret (ret_cell_tmp rfl _ _ rfl hkk Tryz.underlying27 rfl (by kernel_rfl)) rfl ⟨by rw [HWE.out]; rfl, ?_⟩
      exact bes_then HBF.out hsk (by omega) (by omega)
end Go.Proofs.YtnfndiafabhhdaaGreat
