/- Sinks by searches, by division: what the reference's Sinks comes to (Wear). Plain. -/
import Derived.Test.YtnfndiafabhhdaaGreatH2
import Derived.Test.YtnfndiafabhhdaaGreatE3
import Derived.Test.YtnfndiafabhhdaaGreatA3
namespace Go.Proofs.YtnfndiafabhhdaaGreat
open Go.ChangeShapes Go.WideShapes Go.ChangeAt Go.RowKit
def siP (N D gn gd : Int) (m : Int) : Bool := !decide (gn * (D * m) ≤ N * gd)
def siQ (N D gn gd : Int) (m : Int) : Bool := !(decide (0 < m) && decide (N * gd ≤ gn * (D * m)))
theorem quarter_eq {a b : Bd} (_ad : 0 < a.d) (an : 0 < a.n) (e : a.n * b.d = b.n * a.d) (h : a.d ≤ 4 * a.n) (bn : 0 < b.n) : b.d ≤ 4 * b.n := by
  have h1 := Int.mul_le_mul_of_nonneg_left h (Int.le_of_lt bn)
  have h2 : a.n * b.d ≤ a.n * (4 * b.n) := by
    rw [e]
    calc b.n * a.d ≤ b.n * (4 * a.n) := h1
      _ = a.n * (4 * b.n) := by ac_rfl
  exact Int.le_of_mul_le_mul_left h2 an
theorem div_eqv {N D : Int} {a b : Bd} (hD : 0 < D) (an : 0 < a.n) (bn : 0 < b.n) (e : a.n * b.d = b.n * a.d) : N * a.d / (D * a.n) = N * b.d / (D * b.n) ∧
    (N * a.d / (D * a.n) + (if N * a.d % (D * a.n) = 0 then 0 else 1) = N * b.d / (D * b.n) + (if N * b.d % (D * b.n) = 0 then 0 else 1)) := by
  have p1 := Int.mul_pos hD an
  have p2 := Int.mul_pos hD bn
  have e1 : N * a.d * b.n = N * b.d * a.n := by
    rw [Int.mul_assoc, Int.mul_assoc, Int.mul_comm a.d b.n, ← e, Int.mul_comm a.n b.d]
  have e2 : D * a.n * b.n = D * b.n * a.n := by ac_rfl
  have u1 := fl_mul p1 bn (A := N * a.d) rfl
  have u2 := fl_mul p2 an (A := N * b.d) rfl
  have v1 := ce_mul p1 bn (A := N * a.d) rfl
  have v2 := ce_mul p2 an (A := N * b.d) rfl
  rw [e1, e2] at u1 v1
  exact ⟨u1.symm.trans u2, v1.symm.trans v2⟩
section
variable {F : Fl}
theorem rsink_lo (h : OkF F) {b : Bd} (bn : 0 < b.n) (bd : 0 < b.d) (q : b.d ≤ 4 * b.n) {x y : Int} (y0 : 0 ≤ y) (yx : y ≤ x) (xn : x ≤ hgt F.v) : lastNot (siP (skN F x y) (skD F x y) b.n b.d) 24 0 2097152 = skLo F b x y := by
  obtain ⟨a1, a2, a3, a4, a5, a6, a7⟩ := sk_q h bn bd q y0 yx xn
  exact sink_lo a1 a3 bn bd 24 (by omega) (by omega) (by omega)
theorem rsink_hi (h : OkF F) {b : Bd} (bn : 0 < b.n) (bd : 0 < b.d) (q : b.d ≤ 4 * b.n) {x y : Int} (y0 : 0 ≤ y) (yx : y ≤ x) (xn : x ≤ hgt F.v) : firstNot (siQ (skN F x y) (skD F x y) b.n b.d) 24 0 (if x = y then 0 else 2097152) = skHi F b x y := by
  by_cases e : x = y
  · subst e
    rw [if_pos rfl, (sk_same F b x).2]
    simp [firstNot]
  · rw [if_neg e]
    obtain ⟨a1, a2, a3, a4, a5, a6, a7⟩ := sk_q h bn bd q y0 yx xn
    have t := tm_lt' h.v y0 (show y < x by omega) (by rw [← hgt_eq]; exact xn)
    have N0 : 0 < skN F x y := by unfold skN; omega
    have u := up_div (a := skN F x y * b.d) (Int.mul_pos a3 bn)
    have := sink_hi N0 a3 bn bd 24 (M := 2097152) (by rw [u]; split <;> omega) (by omega)
    unfold skHi
    rw [← u]
    exact this
end
set_option maxRecDepth 100000 in
set_option maxHeartbeats 4000000 in
theorem rSinks_no (F : Fl) (vv vs : Value) (x y c : Int) (w : World) (hF : FlIn w F vv vs) (hc : rdE F (skR F x y) = c) (h0 : c ≠ 0) :
    Calls Tryz.prog 27 #[flV F vv vs, .int .i64 x, .int .i64 y] w fun e w' => e = .returned (.tuple #[.agg #[.int .i64 0, .int .i64 0], .int .i64 c]) ∧ Below w.heap.size w w' := by
  have HF0 := Lib.hid ((hF.alloc (flO F vv vs)).alloc (Obj.cells #[.int .i64 0, .int .i64 0] 27))
  have HB := Lib.hid ((Bk.new w 30 (flL' F vv vs)).alloc (Obj.cells #[.int .i64 0, .int .i64 0] 27))
  have HZ := Lib.hid (Bk.new1 w (flO F vv vs) 27 [.int .i64 0, .int .i64 0])
  unfold rdE at hc
  cases ho : okFl F with
  | false =>
    have HC := Lib.hid (show chkF F = 30 by unfold chkF; rw [if_neg (by rw [ho]; decide)])
    rw [if_neg (by rw [ho]; decide)] at hc
    subst hc
    clear ho hF h0
    go_enter Tryz.func27, Tryz.ntmps27
    go_wp2_with (first | (refine ld_at rfl (T := 30) rfl rfl HB.out Tryz.underlying30 rfl (by kernel_rfl) ?_) | fail)
    refine (rCheck_any F _ _ _ HF0.out).mono ?_
    rw [HC.out]
    rintro e w1 ⟨rfl, hb⟩
    have HB1 := Lib.hid (HB.out.below hb)
    have HZ1 := Lib.hid (HZ.out.below hb)
    have HW1 := Lib.hid (bafter (bafter hb))
    have HF1 := Lib.hid (HF0.out.below hb)
    have c0 := HB1.out.cell 0
    have cl := HB1.out.lt
    simp only [List.getElem?_cons_zero] at c0
    clear hb
    go_wp2_with (refine st_at rfl (T := 27) rfl rfl (cs := [.int .i64 0, .int .i64 0]) rfl HZ1.out (by kernel_rfl) rfl rfl ?_; intro wk hkk hsk)
    refine bodyPost_ret (ret_cell_tmp rfl _ _ rfl hkk Tryz.underlying27 rfl (by kernel_rfl)) rfl ⟨rfl, ?_⟩
    exact bes_then HW1.out hsk (by omega) HW1.out.size
  | true =>
    have HC := Lib.hid (show chkF F = 0 by unfold chkF; rw [if_pos ho])
    have hO := (okFl_iff F).1 ho
    have hv := (okv_iff F.v).1 hO.v
    have hHt := (pt_bd hv (Nat.le_refl _)).1
    have hh : hgt F.v = vX F.v F.v.length := rfl
    rw [← hh] at hHt
    rw [if_pos ho] at hc
    have hHH := fun w h => Height_any F.v vv w h hv
    have hr : rdE F (asR F 0 0) = if canI F (allL F) = true then 0 else 31 := by
      have h2 : asR F 0 0 = true := by unfold asR; rw [inB_mk (by omega) (by omega), inB_mk (by omega) (by omega)]; rfl
      unfold rdE
      rw [if_pos ho, h2, if_pos rfl]
    unfold skR at hc
    obtain ⟨H, hH⟩ : ∃ H, hgt F.v = H := ⟨_, rfl⟩
    simp only [hH] at hHH hc hHt
    have HH := Lib.hid hHH
    obtain ⟨ov, cv, rfl, mv⟩ := hF.v.parts
    clear ho hF hHH hH hh hv hO
    by_cases hb : 0 ≤ y ∧ y ≤ x ∧ x ≤ H
    · obtain ⟨b1, b2, b3⟩ := hb
      have h1 : ((inB x 0 H && inB y 0 H) && decide (y ≤ x)) = true := by
        rw [inB_mk (by omega) (by omega), inB_mk (by omega) (by omega)]
        simpa using b2
      rw [h1, if_pos rfl] at hc
      rw [hc] at hr
      have HE := Lib.hid hr
      have hne : (c == 0) = false := by simpa using h0
      clear hc hr h1 h0
      go_enter Tryz.func27, Tryz.ntmps27
      go_wp2_with (first | (refine ld_at rfl (T := 30) rfl rfl HB.out Tryz.underlying30 rfl (by kernel_rfl) ?_) | fail)
      refine (rCheck_any F _ _ _ HF0.out).mono ?_
      rw [HC.out]
      rintro e w1 ⟨rfl, hb⟩
      have HB1 := Lib.hid (HB.out.below hb)
      have HZ1 := Lib.hid (HZ.out.below hb)
      have HW1 := Lib.hid (bafter (bafter hb))
      have HF1 := Lib.hid (HF0.out.below hb)
      have c0 := HB1.out.cell 0
      have cl := HB1.out.lt
      simp only [List.getElem?_cons_zero] at c0
      clear hb
      go_wp2_with fail
      refine (HH.out _ HF1.out.v).mono ?_
      rintro e w2 ⟨rfl, rfl⟩
      go_wp2_with (first | (refine ld_at rfl (T := 30) rfl rfl HB1.out Tryz.underlying30 rfl (by kernel_rfl) ?_) | fail)
      refine (rasked_any F _ _ 0 0 _ HF1.out).mono ?_
      rw [HE.out]
      rintro e w2 ⟨rfl, hb⟩
      have HZ2 := Lib.hid (HZ1.out.below hb)
      have HW2 := Lib.hid (bthen HW1.out hb)
      clear hb
      go_wp2_with (refine st_at rfl (T := 27) rfl rfl (cs := [.int .i64 0, .int .i64 0]) rfl HZ2.out (by kernel_rfl) rfl rfl ?_; intro wk hkk hsk)
      refine bodyPost_ret (ret_cell_tmp rfl _ _ rfl hkk Tryz.underlying27 rfl (by kernel_rfl)) rfl ⟨rfl, ?_⟩
      exact bes_then HW2.out hsk (by omega) HW2.out.size
    · have h1 : ((inB x 0 H && inB y 0 H) && decide (y ≤ x)) = false := by
        cases h : ((inB x 0 H && inB y 0 H) && decide (y ≤ x)) with
        | false => rfl
        | true =>
          simp only [inB, Bool.and_eq_true, decide_eq_true_eq] at h
          omega
      rw [h1, if_neg (by decide)] at hc
      subst hc
      clear h1 h0 hr
      go_enter Tryz.func27, Tryz.ntmps27
      go_wp2_with (first | (refine ld_at rfl (T := 30) rfl rfl HB.out Tryz.underlying30 rfl (by kernel_rfl) ?_) | fail)
      refine (rCheck_any F _ _ _ HF0.out).mono ?_
      rw [HC.out]
      rintro e w1 ⟨rfl, hb⟩
      have HB1 := Lib.hid (HB.out.below hb)
      have HZ1 := Lib.hid (HZ.out.below hb)
      have HW1 := Lib.hid (bafter (bafter hb))
      have HF1 := Lib.hid (HF0.out.below hb)
      have c0 := HB1.out.cell 0
      have cl := HB1.out.lt
      simp only [List.getElem?_cons_zero] at c0
      clear hb
      go_wp2_with fail
      refine (HH.out _ HF1.out.v).mono ?_
      rintro e w2 ⟨rfl, rfl⟩
      by_cases q1 : x < 0
      · go_wp2_with (refine st_at rfl (T := 27) rfl rfl (cs := [.int .i64 0, .int .i64 0]) rfl HZ1.out (by kernel_rfl) rfl rfl ?_; intro wk hkk hsk)
        refine bodyPost_ret (ret_cell_tmp rfl _ _ rfl hkk Tryz.underlying27 rfl (by kernel_rfl)) rfl ⟨rfl, ?_⟩
        exact bes_then HW1.out hsk (by omega) HW1.out.size
      · by_cases q2 : H < x
        · go_wp2_with (refine st_at rfl (T := 27) rfl rfl (cs := [.int .i64 0, .int .i64 0]) rfl HZ1.out (by kernel_rfl) rfl rfl ?_; intro wk hkk hsk)
          refine bodyPost_ret (ret_cell_tmp rfl _ _ rfl hkk Tryz.underlying27 rfl (by kernel_rfl)) rfl ⟨rfl, ?_⟩
          exact bes_then HW1.out hsk (by omega) HW1.out.size
        · by_cases q3 : y < 0
          · go_wp2_with (refine st_at rfl (T := 27) rfl rfl (cs := [.int .i64 0, .int .i64 0]) rfl HZ1.out (by kernel_rfl) rfl rfl ?_; intro wk hkk hsk)
            refine bodyPost_ret (ret_cell_tmp rfl _ _ rfl hkk Tryz.underlying27 rfl (by kernel_rfl)) rfl ⟨rfl, ?_⟩
            exact bes_then HW1.out hsk (by omega) HW1.out.size
          · have q4 : x < y := by omega
            go_wp2_with (refine st_at rfl (T := 27) rfl rfl (cs := [.int .i64 0, .int .i64 0]) rfl HZ1.out (by kernel_rfl) rfl rfl ?_; intro wk hkk hsk)
            refine bodyPost_ret (ret_cell_tmp rfl _ _ rfl hkk Tryz.underlying27 rfl (by kernel_rfl)) rfl ⟨rfl, ?_⟩
            exact bes_then HW1.out hsk (by omega) HW1.out.size
end Go.Proofs.YtnfndiafabhhdaaGreat
