/- Walks of the reference's never and ever: searches by halves (Wear). -/
import Derived.Test.YtnfndiafabhhdaaGreatG7
import Derived.Test.YtnfndiafabhhdaaGreatA3
import Derived.Test.YtnfndiafabhhdaaGreatF1
namespace Go.Proofs.YtnfndiafabhhdaaGreat
open Go.ChangeShapes Go.WideShapes Go.ChangeAt Go.RowKit
set_option maxRecDepth 100000 in
set_option maxHeartbeats 4000000 in
theorem never_any (F : Fl) (vv vs : Value) (tn td a z : Int) (w : World) (hF : FlIn w F vv vs) (hO : OkF F) (n0 : 0 ≤ tn) (n1 : tn ≤ 480000000) (d0 : 0 < td) (d1 : td ≤ 1000) (a0 : 0 ≤ a) (az : a ≤ z) (z1 : z ≤ 2097152) :
    Calls Tryz.prog 75 #[flV F vv vs, .agg #[.int .i64 tn, .int .i64 td], .int .i64 a, .int .i64 z] w fun e w' => e = .returned (.int .i64 (lastNot (fun n => canM F (allL F) (⟨n, tn, td, true⟩, true)) 24 a z)) ∧ Below w.heap.size w w' := by
  obtain ⟨P, hP⟩ : ∃ P : Int → Bool, (fun n => canM F (allL F) (⟨n, tn, td, true⟩, true)) = P := ⟨_, rfl⟩
  obtain ⟨X, hX⟩ : ∃ x, lastNot P 24 a z = x := ⟨_, rfl⟩
  have hcan : ∀ (n : Int) (w : World), 0 ≤ n → n ≤ 2097152 → FlIn w F vv vs → Calls Tryz.prog 98 #[flV F vv vs, .agg #[.int .i64 n, .int .i64 tn, .int .i64 td, .bool true, .bool true]] w fun e w' => e = .returned (.bool (P n)) ∧ Below w.heap.size w w' := by
    intro n w k0 k1 h
    rw [← hP]
    exact rcan_any F vv vs (⟨n, tn, td, true⟩, true) w h hO ⟨n0, n1, d0, d1, k0, k1⟩
  rw [hP, hX]
  have HX := Lib.hid hX
  have HC := Lib.hid hcan
  obtain ⟨W, hW⟩ : ∃ W, (w.alloc (flO F vv vs)).alloc (Obj.cells #[.int .i64 tn, .int .i64 td] 41) = W := ⟨_, rfl⟩
  have HFW : Hid (FlIn W F vv vs) := Lib.hid (by rw [← hW]; exact (hF.alloc _).alloc _)
  have HBW : Hid (Bk W w.heap.size 30 (flL' F vv vs)) := Lib.hid (by rw [← hW]; exact (Bk.new w _ [_, _, _, _, _, _]).alloc _)
  have HTW : Hid (Bk W (w.heap.size + 1) 41 [.int .i64 tn, .int .i64 td]) := Lib.hid (by rw [← hW]; exact Bk.new1 w _ _ [_, _])
  have HWW : Hid (Below w.heap.size w W) := Lib.hid (by rw [← hW]; exact (ballo _ _).alloc (by simp) _)
  clear hP hX hcan hF hO n0 n1 d0 d1
  go_enter Tryz.func75, Tryz.ntmps75
  go_wp2_with fail
  try rw [hW]
  clear hW
  go_loopw [2, 3, 9, 10] (fun u v _ _ wr => ∃ (lo hi : Int) (f : Nat), 0 ≤ lo ∧ lo ≤ hi ∧ hi ≤ 2097152 ∧ u = .int .i64 lo ∧ v = .int .i64 hi ∧ Hid (lastNot P f lo hi = X) ∧ Hid ((hi - lo).toNat < 2 ^ f) ∧ Hid (Below W.heap.size W wr)) (fun u v _ _ _ => (intOf v - intOf u).toNat)
  case atStart => exact ⟨a, z, 24, a0, az, z1, rfl, rfl, HX, Lib.hid (by omega), Lib.hid (Below.refl _ _)⟩
  case round =>
    obtain ⟨lo, hi, f, l0, l1, l2, rfl, rfl, hf, hp, hbl⟩ := hrel
    by_cases hlt : lo < hi
    · have hB := HBW.out.below hbl.out
      have hT := HTW.out.below hbl.out
      have hfr := HFW.out.below hbl.out
      have HB := Lib.hid hB
      have HT := Lib.hid hT
      have HFR := Lib.hid hfr
      clear hB hT hfr
      have e2 := Int.tdiv_eq_ediv_of_nonneg (show 0 ≤ lo + hi + 1 by omega) (b := 2)
      go_wp2_with (first | (refine ld_at rfl (T := 30) rfl rfl HB.out Tryz.underlying30 rfl (by kernel_rfl) ?_) | (refine ld_at rfl (T := 41) rfl rfl HT.out Tryz.underlying41 rfl (by kernel_rfl) ?_) | fail)
      refine (HC.out ((lo + hi + 1) / 2) wr (by omega) (by omega) HFR.out).mono ?_
      rintro e w2 ⟨rfl, hb2⟩
      have hb3 := Lib.hid (hbl.out.trans (hb2.mono hbl.out.size))
      obtain ⟨f, rfl⟩ : ∃ f', f = f' + 1 := by
        cases f with
        | zero => have := hp.out; simp at this; omega
        | succ f => exact ⟨f, rfl⟩
      have hf2 := hf.out
      have hp2 := hp.out
      rw [Nat.pow_succ] at hp2
      rw [lastNot, if_pos hlt] at hf2
      clear hb2
      cases hP : P ((lo + hi + 1) / 2) with
      | true =>
        rw [hP, if_pos rfl] at hf2
        have HF := Lib.hid hf2
        have HP := Lib.hid hp2
        clear hf2 hp2 hf hp hP
        go_wp2_with fail
        refine ⟨⟨lo, (lo + hi + 1) / 2 - 1, f, by omega, by omega, by omega, by first | rfl | go_num, by first | rfl | go_num, HF, Lib.hid (by have := HP.out; omega), hb3⟩, by simp [intOf]; omega⟩
      | false =>
        rw [hP, if_neg (by decide)] at hf2
        have HF := Lib.hid hf2
        have HP := Lib.hid hp2
        clear hf2 hp2 hf hp hP
        go_wp2_with fail
        refine ⟨⟨(lo + hi + 1) / 2, hi, f, by omega, by omega, by omega, by first | rfl | go_num, by first | rfl | go_num, HF, Lib.hid (by have := HP.out; omega), hb3⟩, by simp [intOf]; omega⟩
    · have hX : lo = X := by
        have := lastNot_in P f lo hi l1
        have := hf.out
        omega
      subst hX
      clear hf hp
      go_wp2_with fail
      go_ret
      exact ⟨rfl, HWW.out.trans (hbl.out.mono HWW.out.size)⟩
set_option maxRecDepth 100000 in
set_option maxHeartbeats 4000000 in
theorem ever_any (F : Fl) (vv vs : Value) (tn td a z : Int) (w : World) (hF : FlIn w F vv vs) (hO : OkF F) (n0 : 0 ≤ tn) (n1 : tn ≤ 480000000) (d0 : 0 < td) (d1 : td ≤ 1000) (a0 : 0 ≤ a) (az : a ≤ z) (z1 : z ≤ 2097152) :
    Calls Tryz.prog 76 #[flV F vv vs, .agg #[.int .i64 tn, .int .i64 td], .int .i64 a, .int .i64 z] w fun e w' => e = .returned (.int .i64 (firstNot (fun n => canM F (allL F) (⟨n, tn, td, true⟩, false)) 24 a z)) ∧ Below w.heap.size w w' := by
  obtain ⟨P, hP⟩ : ∃ P : Int → Bool, (fun n => canM F (allL F) (⟨n, tn, td, true⟩, false)) = P := ⟨_, rfl⟩
  obtain ⟨X, hX⟩ : ∃ x, firstNot P 24 a z = x := ⟨_, rfl⟩
  have hcan : ∀ (n : Int) (w : World), 0 ≤ n → n ≤ 2097152 → FlIn w F vv vs → Calls Tryz.prog 98 #[flV F vv vs, .agg #[.int .i64 n, .int .i64 tn, .int .i64 td, .bool false, .bool true]] w fun e w' => e = .returned (.bool (P n)) ∧ Below w.heap.size w w' := by
    intro n w k0 k1 h
    rw [← hP]
    exact rcan_any F vv vs (⟨n, tn, td, true⟩, false) w h hO ⟨n0, n1, d0, d1, k0, k1⟩
  rw [hP, hX]
  have HX := Lib.hid hX
  have HC := Lib.hid hcan
  obtain ⟨W, hW⟩ : ∃ W, (w.alloc (flO F vv vs)).alloc (Obj.cells #[.int .i64 tn, .int .i64 td] 41) = W := ⟨_, rfl⟩
  have HFW : Hid (FlIn W F vv vs) := Lib.hid (by rw [← hW]; exact (hF.alloc _).alloc _)
  have HBW : Hid (Bk W w.heap.size 30 (flL' F vv vs)) := Lib.hid (by rw [← hW]; exact (Bk.new w _ [_, _, _, _, _, _]).alloc _)
  have HTW : Hid (Bk W (w.heap.size + 1) 41 [.int .i64 tn, .int .i64 td]) := Lib.hid (by rw [← hW]; exact Bk.new1 w _ _ [_, _])
  have HWW : Hid (Below w.heap.size w W) := Lib.hid (by rw [← hW]; exact (ballo _ _).alloc (by simp) _)
  clear hP hX hcan hF hO n0 n1 d0 d1
  go_enter Tryz.func76, Tryz.ntmps76
  go_wp2_with fail
  try rw [hW]
  clear hW
  go_loopw [2, 3, 9, 10] (fun u v _ _ wr => ∃ (lo hi : Int) (f : Nat), 0 ≤ lo ∧ lo ≤ hi ∧ hi ≤ 2097152 ∧ u = .int .i64 lo ∧ v = .int .i64 hi ∧ Hid (firstNot P f lo hi = X) ∧ Hid ((hi - lo).toNat < 2 ^ f) ∧ Hid (Below W.heap.size W wr)) (fun u v _ _ _ => (intOf v - intOf u).toNat)
  case atStart => exact ⟨a, z, 24, a0, az, z1, rfl, rfl, HX, Lib.hid (by omega), Lib.hid (Below.refl _ _)⟩
  case round =>
    obtain ⟨lo, hi, f, l0, l1, l2, rfl, rfl, hf, hp, hbl⟩ := hrel
    by_cases hlt : lo < hi
    · have hB := HBW.out.below hbl.out
      have hT := HTW.out.below hbl.out
      have hfr := HFW.out.below hbl.out
      have HB := Lib.hid hB
      have HT := Lib.hid hT
      have HFR := Lib.hid hfr
      clear hB hT hfr
      have e2 := Int.tdiv_eq_ediv_of_nonneg (show 0 ≤ lo + hi by omega) (b := 2)
      go_wp2_with (first | (refine ld_at rfl (T := 30) rfl rfl HB.out Tryz.underlying30 rfl (by kernel_rfl) ?_) | (refine ld_at rfl (T := 41) rfl rfl HT.out Tryz.underlying41 rfl (by kernel_rfl) ?_) | fail)
      refine (HC.out ((lo + hi) / 2) wr (by omega) (by omega) HFR.out).mono ?_
      rintro e w2 ⟨rfl, hb2⟩
      have hb3 := Lib.hid (hbl.out.trans (hb2.mono hbl.out.size))
      obtain ⟨f, rfl⟩ : ∃ f', f = f' + 1 := by
        cases f with
        | zero => have := hp.out; simp at this; omega
        | succ f => exact ⟨f, rfl⟩
      have hf2 := hf.out
      have hp2 := hp.out
      rw [Nat.pow_succ] at hp2
      rw [firstNot, if_pos hlt] at hf2
      clear hb2
      cases hP : P ((lo + hi) / 2) with
      | true =>
        rw [hP, if_pos rfl] at hf2
        have HF := Lib.hid hf2
        have HP := Lib.hid hp2
        clear hf2 hp2 hf hp hP
        go_wp2_with fail
        refine ⟨⟨(lo + hi) / 2 + 1, hi, f, by omega, by omega, by omega, by first | rfl | go_num, by first | rfl | go_num, HF, Lib.hid (by have := HP.out; omega), hb3⟩, by simp [intOf]; omega⟩
      | false =>
        rw [hP, if_neg (by decide)] at hf2
        have HF := Lib.hid hf2
        have HP := Lib.hid hp2
        clear hf2 hp2 hf hp hP
        go_wp2_with fail
        refine ⟨⟨lo, (lo + hi) / 2, f, by omega, by omega, by omega, by first | rfl | go_num, by first | rfl | go_num, HF, Lib.hid (by have := HP.out; omega), hb3⟩, by simp [intOf]; omega⟩
    · have hX : lo = X := by
        have := firstNot_in P f lo hi l1
        have := hf.out
        omega
      subst hX
      clear hf hp
      go_wp2_with fail
      go_ret
      exact ⟨rfl, HWW.out.trans (hbl.out.mono HWW.out.size)⟩
set_option maxRecDepth 100000 in
set_option maxHeartbeats 8000000 in
theorem rlevels_any (F : Fl) (vv vs : Value) (m : Int) (w : World) (hF : FlIn w F vv vs) (hO : OkF F) (m0 : 0 ≤ m) (m1 : m ≤ 2097152) :
    Calls Tryz.prog 80 #[flV F vv vs, .int .i64 m] w fun e w' => e = .returned (.agg #[.int .i64 (lvLo F (allL F) m), .int .i64 (lvHi F (allL F) m)]) ∧ Below w.heap.size w w' := by
  have hv := (okv_iff F.v).1 hO.v
  have hHt := (pt_bd hv (Nat.le_refl _)).1
  have hh : hgt F.v = vX F.v F.v.length := rfl
  rw [← hh] at hHt
  have e1 : lvLo F (allL F) m = lastNot (fun n => unM F (allL F) n m) 24 0 (hgt F.v) := lastNot_guard _ _ _ _ (Int.le_refl _)
  have e2 : lvHi F (allL F) m = firstNot (fun n => ovM F (allL F) n m) 24 0 (hgt F.v) := rfl
  rw [e1, e2]
  have hT : ∀ (n : Int) (w : World), 0 ≤ n → n ≤ hgt F.v → RgR w vv F.v → Calls Tryz.prog 74 #[vv, .int .i64 n] w fun e w' => e = .returned (.agg #[.int .i64 (tmN F.v n), .int .i64 (tmD F.v n)]) ∧ Below w.heap.size w w' := fun n w k0 k1 h => Time_any F.v vv n w h hv k0 k1
  have hU : ∀ (n : Int) (w : World), 0 ≤ n → n ≤ hgt F.v → FlIn w F vv vs → Calls Tryz.prog 98 #[flV F vv vs, .agg #[.int .i64 m, .int .i64 (tmN F.v n), .int .i64 (tmD F.v n), .bool true, .bool true]] w fun e w' => e = .returned (.bool (unM F (allL F) n m)) ∧ Below w.heap.size w w' := fun n w k0 k1 h => rcan_any F vv vs (lnT F.v m n true, true) w h hO (lnB_T hO k0 k1 m0 m1 true)
  have hV : ∀ (n : Int) (w : World), 0 ≤ n → n ≤ hgt F.v → FlIn w F vv vs → Calls Tryz.prog 98 #[flV F vv vs, .agg #[.int .i64 m, .int .i64 (tmN F.v n), .int .i64 (tmD F.v n), .bool false, .bool true]] w fun e w' => e = .returned (.bool (ovM F (allL F) n m)) ∧ Below w.heap.size w w' := fun n w k0 k1 h => rcan_any F vv vs (lnT F.v m n true, false) w h hO (lnB_T hO k0 k1 m0 m1 true)
  have hHH := fun w h => Height_any F.v vv w h hv
  obtain ⟨H, hH⟩ : ∃ H, hgt F.v = H := ⟨_, rfl⟩
  simp only [hH] at hHH hHt hT hU hV ⊢
  obtain ⟨P, hP⟩ : ∃ P : Int → Bool, (fun n => unM F (allL F) n m) = P := ⟨_, rfl⟩
  obtain ⟨Q, hQ⟩ : ∃ P : Int → Bool, (fun n => ovM F (allL F) n m) = P := ⟨_, rfl⟩
  have hP' : ∀ n, unM F (allL F) n m = P n := fun n => by rw [← hP]
  have hQ' : ∀ n, ovM F (allL F) n m = Q n := fun n => by rw [← hQ]
  simp only [hP'] at hU
  simp only [hQ'] at hV
  rw [hP, hQ]
  obtain ⟨X, hX⟩ : ∃ x, lastNot P 24 0 H = x := ⟨_, rfl⟩
  obtain ⟨Y, hY⟩ : ∃ x, firstNot Q 24 0 H = x := ⟨_, rfl⟩
  rw [hX, hY]
  have HX := Lib.hid hX
  have HY := Lib.hid hY
  have HT := Lib.hid hT
  have HU := Lib.hid hU
  have HV := Lib.hid hV
  obtain ⟨ov, cv, rfl, mv⟩ := hF.v.parts
  obtain ⟨lv, hlv⟩ : ∃ n, F.v.length = n := ⟨_, rfl⟩
  rw [hlv] at mv hF HT HU HV hHH ⊢
  have HF00 := Lib.hid hF
  have HF0 := Lib.hid ((hF.alloc (flO F (.slice ov lv cv) vs)).alloc (Obj.cells #[.int .i64 0, .int .i64 0] 27))
  have HHH := Lib.hid (hHH _ HF0.out.v)
  obtain ⟨W, hW⟩ : ∃ W, ((w.alloc (flO F (.slice ov lv cv) vs)).alloc (Obj.cells #[.int .i64 0, .int .i64 0] 27)).alloc (Obj.cells #[.int .i64 0, .int .i64 H] 27) = W := ⟨_, rfl⟩
  have HFW : Hid (FlIn W F (.slice ov lv cv) vs) := Lib.hid (by rw [← hW]; exact HF0.out.alloc _)
  have HBW : Hid (Bk W w.heap.size 30 (flL' F (.slice ov lv cv) vs)) := Lib.hid (by rw [← hW]; exact ((Bk.new w _ [_, _, _, _, _, _]).alloc _).alloc _)
  have HZW : Hid (Bk W (w.heap.size + 1) 27 [.int .i64 0, .int .i64 0]) := Lib.hid (by rw [← hW]; exact (Bk.new1 w _ _ [_, _]).alloc _)
  have HSW : Hid (Bk W (w.heap.size + 2) 27 [.int .i64 0, .int .i64 H]) := Lib.hid (by
    rw [← hW]
    have h := Bk.new1 (w.alloc (flO F (.slice ov lv cv) vs)) (Obj.cells #[.int .i64 0, .int .i64 0] 27) 27 [.int .i64 0, .int .i64 H]
    rwa [World.size_alloc] at h)
  have HWW : Hid (Below w.heap.size w W) := Lib.hid (by rw [← hW]; exact ((ballo _ _).alloc (by simp) _).alloc (by simp; omega) _)
  have s0 := HSW.out.cell 0
  have s1 := HSW.out.cell 1
  have sl := HSW.out.lt
  simp only [List.getElem?_cons_zero, List.getElem?_cons_succ] at s0 s1
  clear hP hQ hP' hQ' hX hY hT hU hV hF hO hHH hh hv hlv e1 e2 hH HF0
  go_enter Tryz.func80, Tryz.ntmps80
  go_wp2_with fail
  refine HHH.out.mono ?_
  rintro e w1 ⟨rfl, rfl⟩
  go_wp2_with fail
  try rw [hW]
  clear hW s0 s1 HHH
  go_loopw [6, 7, 8, 9] (fun u v _ _ wr => ∃ (lo hi : Int) (f : Nat), 0 ≤ lo ∧ lo ≤ hi ∧ hi ≤ H ∧ u = .int .i64 lo ∧ v = .int .i64 hi ∧ Hid (lastNot P f lo hi = X) ∧ Hid ((hi - lo).toNat < 2 ^ f) ∧ Hid (Below W.heap.size W wr)) (fun u v _ _ _ => (intOf v - intOf u).toNat)
  case atStart => exact ⟨0, H, 24, by omega, by omega, by omega, rfl, rfl, HX, Lib.hid (by omega), Lib.hid (Below.refl _ _)⟩
  case round =>
    obtain ⟨lo, hi, f, l0, l1, l2, rfl, rfl, hf, hp, hbl⟩ := hrel
    by_cases hlt : lo < hi
    · have hB := HBW.out.below hbl.out
      have HFR := Lib.hid (HFW.out.below hbl.out)
      have HBX := Lib.hid (bthen HWW.out hbl.out)
      have c0 := hB.cell 0
      have c1 := hB.cell 1
      have c2 := hB.cell 2
      have c3 := hB.cell 3
      have c4 := hB.cell 4
      have c5 := hB.cell 5
      have cl := hB.lt
      simp only [List.getElem?_cons_zero, List.getElem?_cons_succ] at c0 c1 c2 c3 c4 c5
      have e2 := Int.tdiv_eq_ediv_of_nonneg (show 0 ≤ lo + hi + 1 by omega) (b := 2)
      obtain ⟨n, hn⟩ : ∃ n, (lo + hi + 1) / 2 = n := ⟨_, rfl⟩
      have nb : lo ≤ n ∧ n ≤ hi := by omega
      have mc := @more_cell wr
      have k1 : ∀ i : More wr, _ := fun i => more_call (HT.out n i.x (by omega) (by omega) (HFR.out.v.below i.h))
      have k2 : ∀ i : More wr, _ := fun i => more_call (HU.out n i.x (by omega) (by omega) (HFR.out.below i.h))
      obtain ⟨tn, htn⟩ : ∃ t, tmN F.v n = t := ⟨_, rfl⟩
      obtain ⟨td, htd⟩ : ∃ t, tmD F.v n = t := ⟨_, rfl⟩
      simp only [htn, htd] at k1 k2
      have K1 := Lib.hid k1
      have K2 := Lib.hid k2
      clear k1 k2 htn htd hB
      go_wp2_with fail
      refine wp_region_more (by kernel_rfl) (by kernel_rfl) ?_
      iterate 8 (try (first | go_big_quiet_step ((with_reducible first | exact K1.out _ | exact K2.out _)) | quiet_step ((with_reducible first | exact K1.out _ | exact K2.out _))))
      iterate 8 (try (first | go_big_quiet_step ((with_reducible first | exact K1.out _ | exact K2.out _)) | quiet_step ((with_reducible first | exact K1.out _ | exact K2.out _))))
      iterate 8 (try (first | go_big_quiet_step ((with_reducible first | exact K1.out _ | exact K2.out _)) | quiet_step ((with_reducible first | exact K1.out _ | exact K2.out _))))
      iterate 8 (try (first | go_big_quiet_step ((with_reducible first | exact K1.out _ | exact K2.out _)) | quiet_step ((with_reducible first | exact K1.out _ | exact K2.out _))))
      iterate 8 (try (first | go_big_quiet_step ((with_reducible first | exact K1.out _ | exact K2.out _)) | quiet_step ((with_reducible first | exact K1.out _ | exact K2.out _))))
      refine wpQuiet_nil ?_
      rintro ⟨wm, hbm⟩
      try dsimp only
      have HB3 := Lib.hid (hbl.out.trans (hbm.mono hbl.out.size))
      obtain ⟨f, rfl⟩ : ∃ f', f = f' + 1 := by
        cases f with
        | zero => have := hp.out; simp at this; omega
        | succ f => exact ⟨f, rfl⟩
      have hf2 := hf.out
      have hp2 := hp.out
      rw [Nat.pow_succ] at hp2
      rw [lastNot, if_pos hlt, hn] at hf2
      clear hbm c0 c1 c2 c3 c4 c5 mc K1 K2
      cases hP : P n with
      | true =>
        rw [hP, if_pos rfl] at hf2
        have HF := Lib.hid hf2
        have HP := Lib.hid hp2
        clear hf2 hp2 hf hp hP
        go_wp2_with fail
        refine ⟨⟨lo, n - 1, f, by omega, by omega, by omega, by first | rfl | go_num, by first | rfl | go_num, HF, Lib.hid (by have := HP.out; omega), HB3⟩, by simp [intOf]; omega⟩
      | false =>
        rw [hP, if_neg (by decide)] at hf2
        have HF := Lib.hid hf2
        have HP := Lib.hid hp2
        clear hf2 hp2 hf hp hP
        go_wp2_with fail
        refine ⟨⟨n, hi, f, by omega, by omega, by omega, by first | rfl | go_num, by first | rfl | go_num, HF, Lib.hid (by have := HP.out; omega), HB3⟩, by simp [intOf]; omega⟩
    · have hX : lo = X := by
        have := lastNot_in P f lo hi l1
        have := hf.out
        omega
      subst hX
      clear hf hp
      have hS := HSW.out.below hbl.out
      have q0 := hS.cell 0
      have q1 := hS.cell 1
      have g0 := hS.frozen 0
      have ql := hS.lt
      simp only [List.getElem?_cons_zero, List.getElem?_cons_succ] at q0 q1
      have hB := (HBW.out.below hbl.out).far (p := ⟨w.heap.size + 2, 0, none⟩) (by simp) (.int .i64 lo)
      have hZ := (HZW.out.below hbl.out).far (p := ⟨w.heap.size + 2, 0, none⟩) (by simp) (.int .i64 lo)
      have hS2 := hS.set 0 (.int .i64 lo)
      have hW1 : Below w.heap.size w (wr.setCell ⟨w.heap.size + 2, 0, none⟩ (.int .i64 lo)) := (bthen HWW.out hbl.out).setCell (by show w.heap.size ≤ w.heap.size + 2; omega) _
      have hS2' : Bk (wr.setCell ⟨w.heap.size + 2, 0, none⟩ (.int .i64 lo)) (w.heap.size + 2) 27 [.int .i64 lo, .int .i64 H] := hS2
      have HFV := Lib.hid (HF00.out.below hW1)
      have HBV := Lib.hid hB
      have HZV := Lib.hid hZ
      have HSV := Lib.hid hS2'
      have HWV := Lib.hid hW1
      clear hB hZ hS2 hS2' hW1 hS HFW HBW HZW HSW HWW
      go_wp2_with fail
      obtain ⟨V, hV⟩ : ∃ V, wr.setCell ⟨w.heap.size + 2, 0, none⟩ (.int .i64 lo) = V := ⟨_, rfl⟩
      rw [hV] at HFV HBV HZV HSV HWV ⊢
      have HFW := HFV
      have HBW := HBV
      have HWW := HWV
      clear hV hbl q0 q1 g0 ql HFV HBV HWV l0 l1 l2 hlt
      obtain ⟨x0, hx0⟩ : ∃ x, lo = x := ⟨_, rfl⟩
      rw [hx0] at HSV HX ⊢
      have HX0 := Lib.hid hx0
      clear hx0
      go_loopw [6, 7, 10, 11] (fun u v _ _ wr => ∃ (lo hi : Int) (f : Nat), 0 ≤ lo ∧ lo ≤ hi ∧ hi ≤ H ∧ u = .int .i64 lo ∧ v = .int .i64 hi ∧ Hid (firstNot Q f lo hi = Y) ∧ Hid ((hi - lo).toNat < 2 ^ f) ∧ Hid (Below V.heap.size V wr)) (fun u v _ _ _ => (intOf v - intOf u).toNat)
      case atStart => exact ⟨0, H, 24, by omega, by omega, by omega, rfl, rfl, HY, Lib.hid (by omega), Lib.hid (Below.refl _ _)⟩
      case round =>
        obtain ⟨lo, hi, f, l0, l1, l2, rfl, rfl, hf, hp, hbl⟩ := hrel
        by_cases hlt : lo < hi
        · have hB := HBW.out.below hbl.out
          have HFR := Lib.hid (HFW.out.below hbl.out)
          have HBX := Lib.hid (bthen HWW.out hbl.out)
          have c0 := hB.cell 0
          have c1 := hB.cell 1
          have c2 := hB.cell 2
          have c3 := hB.cell 3
          have c4 := hB.cell 4
          have c5 := hB.cell 5
          have cl := hB.lt
          simp only [List.getElem?_cons_zero, List.getElem?_cons_succ] at c0 c1 c2 c3 c4 c5
          have e2 := Int.tdiv_eq_ediv_of_nonneg (show 0 ≤ lo + hi by omega) (b := 2)
          obtain ⟨n, hn⟩ : ∃ n, (lo + hi) / 2 = n := ⟨_, rfl⟩
          have nb : lo ≤ n ∧ n ≤ hi := by omega
          have mc := @more_cell wr
          have k1 : ∀ i : More wr, _ := fun i => more_call (HT.out n i.x (by omega) (by omega) (HFR.out.v.below i.h))
          have k2 : ∀ i : More wr, _ := fun i => more_call (HV.out n i.x (by omega) (by omega) (HFR.out.below i.h))
          obtain ⟨tn, htn⟩ : ∃ t, tmN F.v n = t := ⟨_, rfl⟩
          obtain ⟨td, htd⟩ : ∃ t, tmD F.v n = t := ⟨_, rfl⟩
          simp only [htn, htd] at k1 k2
          have K1 := Lib.hid k1
          have K2 := Lib.hid k2
          clear k1 k2 htn htd hB
          go_wp2_with fail
          refine wp_region_more (by kernel_rfl) (by kernel_rfl) ?_
          iterate 8 (try (first | go_big_quiet_step ((with_reducible first | exact K1.out _ | exact K2.out _)) | quiet_step ((with_reducible first | exact K1.out _ | exact K2.out _))))
          iterate 8 (try (first | go_big_quiet_step ((with_reducible first | exact K1.out _ | exact K2.out _)) | quiet_step ((with_reducible first | exact K1.out _ | exact K2.out _))))
          iterate 8 (try (first | go_big_quiet_step ((with_reducible first | exact K1.out _ | exact K2.out _)) | quiet_step ((with_reducible first | exact K1.out _ | exact K2.out _))))
          iterate 8 (try (first | go_big_quiet_step ((with_reducible first | exact K1.out _ | exact K2.out _)) | quiet_step ((with_reducible first | exact K1.out _ | exact K2.out _))))
          iterate 8 (try (first | go_big_quiet_step ((with_reducible first | exact K1.out _ | exact K2.out _)) | quiet_step ((with_reducible first | exact K1.out _ | exact K2.out _))))
          refine wpQuiet_nil ?_
          rintro ⟨wm, hbm⟩
          try dsimp only
          have HB3 := Lib.hid (hbl.out.trans (hbm.mono hbl.out.size))
          obtain ⟨f, rfl⟩ : ∃ f', f = f' + 1 := by
            cases f with
            | zero => have := hp.out; simp at this; omega
            | succ f => exact ⟨f, rfl⟩
          have hf2 := hf.out
          have hp2 := hp.out
          rw [Nat.pow_succ] at hp2
          rw [firstNot, if_pos hlt, hn] at hf2
          clear hbm c0 c1 c2 c3 c4 c5 mc K1 K2
          cases hP : Q n with
          | true =>
            rw [hP, if_pos rfl] at hf2
            have HF := Lib.hid hf2
            have HP := Lib.hid hp2
            clear hf2 hp2 hf hp hP
            go_wp2_with fail
            refine ⟨⟨n + 1, hi, f, by omega, by omega, by omega, by first | rfl | go_num, by first | rfl | go_num, HF, Lib.hid (by have := HP.out; omega), HB3⟩, by simp [intOf]; omega⟩
          | false =>
            rw [hP, if_neg (by decide)] at hf2
            have HF := Lib.hid hf2
            have HP := Lib.hid hp2
            clear hf2 hp2 hf hp hP
            go_wp2_with fail
            refine ⟨⟨lo, n, f, by omega, by omega, by omega, by first | rfl | go_num, by first | rfl | go_num, HF, Lib.hid (by have := HP.out; omega), HB3⟩, by simp [intOf]; omega⟩
        · have hY : lo = Y := by
            have := firstNot_in Q f lo hi l1
            have := hf.out
            omega
          subst hY
          clear hf hp
          have hS := HSV.out.below hbl.out
          have hZ := HZV.out.below hbl.out
          have q0 := hS.cell 0
          have q1 := hS.cell 1
          have g1 := hS.frozen 1
          have ql := hS.lt
          simp only [List.getElem?_cons_zero, List.getElem?_cons_succ] at q0 q1
          have hS2 : Bk (wr.setCell ⟨w.heap.size + 2, 1, none⟩ (.int .i64 lo)) (w.heap.size + 2) 27 [.int .i64 x0, .int .i64 lo] := hS.set 1 (.int .i64 lo)
          have hZ2 := hZ.far (p := ⟨w.heap.size + 2, 1, none⟩) (by simp) (.int .i64 lo)
          have hW1 : Below w.heap.size w (wr.setCell ⟨w.heap.size + 2, 1, none⟩ (.int .i64 lo)) := (bthen HWW.out hbl.out).setCell (by show w.heap.size ≤ w.heap.size + 2; omega) _
          have HS2 := Lib.hid hS2
          have HZ2 := Lib.hid hZ2
          have HW1 := Lib.hid hW1
          clear hS2 hZ2 hW1 hS hZ
          go_wp2_with (first | (refine ld_at rfl (T := 27) rfl rfl HS2.out Tryz.underlying27 rfl (by kernel_rfl) ?_) | (refine st_at rfl (T := 27) rfl rfl (cs := [.int .i64 x0, .int .i64 lo]) rfl HZ2.out (by kernel_rfl) rfl rfl ?_; intro wk hkk hsk))
          refine bodyPost_ret (v := .agg #[.int .i64 x0, .int .i64 lo]) (results_cell_row rfl _ _ (w.heap.size + 1) _ _ (0, 0) _ rfl hkk Tryz.underlying27 rfl (by kernel_rfl)) rfl ⟨by rw [HX0.out], ?_⟩
          exact bes_then HW1.out hsk (by omega) HW1.out.size
theorem rdE_0' {F : Fl} {R : Bool} (h : rdE F R = 0) : okFl F = true ∧ R = true ∧ canI F (allL F) = true := by
  unfold rdE at h
  cases ho : okFl F <;> cases R <;> cases hc : canI F (allL F) <;> simp_all
def lvA (F : Fl) (m : Int) : Int := if rdE F (asR F 0 m) = 0 then lvLo F (allL F) m else 0
def lvB (F : Fl) (m : Int) : Int := if rdE F (asR F 0 m) = 0 then lvHi F (allL F) m else 0
def rcA (F : Fl) (x : Int) : Int := if rdE F (asR F x 0) = 0 then rcLo F (allL F) x else 0
def rcB (F : Fl) (x : Int) : Int := if rdE F (asR F x 0) = 0 then rcHi F (allL F) x else 0
def suA (F : Fl) (x m : Int) : Bool := decide (rdE F (asR F x m) = 0) && !ovM F (allL F) x m
def evA (F : Fl) (x m : Int) : Bool := decide (rdE F (asR F x m) = 0) && evM F (allL F) x m
set_option maxRecDepth 100000 in
set_option maxHeartbeats 2000000 in
theorem rLevel_any (F : Fl) (vv vs : Value) (m : Int) (w : World) (hF : FlIn w F vv vs) :
    Calls Tryz.prog 23 #[flV F vv vs, .int .i64 m] w fun e w' => e = .returned (.tuple #[.agg #[.int .i64 (lvA F m), .int .i64 (lvB F m)], .int .i64 (rdE F (asR F 0 m))]) ∧ Below w.heap.size w w' := by
  have HF00 := Lib.hid hF
  have HB := Lib.hid ((Bk.new w 30 (flL' F vv vs)).alloc (Obj.cells #[.int .i64 0, .int .i64 0] 27))
  have HZ := Lib.hid (Bk.new1 w (flO F vv vs) 27 [.int .i64 0, .int .i64 0])
  have HF0 := Lib.hid ((hF.alloc (flO F vv vs)).alloc (Obj.cells #[.int .i64 0, .int .i64 0] 27))
  obtain ⟨c, hc⟩ : ∃ c, rdE F (asR F 0 m) = c := ⟨_, rfl⟩
  have HE := Lib.hid hc
  unfold lvA lvB
  rw [hc]
  by_cases h0 : c = 0
  · subst h0
    obtain ⟨k1, k2, k3⟩ := rdE_0' hc
    have hm : 0 ≤ m ∧ m ≤ 2097152 := by
      unfold asR at k2; rw [Bool.and_eq_true] at k2; exact inB_t k2.2
    have HO := Lib.hid ((okFl_iff F).1 k1)
    rw [if_pos rfl, if_pos rfl]
    clear k1 k2 k3 hc hF
    go_enter Tryz.func23, Tryz.ntmps23
    go_wp2_with (first | (refine ld_at rfl (T := 30) rfl rfl HB.out Tryz.underlying30 rfl (by kernel_rfl) ?_) | fail)
    refine (rasked_any F vv vs (0) (m) _ HF0.out).mono ?_
    rw [HE.out]
    rintro e w1 ⟨rfl, hb⟩
    have HB1 := Lib.hid (HB.out.below hb)
    have HZ1 := Lib.hid (HZ.out.below hb)
    have HW1 := Lib.hid (bafter (bafter hb))
    have HF1 := Lib.hid (HF0.out.below hb)
    clear hb
    go_wp2_with (first | (refine ld_at rfl (T := 30) rfl rfl HB1.out Tryz.underlying30 rfl (by kernel_rfl) ?_) | fail)
    refine (rlevels_any F vv vs (m) w1 HF1.out HO.out (by omega) (by omega)).mono ?_
    rintro e w2 ⟨rfl, hb2⟩
    have hZ2 := HZ1.out.below hb2
    have hW2 := bthen HW1.out hb2
    obtain ⟨a, ha⟩ : ∃ a, lvLo F (allL F) (m) = a := ⟨_, rfl⟩
    obtain ⟨b, hb⟩ : ∃ a, lvHi F (allL F) (m) = a := ⟨_, rfl⟩
    rw [ha, hb]
    have HA := Lib.hid ha
    have HBB := Lib.hid hb
    clear ha hb hb2
    go_wp2_with (refine st_at rfl (T := 27) rfl rfl (cs := [.int .i64 a, .int .i64 b]) rfl hZ2 (by kernel_rfl) rfl rfl ?_; intro wk hkk hsk)
    refine bodyPost_ret (ret_cell_tmp rfl _ _ rfl hkk Tryz.underlying27 rfl (by kernel_rfl)) rfl ⟨by rw [HA.out, HBB.out]; rfl, ?_⟩
    exact bes_then hW2 hsk (by omega) hW2.size
  · rw [if_neg h0, if_neg h0]
    have hne : (c == 0) = false := by simpa using h0
    clear hc h0 hF
    go_enter Tryz.func23, Tryz.ntmps23
    go_wp2_with (first | (refine ld_at rfl (T := 30) rfl rfl HB.out Tryz.underlying30 rfl (by kernel_rfl) ?_) | fail)
    refine (rasked_any F vv vs (0) (m) _ HF0.out).mono ?_
    rw [HE.out]
    rintro e w1 ⟨rfl, hb⟩
    have HB1 := Lib.hid (HB.out.below hb)
    have HZ1 := Lib.hid (HZ.out.below hb)
    have HW1 := Lib.hid (bafter (bafter hb))
    have HF1 := Lib.hid (HF0.out.below hb)
    clear hb
    go_wp2_with (refine st_at rfl (T := 27) rfl rfl (cs := [.int .i64 0, .int .i64 0]) rfl HZ1.out (by kernel_rfl) rfl rfl ?_; intro wk hkk hsk)
    refine bodyPost_ret (ret_cell_tmp rfl _ _ rfl hkk Tryz.underlying27 rfl (by kernel_rfl)) rfl ⟨rfl, ?_⟩
    exact bes_then HW1.out hsk (by omega) HW1.out.size
set_option maxRecDepth 100000 in
set_option maxHeartbeats 2000000 in
theorem rStart_any (F : Fl) (vv vs : Value)  (w : World) (hF : FlIn w F vv vs) :
    Calls Tryz.prog 51 #[flV F vv vs] w fun e w' => e = .returned (.tuple #[.agg #[.int .i64 (lvA F (0 : Int)), .int .i64 (lvB F (0 : Int))], .int .i64 (rdE F (asR F 0 (0 : Int)))]) ∧ Below w.heap.size w w' := by
  have HF00 := Lib.hid hF
  have HB := Lib.hid ((Bk.new w 30 (flL' F vv vs)).alloc (Obj.cells #[.int .i64 0, .int .i64 0] 27))
  have HZ := Lib.hid (Bk.new1 w (flO F vv vs) 27 [.int .i64 0, .int .i64 0])
  have HF0 := Lib.hid ((hF.alloc (flO F vv vs)).alloc (Obj.cells #[.int .i64 0, .int .i64 0] 27))
  obtain ⟨c, hc⟩ : ∃ c, rdE F (asR F 0 (0 : Int)) = c := ⟨_, rfl⟩
  have HE := Lib.hid hc
  unfold lvA lvB
  rw [hc]
  by_cases h0 : c = 0
  · subst h0
    obtain ⟨k1, k2, k3⟩ := rdE_0' hc
    have hm : 0 ≤ (0 : Int) ∧ (0 : Int) ≤ 2097152 := by
      unfold asR at k2; rw [Bool.and_eq_true] at k2; exact inB_t k2.2
    have HO := Lib.hid ((okFl_iff F).1 k1)
    rw [if_pos rfl, if_pos rfl]
    clear k1 k2 k3 hc hF
    go_enter Tryz.func51, Tryz.ntmps51
    go_wp2_with (first | (refine ld_at rfl (T := 30) rfl rfl HB.out Tryz.underlying30 rfl (by kernel_rfl) ?_) | fail)
    refine (rasked_any F vv vs (0) ((0 : Int)) _ HF0.out).mono ?_
    rw [HE.out]
    rintro e w1 ⟨rfl, hb⟩
    have HB1 := Lib.hid (HB.out.below hb)
    have HZ1 := Lib.hid (HZ.out.below hb)
    have HW1 := Lib.hid (bafter (bafter hb))
    have HF1 := Lib.hid (HF0.out.below hb)
    clear hb
    go_wp2_with (first | (refine ld_at rfl (T := 30) rfl rfl HB1.out Tryz.underlying30 rfl (by kernel_rfl) ?_) | fail)
    refine (rlevels_any F vv vs ((0 : Int)) w1 HF1.out HO.out (by omega) (by omega)).mono ?_
    rintro e w2 ⟨rfl, hb2⟩
    have hZ2 := HZ1.out.below hb2
    have hW2 := bthen HW1.out hb2
    obtain ⟨a, ha⟩ : ∃ a, lvLo F (allL F) ((0 : Int)) = a := ⟨_, rfl⟩
    obtain ⟨b, hb⟩ : ∃ a, lvHi F (allL F) ((0 : Int)) = a := ⟨_, rfl⟩
    rw [ha, hb]
    have HA := Lib.hid ha
    have HBB := Lib.hid hb
    clear ha hb hb2
    go_wp2_with (refine st_at rfl (T := 27) rfl rfl (cs := [.int .i64 a, .int .i64 b]) rfl hZ2 (by kernel_rfl) rfl rfl ?_; intro wk hkk hsk)
    refine bodyPost_ret (ret_cell_tmp rfl _ _ rfl hkk Tryz.underlying27 rfl (by kernel_rfl)) rfl ⟨by rw [HA.out, HBB.out]; rfl, ?_⟩
    exact bes_then hW2 hsk (by omega) hW2.size
  · rw [if_neg h0, if_neg h0]
    have hne : (c == 0) = false := by simpa using h0
    clear hc h0 hF
    go_enter Tryz.func51, Tryz.ntmps51
    go_wp2_with (first | (refine ld_at rfl (T := 30) rfl rfl HB.out Tryz.underlying30 rfl (by kernel_rfl) ?_) | fail)
    refine (rasked_any F vv vs (0) ((0 : Int)) _ HF0.out).mono ?_
    rw [HE.out]
    rintro e w1 ⟨rfl, hb⟩
    have HB1 := Lib.hid (HB.out.below hb)
    have HZ1 := Lib.hid (HZ.out.below hb)
    have HW1 := Lib.hid (bafter (bafter hb))
    have HF1 := Lib.hid (HF0.out.below hb)
    clear hb
    go_wp2_with (refine st_at rfl (T := 27) rfl rfl (cs := [.int .i64 0, .int .i64 0]) rfl HZ1.out (by kernel_rfl) rfl rfl ?_; intro wk hkk hsk)
    refine bodyPost_ret (ret_cell_tmp rfl _ _ rfl hkk Tryz.underlying27 rfl (by kernel_rfl)) rfl ⟨rfl, ?_⟩
    exact bes_then HW1.out hsk (by omega) HW1.out.size
set_option maxRecDepth 100000 in
set_option maxHeartbeats 2000000 in
theorem rSurely_any (F : Fl) (vv vs : Value) (x m : Int) (w : World) (hF : FlIn w F vv vs) :
    Calls Tryz.prog 29 #[flV F vv vs, .int .i64 x, .int .i64 m] w fun e w' => e = .returned (.tuple #[.bool (suA F x m), .int .i64 (rdE F (asR F x m))]) ∧ Below w.heap.size w w' := by
  have HB := Lib.hid (Bk.new w 30 (flL' F vv vs))
  have HF0 := Lib.hid (hF.alloc (flO F vv vs))
  obtain ⟨c, hc⟩ : ∃ c, rdE F (asR F x m) = c := ⟨_, rfl⟩
  have HE := Lib.hid hc
  unfold suA
  rw [hc]
  by_cases h0 : c = 0
  · subst h0
    obtain ⟨k1, k2, k3⟩ := rdE_0' hc
    have hm : (0 ≤ x ∧ x ≤ hgt F.v) ∧ (0 ≤ m ∧ m ≤ 2097152) := by
      unfold asR at k2; rw [Bool.and_eq_true] at k2; exact ⟨inB_t k2.1, inB_t k2.2⟩
    have hO := (okFl_iff F).1 k1
    have hv := (okv_iff F.v).1 hO.v
    have g1 := fun w h => Time_any F.v vv x w h hv hm.1.1 hm.1.2
    have g2 : ∀ w, FlIn w F vv vs → Calls Tryz.prog 98 #[flV F vv vs, .agg #[.int .i64 m, .int .i64 (tmN F.v x), .int .i64 (tmD F.v x), .bool false, .bool true]] w fun e w' => e = .returned (.bool (ovM F (allL F) x m)) ∧ Below w.heap.size w w' := fun w h => rcan_any F vv vs (lnT F.v m x true, false) w h hO (lnB_T hO hm.1.1 hm.1.2 hm.2.1 hm.2.2 true)
    obtain ⟨tn, htn⟩ : ∃ t, tmN F.v x = t := ⟨_, rfl⟩
    obtain ⟨td, htd⟩ : ∃ t, tmD F.v x = t := ⟨_, rfl⟩
    obtain ⟨r, hr⟩ : ∃ r, ovM F (allL F) x m = r := ⟨_, rfl⟩
    simp only [htn, htd] at g1 g2
    rw [hr] at g2 ⊢
    have G1 := Lib.hid g1
    have G2 := Lib.hid g2
    clear g1 g2 htn htd hr k1 k2 k3 hc hF hO hv hm
    go_enter Tryz.func29, Tryz.ntmps29
    go_wp2_with (first | (refine ld_at rfl (T := 30) rfl rfl HB.out Tryz.underlying30 rfl (by kernel_rfl) ?_) | fail)
    refine (rasked_any F vv vs x m _ HF0.out).mono ?_
    rw [HE.out]
    rintro e w1 ⟨rfl, hb⟩
    have HF1 := Lib.hid (HF0.out.below hb)
    have hB := HB.out.below hb
    have c0 := hB.cell 0
    have c1 := hB.cell 1
    have c2 := hB.cell 2
    have c3 := hB.cell 3
    have c4 := hB.cell 4
    have c5 := hB.cell 5
    have cl := hB.lt
    simp only [List.getElem?_cons_zero, List.getElem?_cons_succ] at c0 c1 c2 c3 c4 c5
    have HW1 := Lib.hid (bafter hb)
    have mc := @more_cell w1
    have k1 : ∀ i : More w1, _ := fun i => more_call (G1.out i.x (HF1.out.v.below i.h))
    have k2 : ∀ i : More w1, _ := fun i => more_call (G2.out i.x (HF1.out.below i.h))
    have K1 := Lib.hid k1
    have K2 := Lib.hid k2
    clear hb hB k1 k2
    go_wp2_with fail
    refine wp_region_more (by kernel_rfl) (by kernel_rfl) ?_
    iterate 8 (try (first | go_big_quiet_step ((with_reducible first | exact K1.out _ | exact K2.out _)) | quiet_step ((with_reducible first | exact K1.out _ | exact K2.out _))))
    iterate 8 (try (first | go_big_quiet_step ((with_reducible first | exact K1.out _ | exact K2.out _)) | quiet_step ((with_reducible first | exact K1.out _ | exact K2.out _))))
    iterate 8 (try (first | go_big_quiet_step ((with_reducible first | exact K1.out _ | exact K2.out _)) | quiet_step ((with_reducible first | exact K1.out _ | exact K2.out _))))
    iterate 8 (try (first | go_big_quiet_step ((with_reducible first | exact K1.out _ | exact K2.out _)) | quiet_step ((with_reducible first | exact K1.out _ | exact K2.out _))))
    iterate 8 (try (first | go_big_quiet_step ((with_reducible first | exact K1.out _ | exact K2.out _)) | quiet_step ((with_reducible first | exact K1.out _ | exact K2.out _))))
    refine wpQuiet_nil ?_
    rintro ⟨wm, hbm⟩
    try dsimp only
    have HM := Lib.hid (HW1.out.trans (hbm.mono HW1.out.size))
    clear hbm
    go_wp2_with fail
    go_ret2
    exact ⟨rfl, HM.out⟩
  · have hd : decide (c = 0) = false := by simpa using h0
    rw [hd, Bool.false_and]
    have hne : (c == 0) = false := by simpa using h0
    clear hc h0 hF hd
    go_enter Tryz.func29, Tryz.ntmps29
    go_wp2_with (first | (refine ld_at rfl (T := 30) rfl rfl HB.out Tryz.underlying30 rfl (by kernel_rfl) ?_) | fail)
    refine (rasked_any F vv vs x m _ HF0.out).mono ?_
    rw [HE.out]
    rintro e w1 ⟨rfl, hb⟩
    go_wp2_with fail
    go_ret2
    exact ⟨rfl, bafter hb⟩
set_option maxRecDepth 100000 in
set_option maxHeartbeats 2000000 in
theorem rEver_any (F : Fl) (vv vs : Value) (x m : Int) (w : World) (hF : FlIn w F vv vs) :
    Calls Tryz.prog 31 #[flV F vv vs, .int .i64 x, .int .i64 m] w fun e w' => e = .returned (.tuple #[.bool (evA F x m), .int .i64 (rdE F (asR F x m))]) ∧ Below w.heap.size w w' := by
  have HB := Lib.hid (Bk.new w 30 (flL' F vv vs))
  have HF0 := Lib.hid (hF.alloc (flO F vv vs))
  obtain ⟨c, hc⟩ : ∃ c, rdE F (asR F x m) = c := ⟨_, rfl⟩
  have HE := Lib.hid hc
  unfold evA
  rw [hc]
  by_cases h0 : c = 0
  · subst h0
    obtain ⟨k1, k2, k3⟩ := rdE_0' hc
    have hm : (0 ≤ x ∧ x ≤ hgt F.v) ∧ (0 ≤ m ∧ m ≤ 2097152) := by
      unfold asR at k2; rw [Bool.and_eq_true] at k2; exact ⟨inB_t k2.1, inB_t k2.2⟩
    have hO := (okFl_iff F).1 k1
    have hv := (okv_iff F.v).1 hO.v
    have g1 := fun w h => Time_any F.v vv x w h hv hm.1.1 hm.1.2
    have g2 : ∀ w, FlIn w F vv vs → Calls Tryz.prog 98 #[flV F vv vs, .agg #[.int .i64 m, .int .i64 (tmN F.v x), .int .i64 (tmD F.v x), .bool true, .bool false]] w fun e w' => e = .returned (.bool (evM F (allL F) x m)) ∧ Below w.heap.size w w' := fun w h => rcan_any F vv vs (lnT F.v m x false, true) w h hO (lnB_T hO hm.1.1 hm.1.2 hm.2.1 hm.2.2 false)
    obtain ⟨tn, htn⟩ : ∃ t, tmN F.v x = t := ⟨_, rfl⟩
    obtain ⟨td, htd⟩ : ∃ t, tmD F.v x = t := ⟨_, rfl⟩
    obtain ⟨r, hr⟩ : ∃ r, evM F (allL F) x m = r := ⟨_, rfl⟩
    simp only [htn, htd] at g1 g2
    rw [hr] at g2 ⊢
    have G1 := Lib.hid g1
    have G2 := Lib.hid g2
    clear g1 g2 htn htd hr k1 k2 k3 hc hF hO hv hm
    go_enter Tryz.func31, Tryz.ntmps31
    go_wp2_with (first | (refine ld_at rfl (T := 30) rfl rfl HB.out Tryz.underlying30 rfl (by kernel_rfl) ?_) | fail)
    refine (rasked_any F vv vs x m _ HF0.out).mono ?_
    rw [HE.out]
    rintro e w1 ⟨rfl, hb⟩
    have HF1 := Lib.hid (HF0.out.below hb)
    have hB := HB.out.below hb
    have c0 := hB.cell 0
    have c1 := hB.cell 1
    have c2 := hB.cell 2
    have c3 := hB.cell 3
    have c4 := hB.cell 4
    have c5 := hB.cell 5
    have cl := hB.lt
    simp only [List.getElem?_cons_zero, List.getElem?_cons_succ] at c0 c1 c2 c3 c4 c5
    have HW1 := Lib.hid (bafter hb)
    have mc := @more_cell w1
    have k1 : ∀ i : More w1, _ := fun i => more_call (G1.out i.x (HF1.out.v.below i.h))
    have k2 : ∀ i : More w1, _ := fun i => more_call (G2.out i.x (HF1.out.below i.h))
    have K1 := Lib.hid k1
    have K2 := Lib.hid k2
    clear hb hB k1 k2
    go_wp2_with fail
    refine wp_region_more (by kernel_rfl) (by kernel_rfl) ?_
    iterate 8 (try (first | go_big_quiet_step ((with_reducible first | exact K1.out _ | exact K2.out _)) | quiet_step ((with_reducible first | exact K1.out _ | exact K2.out _))))
    iterate 8 (try (first | go_big_quiet_step ((with_reducible first | exact K1.out _ | exact K2.out _)) | quiet_step ((with_reducible first | exact K1.out _ | exact K2.out _))))
    iterate 8 (try (first | go_big_quiet_step ((with_reducible first | exact K1.out _ | exact K2.out _)) | quiet_step ((with_reducible first | exact K1.out _ | exact K2.out _))))
    iterate 8 (try (first | go_big_quiet_step ((with_reducible first | exact K1.out _ | exact K2.out _)) | quiet_step ((with_reducible first | exact K1.out _ | exact K2.out _))))
    iterate 8 (try (first | go_big_quiet_step ((with_reducible first | exact K1.out _ | exact K2.out _)) | quiet_step ((with_reducible first | exact K1.out _ | exact K2.out _))))
    refine wpQuiet_nil ?_
    rintro ⟨wm, hbm⟩
    try dsimp only
    have HM := Lib.hid (HW1.out.trans (hbm.mono HW1.out.size))
    clear hbm
    go_wp2_with fail
    go_ret2
    exact ⟨rfl, HM.out⟩
  · have hd : decide (c = 0) = false := by simpa using h0
    rw [hd, Bool.false_and]
    have hne : (c == 0) = false := by simpa using h0
    clear hc h0 hF hd
    go_enter Tryz.func31, Tryz.ntmps31
    go_wp2_with (first | (refine ld_at rfl (T := 30) rfl rfl HB.out Tryz.underlying30 rfl (by kernel_rfl) ?_) | fail)
    refine (rasked_any F vv vs x m _ HF0.out).mono ?_
    rw [HE.out]
    rintro e w1 ⟨rfl, hb⟩
    go_wp2_with fail
    go_ret2
    exact ⟨rfl, bafter hb⟩
theorem rt_tt {n lo hi : Int} (a : lo ≤ n) (b : n ≤ hi) : inB n lo hi = true := by simp [inB, a, b]
theorem rt_un2 {F : Fl} (hc : canI F (allL F) = true) (m : Int) : (fun n => decide (0 < n) && unB F n m) = fun n => decide (0 < n) && unM F (allL F) n m := funext fun n => by rw [unB_eq hc]
theorem rt_ov2 {F : Fl} (hc : canI F (allL F) = true) (m : Int) : (fun n => ovB F n m) = fun n => ovM F (allL F) n m := funext fun n => ovB_eq hc n m
section
variable {F : Fl}
theorem rd_m (m : Int) : rdE F (inB m 0 2097152) = rdE F (asR F 0 m) := by
  unfold rdE
  cases ho : okFl F with
  | false => rfl
  | true =>
    have hh := okF_hgt ((okFl_iff F).1 ho)
    unfold asR
    rw [show inB 0 0 (hgt F.v) = true from rt_tt (by omega) (by omega), Bool.true_and]
theorem leV_c (m : Int) : leV F m = .tuple #[.agg #[.int .i64 (lvA F m), .int .i64 (lvB F m)], .int .i64 (rdE F (asR F 0 m))] := by
  unfold leV lvA lvB
  rw [rd_m]
  by_cases h : rdE F (asR F 0 m) = 0
  · obtain ⟨_, _, hc⟩ := rdE_0' h
    rw [if_pos h, if_pos h, if_pos h, h]
    unfold lvS
    rw [rt_un2 hc, rt_ov2 hc]
    rfl
  · rw [if_neg h, if_neg h, if_neg h]
end
end Go.Proofs.YtnfndiafabhhdaaGreat
