/- Walk of reached (Wear): as level. -/
import Derived.Test.YtnfndiafabhhdaaGreatD5
namespace Go.Proofs.YtnfndiafabhhdaaGreat
open Go.ChangeShapes Go.WideShapes Go.ChangeAt Go.RowKit
set_option maxRecDepth 100000 in
set_option maxHeartbeats 2000000 in
theorem reached2_any (F : Fl) (b : Nat) (vv vs pv : Value) (oa ob : Option Addr) (ca cb : Nat) (x m : Int) (kb mb : Nat) (w : World)
    (hK : Kn w F b vv vs pv (.slice oa (lows (linesL F (allL F))).length ca) (.slice ob (ups (linesL F (allL F))).length cb)) (x0 : 0 ≤ x) (xn : x ≤ hgt F.v) (m0 : 0 ≤ m) (m1 : m ≤ 2097152)
    (hkb : Bk w kb 102 (knL b (knR F) (.slice oa (lows (linesL F (allL F))).length ca) (.slice ob (ups (linesL F (allL F))).length cb))) (hmb : w.cell? ⟨mb, 0, none⟩ = some (.int .i64 x)) :
    Calls Tryz.prog 140 #[.int .i64 m, .pointer (some ⟨kb, 0, none⟩), .pointer (some ⟨mb, 0, none⟩)] w fun e w' => e = .returned (.bool (ovB F x m)) ∧ Below w.heap.size w w' := by
  have hO := kover_any F b vv vs pv oa ob ca cb x m w hK x0 xn m0 m1
  obtain ⟨q, hq⟩ : ∃ q, ovB F x m = q := ⟨_, rfl⟩
  rw [show (!(solW (knR F) (lows (linesL F (allL F)) ++ [⟨m, tmN F.v x, tmD F.v x, true⟩]) (ups (linesL F (allL F)))).e) = q from hq] at hO
  rw [hq]
  have HO := Lib.hid hO
  have HKB := Lib.hid hkb
  clear hO hq hK hkb
  go_enter Tryz.func140, Tryz.ntmps140
  go_wp2_with (first | (refine ld_at rfl (T := 102) rfl rfl HKB.out Tryz.underlying102 rfl (by kernel_rfl) ?_) | (go_at_call 97; refine HO.out.mono ?_; rintro e w2 ⟨rfl, hb2⟩))
  go_ret
  exact ⟨rfl, by assumption⟩
set_option maxRecDepth 100000 in
set_option maxHeartbeats 2000000 in
theorem reached1_any (F : Fl) (b : Nat) (vv vs pv : Value) (oa ob : Option Addr) (ca cb : Nat) (x m : Int) (kb mb : Nat) (w : World)
    (hK : Kn w F b vv vs pv (.slice oa (lows (linesL F (allL F))).length ca) (.slice ob (ups (linesL F (allL F))).length cb)) (x0 : 0 ≤ x) (xn : x ≤ hgt F.v) (m0 : 0 ≤ m) (m1 : m ≤ 2097152)
    (hkb : Bk w kb 102 (knL b (knR F) (.slice oa (lows (linesL F (allL F))).length ca) (.slice ob (ups (linesL F (allL F))).length cb))) (hmb : w.cell? ⟨mb, 0, none⟩ = some (.int .i64 x)) :
    Calls Tryz.prog 138 #[.int .i64 m, .pointer (some ⟨kb, 0, none⟩), .pointer (some ⟨mb, 0, none⟩)] w fun e w' => e = .returned (.bool (decide (0 < m) && unB F x m)) ∧ Below w.heap.size w w' := by
  have hO := kunder_any F b vv vs pv oa ob ca cb x m w hK x0 xn m0 m1
  obtain ⟨q, hq⟩ : ∃ q, unB F x m = q := ⟨_, rfl⟩
  rw [show (!(solW (knR F) (lows (linesL F (allL F))) (ups (linesL F (allL F)) ++ [⟨m, tmN F.v x, tmD F.v x, true⟩])).e) = q from hq] at hO
  rw [hq]
  have HO := Lib.hid hO
  have HKB := Lib.hid hkb
  clear hO hq hK hkb
  by_cases hx : 0 < m
  · rw [show decide (0 < m) = true by simpa using hx]
    generalize knR F = kr at *
    have y0 := HKB.out.cell 0
    have y1 := HKB.out.cell 1
    have y2 := HKB.out.cell 2
    have y3 := HKB.out.cell 3
    have y4 := HKB.out.cell 4
    have y5 := HKB.out.cell 5
    have y6 := HKB.out.cell 6
    have y7 := HKB.out.cell 7
    have y8 := HKB.out.cell 8
    have y9 := HKB.out.cell 9
    simp only [knL, List.getElem?_cons_zero, List.getElem?_cons_succ] at y0 y1 y2 y3 y4 y5 y6 y7 y8 y9
    clear HKB x0 xn m0 m1
    go_enter Tryz.func138, Tryz.ntmps138
    go_wp2_with (go_at_call 139; refine HO.out.mono ?_; rintro e w2 ⟨rfl, hb2⟩)
    go_ret
    exact ⟨rfl, by assumption⟩
  · rw [show decide (0 < m) = false by simpa using hx]
    go_enter Tryz.func138, Tryz.ntmps138
    go_wp2_with fail
    go_ret
    exact ⟨rfl, Below.refl _ _⟩
set_option maxRecDepth 100000 in
set_option maxHeartbeats 2000000 in
theorem reached_any (F : Fl) (b : Nat) (vv vs pv : Value) (oa ob : Option Addr) (ca cb : Nat) (m : Int) (w : World)
    (hK : Kn w F b vv vs pv (.slice oa (lows (linesL F (allL F))).length ca) (.slice ob (ups (linesL F (allL F))).length cb)) (m0 : 0 ≤ m) (m1 : m ≤ hgt F.v) :
    Calls Tryz.prog 72 #[knV b (knR F) (.slice oa (lows (linesL F (allL F))).length ca) (.slice ob (ups (linesL F (allL F))).length cb), .int .i64 m] w fun e w' => e = .returned (.agg #[.int .i64 (lastNot (fun n => decide (0 < n) && unB F m n) 24 0 2097152), .int .i64 (firstNot (fun n => ovB F m n) 24 0 2097152)]) ∧ Below w.heap.size w w' := by
  have hH := (pt_bd ((okv_iff F.v).1 hK.s.o.v) (Nat.le_refl _)).1
  have hh : hgt F.v = vX F.v F.v.length := rfl
  rw [← hh] at hH
  have hk1 := ((hK.alloc (Obj.cells (knL b (knR F) (.slice oa (lows (linesL F (allL F))).length ca) (.slice ob (ups (linesL F (allL F))).length cb)).toArray 102)).alloc (Obj.cells #[.int .i64 m] 3)).alloc (Obj.cells #[.int .i64 0, .int .i64 0] 27)
  have b1 := ((Bk.new w 102 (knL b (knR F) (.slice oa (lows (linesL F (allL F))).length ca) (.slice ob (ups (linesL F (allL F))).length cb))).alloc (Obj.cells #[.int .i64 m] 3)).alloc (Obj.cells #[.int .i64 0, .int .i64 0] 27)
  have b2 := (Bk.new1 w (Obj.cells (knL b (knR F) (.slice oa (lows (linesL F (allL F))).length ca) (.slice ob (ups (linesL F (allL F))).length cb)).toArray 102) 3 [.int .i64 m]).alloc (Obj.cells #[.int .i64 0, .int .i64 0] 27)
  have b3 := Bk.new1 (w.alloc (Obj.cells (knL b (knR F) (.slice oa (lows (linesL F (allL F))).length ca) (.slice ob (ups (linesL F (allL F))).length cb)).toArray 102)) (Obj.cells #[.int .i64 m] 3) 27 [.int .i64 0, .int .i64 0]
  simp only [World.size_alloc] at b3
  have hO := outward_any 2097152 138 140 #[.pointer (some ⟨w.heap.size, 0, none⟩), .pointer (some ⟨w.heap.size + 1, 0, none⟩)] #[.pointer (some ⟨w.heap.size, 0, none⟩), .pointer (some ⟨w.heap.size + 1, 0, none⟩)] (fun n => decide (0 < n) && unB F m n) (fun n => ovB F m n) _ (by decide) (by decide)
    (fun args W => by simp [go_sem]) (fun args W => by simp [go_sem])
    (fun n W n0 n1 hb => reached1_any F b vv vs pv oa ob ca cb m n w.heap.size (w.heap.size + 1) W (hk1.below hb) m0 m1 n0 n1 (b1.below hb) ((b2.below hb).cell 0))
    (fun n W n0 n1 hb => reached2_any F b vv vs pv oa ob ca cb m n w.heap.size (w.heap.size + 1) W (hk1.below hb) m0 m1 n0 n1 (b1.below hb) ((b2.below hb).cell 0))
  obtain ⟨x, hx⟩ : ∃ x, lastNot (fun n => decide (0 < n) && unB F m n) 24 0 2097152 = x := ⟨_, rfl⟩
  obtain ⟨y, hy⟩ : ∃ x, firstNot (fun n => ovB F m n) 24 0 2097152 = x := ⟨_, rfl⟩
  rw [hx, hy] at hO ⊢
  have HO := Lib.hid hO
  have B3 := Lib.hid b3
  clear hO b1 b2 b3 hk1 hx hy hh hK
  go_enter Tryz.func72, Tryz.ntmps72
  go_wp2_with fail
  refine HO.out.mono ?_
  rintro e w2 ⟨rfl, hb2⟩
  have hs2 := hb2.size
  have h3 := B3.out.below hb2
  have hbw : Below w.heap.size w w2 := Below.trans (Below.alloc (Below.alloc (Below.alloc (Below.refl _ _) (Nat.le_refl _) _) (by simp) _) (by simp; omega) _) (hb2.mono (by simp; omega))
  simp only [World.size_alloc] at hs2
  have HBW := Lib.hid hbw
  clear hbw hb2
  go_wp2_with (refine st_at rfl (T := 27) rfl rfl (cs := [.int .i64 x, .int .i64 y]) rfl h3 (by kernel_rfl) rfl rfl ?_; intro wk hkk hsk)
  refine bodyPost_ret (results_cell_row rfl _ _ (w.heap.size + 2) _ _ (0, 0) _ rfl hkk Tryz.underlying27 rfl (by kernel_rfl)) rfl ⟨rfl, ?_⟩
  exact bes_then HBW.out hsk (by omega) (by omega)
set_option maxRecDepth 100000 in
set_option maxHeartbeats 2000000 in
theorem Start_any (F : Fl) (vv vs : Value) (w : World) (hF : FlIn w F vv vs) : Calls Tryz.prog 46 #[flV F vv vs] w fun e w' => e = .returned (leV F 0) ∧ Below w.heap.size w w' := by
  have hO := Level_any F vv vs 0 _ ((hF.alloc (flO F vv vs)).alloc (Obj.cells #[.int .i64 0, .int .i64 0] 27))
  have b3 := Bk.new1 w (flO F vv vs) 27 [.int .i64 0, .int .i64 0]
  obtain ⟨os, cs, rfl, ms⟩ := hF.s.parts
  obtain ⟨ov, cv, rfl, mv⟩ := hF.v.parts
  obtain ⟨x, y, er, hv⟩ : ∃ x y er, leV F 0 = .tuple #[.agg #[.int .i64 x, .int .i64 y], .int .i64 er] := by
    unfold leV
    split
    · exact ⟨_, _, _, rfl⟩
    · exact ⟨_, _, _, rfl⟩
  rw [hv] at hO ⊢
  have HO := Lib.hid hO
  have B3 := Lib.hid b3
  clear hO hF b3 hv
  go_enter Tryz.func46, Tryz.ntmps46
  go_wp2_with fail
  refine HO.out.mono ?_
  rintro e w2 ⟨rfl, hb2⟩
  have h3 := B3.out.below hb2
  have H3 := Lib.hid h3
  have hs2 := hb2.size
  simp only [World.size_alloc] at hs2
  have hbw : Below w.heap.size w w2 := Below.trans (Below.alloc (Below.alloc (Below.refl _ _) (Nat.le_refl _) _) (by simp) _) (hb2.mono (by simp; omega))
  have HBW := Lib.hid hbw
  clear hbw
  clear hb2 h3
  go_wp2_with (refine st_at rfl (T := 27) rfl rfl (cs := [.int .i64 x, .int .i64 y]) rfl H3.out (by kernel_rfl) rfl rfl ?_; intro wk hkk hsk)
  refine bodyPost_ret (ret_cell_tmp rfl _ _ rfl hkk Tryz.underlying27 rfl (by kernel_rfl)) rfl ⟨rfl, ?_⟩
  exact bes_then HBW.out hsk (by omega) (by omega)
end Go.Proofs.YtnfndiafabhhdaaGreat
