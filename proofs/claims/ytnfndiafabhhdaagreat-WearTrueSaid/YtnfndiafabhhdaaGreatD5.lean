/- Walk of level's two tests (Wear). -/
import Derived.Test.YtnfndiafabhhdaaGreatD4
namespace Go.Proofs.YtnfndiafabhhdaaGreat
open Go.ChangeShapes Go.WideShapes Go.ChangeAt Go.RowKit
abbrev knL (b : Nat) (r : Rn) (va vb : Value) : List Value := [.pointer (some ⟨b, 0, none⟩), .int .i64 r.lo.n, .int .i64 r.lo.d, .bool r.lo.s, .int .i64 r.hi.n, .int .i64 r.hi.d, .bool r.hi.s, va, vb, .bool r.e]
def unB (F : Fl) (x m : Int) : Bool := !(solW (knR F) (lows (linesL F (allL F))) (ups (linesL F (allL F)) ++ [⟨m, tmN F.v x, tmD F.v x, true⟩])).e
def ovB (F : Fl) (x m : Int) : Bool := !(solW (knR F) (lows (linesL F (allL F)) ++ [⟨m, tmN F.v x, tmD F.v x, true⟩]) (ups (linesL F (allL F)))).e
set_option maxRecDepth 100000 in
set_option maxHeartbeats 2000000 in
theorem level2_any (F : Fl) (b : Nat) (vv vs pv : Value) (oa ob : Option Addr) (ca cb : Nat) (x m : Int) (kb mb : Nat) (w : World)
    (hK : Kn w F b vv vs pv (.slice oa (lows (linesL F (allL F))).length ca) (.slice ob (ups (linesL F (allL F))).length cb)) (x0 : 0 ≤ x) (xn : x ≤ hgt F.v) (m0 : 0 ≤ m) (m1 : m ≤ 2097152)
    (hkb : Bk w kb 102 (knL b (knR F) (.slice oa (lows (linesL F (allL F))).length ca) (.slice ob (ups (linesL F (allL F))).length cb))) (hmb : w.cell? ⟨mb, 0, none⟩ = some (.int .i64 m)) :
    Calls Tryz.prog 144 #[.int .i64 x, .pointer (some ⟨kb, 0, none⟩), .pointer (some ⟨mb, 0, none⟩)] w fun e w' => e = .returned (.bool (ovB F x m)) ∧ Below w.heap.size w w' := by
  have hO := kover_any F b vv vs pv oa ob ca cb x m w hK x0 xn m0 m1
  obtain ⟨q, hq⟩ : ∃ q, ovB F x m = q := ⟨_, rfl⟩
  rw [show (!(solW (knR F) (lows (linesL F (allL F)) ++ [⟨m, tmN F.v x, tmD F.v x, true⟩]) (ups (linesL F (allL F)))).e) = q from hq] at hO
  rw [hq]
  have HO := Lib.hid hO
  have HKB := Lib.hid hkb
  clear hO hq hK hkb
  go_enter Tryz.func144, Tryz.ntmps144
  go_wp2_with (first | (refine ld_at rfl (T := 102) rfl rfl HKB.out Tryz.underlying102 rfl (by kernel_rfl) ?_) | (go_at_call 97; refine HO.out.mono ?_; rintro e w2 ⟨rfl, hb2⟩))
  go_ret
  exact ⟨rfl, by assumption⟩
set_option maxRecDepth 100000 in
set_option maxHeartbeats 2000000 in
theorem level1_any (F : Fl) (b : Nat) (vv vs pv : Value) (oa ob : Option Addr) (ca cb : Nat) (x m : Int) (kb mb : Nat) (w : World)
    (hK : Kn w F b vv vs pv (.slice oa (lows (linesL F (allL F))).length ca) (.slice ob (ups (linesL F (allL F))).length cb)) (x0 : 0 ≤ x) (xn : x ≤ hgt F.v) (m0 : 0 ≤ m) (m1 : m ≤ 2097152)
    (hkb : Bk w kb 102 (knL b (knR F) (.slice oa (lows (linesL F (allL F))).length ca) (.slice ob (ups (linesL F (allL F))).length cb))) (hmb : w.cell? ⟨mb, 0, none⟩ = some (.int .i64 m)) :
    Calls Tryz.prog 143 #[.int .i64 x, .pointer (some ⟨kb, 0, none⟩), .pointer (some ⟨mb, 0, none⟩)] w fun e w' => e = .returned (.bool (decide (0 < x) && unB F x m)) ∧ Below w.heap.size w w' := by
  have hO := kunder_any F b vv vs pv oa ob ca cb x m w hK x0 xn m0 m1
  obtain ⟨q, hq⟩ : ∃ q, unB F x m = q := ⟨_, rfl⟩
  rw [show (!(solW (knR F) (lows (linesL F (allL F))) (ups (linesL F (allL F)) ++ [⟨m, tmN F.v x, tmD F.v x, true⟩])).e) = q from hq] at hO
  rw [hq]
  have HO := Lib.hid hO
  have HKB := Lib.hid hkb
  clear hO hq hK hkb
  by_cases hx : 0 < x
  · rw [show decide (0 < x) = true by simpa using hx]
    generalize knR F = kr at *
    have y0 := HKB.out.cell 0
    have y1 := HKB.out.cell 1
    have y2 := HKB.out.cell 2
    have y3 := HKB.out.cell 3
    have y4 := HKB.out.cell 4
    have y5 := HKB.out.cell 5
    have y6 := HKB.out.cell 6
    have y7 := HKB.out.cell 7
    have y8 := HKB.out.cell 8
    have y9 := HKB.out.cell 9
    simp only [knL, List.getElem?_cons_zero, List.getElem?_cons_succ] at y0 y1 y2 y3 y4 y5 y6 y7 y8 y9
    clear HKB x0 xn m0 m1
    go_enter Tryz.func143, Tryz.ntmps143
    go_wp2_with (go_at_call 139; refine HO.out.mono ?_; rintro e w2 ⟨rfl, hb2⟩)
    go_ret
    exact ⟨rfl, by assumption⟩
  · rw [show decide (0 < x) = false by simpa using hx]
    go_enter Tryz.func143, Tryz.ntmps143
    go_wp2_with fail
    go_ret
    exact ⟨rfl, Below.refl _ _⟩
set_option maxRecDepth 100000 in
set_option maxHeartbeats 2000000 in
theorem level_any (F : Fl) (b : Nat) (vv vs pv : Value) (oa ob : Option Addr) (ca cb : Nat) (m : Int) (w : World)
    (hK : Kn w F b vv vs pv (.slice oa (lows (linesL F (allL F))).length ca) (.slice ob (ups (linesL F (allL F))).length cb)) (m0 : 0 ≤ m) (m1 : m ≤ 2097152) :
    Calls Tryz.prog 79 #[knV b (knR F) (.slice oa (lows (linesL F (allL F))).length ca) (.slice ob (ups (linesL F (allL F))).length cb), .int .i64 m] w fun e w' => e = .returned (.agg #[.int .i64 (lastNot (fun n => decide (0 < n) && unB F n m) 24 0 (hgt F.v)), .int .i64 (firstNot (fun n => ovB F n m) 24 0 (hgt F.v))]) ∧ Below w.heap.size w w' := by
  have hH := (pt_bd ((okv_iff F.v).1 hK.s.o.v) (Nat.le_refl _)).1
  have hh : hgt F.v = vX F.v F.v.length := rfl
  rw [← hh] at hH
  have hk1 := ((hK.alloc (Obj.cells (knL b (knR F) (.slice oa (lows (linesL F (allL F))).length ca) (.slice ob (ups (linesL F (allL F))).length cb)).toArray 102)).alloc (Obj.cells #[.int .i64 m] 3)).alloc (Obj.cells #[.int .i64 0, .int .i64 0] 27)
  have b1 := ((Bk.new w 102 (knL b (knR F) (.slice oa (lows (linesL F (allL F))).length ca) (.slice ob (ups (linesL F (allL F))).length cb))).alloc (Obj.cells #[.int .i64 m] 3)).alloc (Obj.cells #[.int .i64 0, .int .i64 0] 27)
  have b2 := (Bk.new1 w (Obj.cells (knL b (knR F) (.slice oa (lows (linesL F (allL F))).length ca) (.slice ob (ups (linesL F (allL F))).length cb)).toArray 102) 3 [.int .i64 m]).alloc (Obj.cells #[.int .i64 0, .int .i64 0] 27)
  have b3 := Bk.new1 (w.alloc (Obj.cells (knL b (knR F) (.slice oa (lows (linesL F (allL F))).length ca) (.slice ob (ups (linesL F (allL F))).length cb)).toArray 102)) (Obj.cells #[.int .i64 m] 3) 27 [.int .i64 0, .int .i64 0]
  simp only [World.size_alloc] at b3
  have hO := outward_any (hgt F.v) 143 144 #[.pointer (some ⟨w.heap.size, 0, none⟩), .pointer (some ⟨w.heap.size + 1, 0, none⟩)] #[.pointer (some ⟨w.heap.size, 0, none⟩), .pointer (some ⟨w.heap.size + 1, 0, none⟩)] (fun n => decide (0 < n) && unB F n m) (fun n => ovB F n m) _ hH.1 (by omega)
    (fun args W => by simp [go_sem]) (fun args W => by simp [go_sem])
    (fun n W n0 n1 hb => level1_any F b vv vs pv oa ob ca cb n m w.heap.size (w.heap.size + 1) W (hk1.below hb) n0 n1 m0 m1 (b1.below hb) ((b2.below hb).cell 0))
    (fun n W n0 n1 hb => level2_any F b vv vs pv oa ob ca cb n m w.heap.size (w.heap.size + 1) W (hk1.below hb) n0 n1 m0 m1 (b1.below hb) ((b2.below hb).cell 0))
  obtain ⟨x, hx⟩ : ∃ x, lastNot (fun n => decide (0 < n) && unB F n m) 24 0 (hgt F.v) = x := ⟨_, rfl⟩
  obtain ⟨y, hy⟩ : ∃ x, firstNot (fun n => ovB F n m) 24 0 (hgt F.v) = x := ⟨_, rfl⟩
  rw [hx, hy] at hO ⊢
  have s7 := hk1.s.k.cell 7
  simp only [styC, List.getElem?_cons_zero, List.getElem?_cons_succ] at s7
  have s7 := (show _ = _ from hK.s.k.cell 7)
  simp only [styC, List.getElem?_cons_zero, List.getElem?_cons_succ] at s7
  have sl := hK.s.k.lt
  have HO := Lib.hid hO
  have B3 := Lib.hid b3
  clear hO b1 b2 b3 hk1 hx hy hh hK
  go_enter Tryz.func79, Tryz.ntmps79
  go_wp2_with fail
  refine HO.out.mono ?_
  rintro e w2 ⟨rfl, hb2⟩
  have hs2 := hb2.size
  have h3 := B3.out.below hb2
  have hbw : Below w.heap.size w w2 := Below.trans (Below.alloc (Below.alloc (Below.alloc (Below.refl _ _) (Nat.le_refl _) _) (by simp) _) (by simp; omega) _) (hb2.mono (by simp; omega))
  simp only [World.size_alloc] at hs2
  have HBW := Lib.hid hbw
  clear hbw hb2
  go_wp2_with (refine st_at rfl (T := 27) rfl rfl (cs := [.int .i64 x, .int .i64 y]) rfl h3 (by kernel_rfl) rfl rfl ?_; intro wk hkk hsk)
  refine bodyPost_ret (results_cell_row rfl _ _ (w.heap.size + 2) _ _ (0, 0) _ rfl hkk Tryz.underlying27 rfl (by kernel_rfl)) rfl ⟨rfl, ?_⟩
  exact bes_then HBW.out hsk (by omega) (by omega)
abbrev lvS (F : Fl) (m : Int) : Value := .agg #[.int .i64 (lastNot (fun n => decide (0 < n) && unB F n m) 24 0 (hgt F.v)), .int .i64 (firstNot (fun n => ovB F n m) 24 0 (hgt F.v))]
def leV (F : Fl) (m : Int) : Value := if rdE F (inB m 0 2097152) = 0 then .tuple #[lvS F m, .int .i64 0] else .tuple #[raZ, .int .i64 (rdE F (inB m 0 2097152))]
theorem Level1_any (m : Int) (p : Value) (mb : Nat) (w : World) (hmb : w.cell? ⟨mb, 0, none⟩ = some (.int .i64 m)) : Calls Tryz.prog 77 #[p, .pointer (some ⟨mb, 0, none⟩)] w fun e w' => e = .returned (.bool (inB m 0 2097152)) ∧ Below w.heap.size w w' := by
  go_enter Tryz.func77, Tryz.ntmps77
  go_wp2_with fail
  refine (from_any m 0 2097152 _).mono ?_
  rintro e w1 ⟨rfl, rfl⟩
  go_wp2_with fail
  go_ret
  exact ⟨rfl, Below.refl _ _⟩
set_option maxRecDepth 100000 in
set_option maxHeartbeats 4000000 in
theorem Level_any (F : Fl) (vv vs : Value) (m : Int) (w : World) (hF : FlIn w F vv vs) : Calls Tryz.prog 22 #[flV F vv vs, .int .i64 m] w fun e w' => e = .returned (leV F m) ∧ Below w.heap.size w w' := by
  have b2 := (Bk.new1 w (flO F vv vs) 3 [.int .i64 m]).alloc (Obj.cells #[.int .i64 0, .int .i64 0] 27)
  have b3 := Bk.new1 (w.alloc (flO F vv vs)) (Obj.cells #[.int .i64 m] 3) 27 [.int .i64 0, .int .i64 0]
  simp only [World.size_alloc] at b3
  have hO := ready_any F vv vs 77 #[.pointer (some ⟨w.heap.size + 1, 0, none⟩)] (inB m 0 2097152) _ (((hF.alloc (flO F vv vs)).alloc (Obj.cells #[.int .i64 m] 3)).alloc (Obj.cells #[.int .i64 0, .int .i64 0] 27))
    (fun args W => by simp [go_sem]) (fun _ b pv W hb _ => Level1_any m _ _ W ((b2.below hb).cell 0))
  obtain ⟨os, cs, rfl, ms⟩ := hF.s.parts
  obtain ⟨ov, cv, rfl, mv⟩ := hF.v.parts
  have HO := Lib.hid hO
  have B2 := Lib.hid b2
  have B3 := Lib.hid b3
  clear hO hF b2 b3
  go_enter Tryz.func22, Tryz.ntmps22
  go_wp2_with fail
  refine HO.out.mono ?_
  rintro e w1 (⟨h0, rfl, hb1⟩ | ⟨h0, b, pv, va, vb, rfl, hb1, hK⟩)
  · have hwe : leV F m = .tuple #[raZ, .int .i64 (rdE F (inB m 0 2097152))] := if_neg h0
    obtain ⟨er, her⟩ : ∃ x, rdE F (inB m 0 2097152) = x := ⟨_, rfl⟩
    have hbd := rdE_bd F (inB m 0 2097152)
    rw [her] at h0 hbd hwe ⊢
    have hne : (er == 0) = false := by simpa using h0
    have HWE := Lib.hid hwe
    have hs1 := hb1.size
    simp only [World.size_alloc] at hs1
    have hbw : Below w.heap.size w w1 := Below.trans (Below.alloc (Below.alloc (Below.alloc (Below.refl _ _) (Nat.le_refl _) _) (by simp) _) (by simp; omega) _) (hb1.mono (by simp; omega))
    have h3 := (B3.out.below hb1).alloc (Obj.cells #[.pointer none, .int .i64 0, .int .i64 0, .bool false, .int .i64 0, .int .i64 0, .bool false, .slice none 0 0, .slice none 0 0, .bool false] 102)
    have H3 := Lib.hid h3
    have HBW := Lib.hid (hbw.alloc hbw.size (Obj.cells #[.pointer none, .int .i64 0, .int .i64 0, .bool false, .int .i64 0, .int .i64 0, .bool false, .slice none 0 0, .slice none 0 0, .bool false] 102))
    clear hbw hb1 her h3 hwe
    go_wp2_with (refine st_at rfl (T := 27) rfl rfl (cs := [.int .i64 0, .int .i64 0]) rfl H3.out (by kernel_rfl) rfl rfl ?_; intro wk hkk hsk)
    refine bodyPost_ret (ret_cell_tmp rfl _ _ rfl hkk Tryz.underlying27 rfl (by kernel_rfl)) rfl ⟨by rw [HWE.out]; rfl, ?_⟩
    exact bes_then HBW.out hsk (by omega) (by simp; omega)
  · have hR : inB m 0 2097152 = true := by
      rcases bool_ft (inB m 0 2097152) with hf | hf
      · rw [hf] at h0
        unfold rdE at h0
        cases ho : okFl F <;> simp [ho] at h0
      · exact hf
    obtain ⟨m0, m1⟩ := inB_t hR
    have HWE := Lib.hid (show leV F m = .tuple #[lvS F m, .int .i64 0] from if_pos h0)
    obtain ⟨oa, ca, rfl, _⟩ := hK.a.parts
    obtain ⟨ob, cb, rfl, _⟩ := hK.b.parts
    have hs1 := hb1.size
    simp only [World.size_alloc] at hs1
    have hbw : Below w.heap.size w w1 := Below.trans (Below.alloc (Below.alloc (Below.alloc (Below.refl _ _) (Nat.le_refl _) _) (by simp) _) (by simp; omega) _) (hb1.mono (by simp; omega))
    have hb4 := Bk.new w1 102 (knL b (knR F) (.slice oa (lows (linesL F (allL F))).length ca) (.slice ob (ups (linesL F (allL F))).length cb))
    have h2 := fun o => ((B2.out.below hb1).alloc o).cell 0
    have h3 := B3.out.below hb1
    have HL := Lib.hid (level_any F b _ _ pv oa ob ca cb m _ (hK.alloc (Obj.cells (knL b (knR F) (.slice oa (lows (linesL F (allL F))).length ca) (.slice ob (ups (linesL F (allL F))).length cb)).toArray 102)) m0 m1)
    have H3 := Lib.hid h3
    have HB4 := Lib.hid hb4
    have HBW := Lib.hid hbw
    simp only [List.getElem?_cons_zero] at h2
    obtain ⟨kr, hkr⟩ : ∃ r, knR F = r := ⟨_, rfl⟩
    obtain ⟨x, hx⟩ : ∃ x, lastNot (fun n => decide (0 < n) && unB F n m) 24 0 (hgt F.v) = x := ⟨_, rfl⟩
    obtain ⟨y, hy⟩ : ∃ x, firstNot (fun n => ovB F n m) 24 0 (hgt F.v) = x := ⟨_, rfl⟩
    rw [hkr] at HL HB4 ⊢
    rw [hx, hy] at HL
    unfold lvS at HWE
    rw [hx, hy] at HWE
    clear hkr hx hy hK hb4 h3 hbw hb1 h0 hR
    go_wp2_with (first | (refine ld_at rfl (T := 102) rfl rfl HB4.out Tryz.underlying102 rfl (by kernel_rfl) ?_) | fail)
    refine HL.out.mono ?_
    rintro e w2 ⟨rfl, hb2⟩
    have h4 := (H3.out.alloc _).below hb2
    have H4 := Lib.hid h4
    have hs2 := hb2.size
    simp only [World.size_alloc] at hs2
    have HBW2 := Lib.hid (Below.trans (HBW.out.alloc HBW.out.size _) (hb2.mono (by simp; omega)))
    clear hb2 h4
    go_wp2_with (refine st_at rfl (T := 27) rfl rfl (cs := [.int .i64 x, .int .i64 y]) rfl H4.out (by kernel_rfl) rfl rfl ?_; intro wk hkk hsk)
    refine bodyPost_ret (ret_cell_tmp rfl _ _ rfl hkk Tryz.underlying27 rfl (by kernel_rfl)) rfl ⟨by rw [HWE.out]; rfl, ?_⟩
    exact bes_then HBW2.out hsk (by omega) (by omega)
end Go.Proofs.YtnfndiafabhhdaaGreat
