/- Walk of isLevel: are all of some numbers levels (Wear). -/
import Derived.Test.YtnfndiafabhhdaaGreatD6
namespace Go.Proofs.YtnfndiafabhhdaaGreat
open Go.ChangeShapes Go.WideShapes Go.ChangeAt Go.RowKit
theorem isLevel1_any (F : Fl) (b bx : Nat) (vv vs pv : Value) (n : Int) (w : World) (hS : Sty w F b vv vs pv) (hx : w.cell? ⟨bx, 0, none⟩ = some (.pointer (some ⟨b, 0, none⟩))) :
    Calls Tryz.prog 136 #[.int .i64 n, .pointer (some ⟨bx, 0, none⟩)] w fun e w' => e = .returned (.bool (!inB n 0 (hgt F.v))) ∧ w' = w := by
  have c7 := hS.k.cell 7
  simp only [styC, List.getElem?_cons_zero, List.getElem?_cons_succ] at c7
  have hlt := hS.k.lt
  clear hS
  go_enter Tryz.func136, Tryz.ntmps136
  go_wp2_with fail
  refine (from_any n 0 (hgt F.v) _).mono ?_
  rintro e w1 ⟨rfl, rfl⟩
  go_wp2_with fail
  go_ret
  exact ⟨rfl, rfl⟩
set_option maxHeartbeats 2000000 in
theorem isLevel_any (F : Fl) (b : Nat) (vv vs pv v : Value) (L : List Int) (w : World) (hS : Sty w F b vv vs pv) (hL : Ints w v L) (h0 : 0 < L.length) :
    Calls Tryz.prog 71 #[.pointer (some ⟨b, 0, none⟩), v] w fun e w' => e = .returned (.bool (L.all fun n => inB n 0 (hgt F.v))) ∧ Below w.heap.size w w' := by
  obtain ⟨bl, off, c, rfl, hm, hlt, hc⟩ := hL.pos h0
  have hP : PredAt Tryz.prog 136 #[.pointer (some ⟨w.heap.size, 0, none⟩)] (Value.int .i64) (fun n => !inB n 0 (hgt F.v)) (w.alloc (Obj.cells #[.pointer (some ⟨b, 0, none⟩)] 95)) := fun W n hb => by
    refine (isLevel1_any F b w.heap.size vv vs pv n W ((hS.alloc _).below hb) ?_).mono ?_
    · exact ((Bk.new w 95 [.pointer (some ⟨b, 0, none⟩)]).below hb).cell 0
    · rintro e w' ⟨rfl, rfl⟩
      exact ⟨rfl, 0, rfl⟩
  have hO := Tryz.slices_ContainsFunc (Value.int .i64) (fun n => !inB n 0 (hgt F.v)) 136 #[.pointer (some ⟨w.heap.size, 0, none⟩)] (fun args W => by simp [go_sem]) bl off L.length c L _ hP (Nat.le_refl _) hm
    (fun j hj => by
      have := ((ballo w (Obj.cells #[.pointer (some ⟨b, 0, none⟩)] 95)).cell (p := ⟨bl, off + j, none⟩) hlt).trans (hc j hj)
      rw [this]
      simp [List.getElem!_eq_getElem?_getD])
  rw [List.take_length] at hO
  have hne : (L.any fun n => !inB n 0 (hgt F.v)) = !(L.all fun n => inB n 0 (hgt F.v)) := by simp [List.any_eq_not_all_not]
  rw [hne] at hO
  obtain ⟨q, hq⟩ : ∃ q, (L.all fun n => inB n 0 (hgt F.v)) = q := ⟨_, rfl⟩
  rw [hq] at hO ⊢
  have HO := Lib.hid hO
  obtain ⟨N, hN⟩ : ∃ n, L.length = n := ⟨_, rfl⟩
  rw [hN] at HO ⊢
  clear hO hne hq hP hc hL hS hN
  go_enter Tryz.func71, Tryz.ntmps71
  go_wp2_with fail
  refine HO.out.mono ?_
  rintro e w1 ⟨rfl, k, rfl⟩
  go_wp2_with fail
  go_ret
  exact ⟨by simp, below_drewN belw _⟩
theorem ints_bk {w : World} {b : Nat} {T : TypeId} {L : List Int} (h : Bk w b T (L.map (Value.int .i64))) (h0 : 0 < L.length) (h1 : L.length ≤ 9223372036854775807) (c : Nat) : Ints w (.slice (some ⟨b, 0, none⟩) L.length c) L :=
  .inr ⟨b, 0, c, rfl, h0, h1, h.lt, fun j hj => by rw [Nat.zero_add, h.cell j]; simp [List.getElem?_eq_getElem hj]⟩
abbrev rcS (F : Fl) (x : Int) : Value := .agg #[.int .i64 (lastNot (fun n => decide (0 < n) && unB F x n) 24 0 2097152), .int .i64 (firstNot (fun n => ovB F x n) 24 0 2097152)]
def reV (F : Fl) (x : Int) : Value := if rdE F (inB x 0 (hgt F.v)) = 0 then .tuple #[rcS F x, .int .i64 0] else .tuple #[raZ, .int .i64 (rdE F (inB x 0 (hgt F.v)))]
theorem Reached1_any (F : Fl) (b : Nat) (vv vs pv : Value) (x : Int) (mb : Nat) (w : World) (hS : Sty w F b vv vs pv) (hmb : w.cell? ⟨mb, 0, none⟩ = some (.int .i64 x)) : Calls Tryz.prog 70 #[.pointer (some ⟨b, 0, none⟩), .pointer (some ⟨mb, 0, none⟩)] w fun e w' => e = .returned (.bool (inB x 0 (hgt F.v))) ∧ Below w.heap.size w w' := by
  have hO := isLevel_any F b vv vs pv (.slice (some ⟨w.heap.size, 0, none⟩) 1 1) [x] _ (hS.alloc (Obj.cells #[.int .i64 x] 3)) (ints_bk (L := [x]) (Bk.new w 3 [.int .i64 x]) (by simp) (by simp) 1) (by simp)
  have e : ([x].all fun n => inB n 0 (hgt F.v)) = inB x 0 (hgt F.v) := by simp
  rw [e] at hO
  have HO := Lib.hid hO
  clear hO hS e
  go_enter Tryz.func70, Tryz.ntmps70
  go_wp2_with fail
  refine HO.out.mono ?_
  rintro e w1 ⟨rfl, hb1⟩
  go_wp2_with fail
  go_ret
  exact ⟨rfl, bafter hb1⟩
set_option maxRecDepth 100000 in
set_option maxHeartbeats 4000000 in
theorem Reached_any (F : Fl) (vv vs : Value) (m : Int) (w : World) (hF : FlIn w F vv vs) : Calls Tryz.prog 20 #[flV F vv vs, .int .i64 m] w fun e w' => e = .returned (reV F m) ∧ Below w.heap.size w w' := by
  obtain ⟨rq, hrq⟩ : ∃ q, inB m 0 (hgt F.v) = q := ⟨_, rfl⟩
  have b2 := (Bk.new1 w (flO F vv vs) 3 [.int .i64 m]).alloc (Obj.cells #[.int .i64 0, .int .i64 0] 27)
  have b3 := Bk.new1 (w.alloc (flO F vv vs)) (Obj.cells #[.int .i64 m] 3) 27 [.int .i64 0, .int .i64 0]
  simp only [World.size_alloc] at b3
  have hO := ready_any F vv vs 70 #[.pointer (some ⟨w.heap.size + 1, 0, none⟩)] rq _ (((hF.alloc (flO F vv vs)).alloc (Obj.cells #[.int .i64 m] 3)).alloc (Obj.cells #[.int .i64 0, .int .i64 0] 27))
    (fun args W => by simp [go_sem]) (fun _ b pv W hb hS => by rw [← hrq]; exact Reached1_any F b _ _ pv m _ W hS ((b2.below hb).cell 0))
  obtain ⟨os, cs, rfl, ms⟩ := hF.s.parts
  obtain ⟨ov, cv, rfl, mv⟩ := hF.v.parts
  have HRQ := Lib.hid hrq
  have HO := Lib.hid hO
  have B2 := Lib.hid b2
  have B3 := Lib.hid b3
  clear hO hF b2 b3 hrq
  go_enter Tryz.func20, Tryz.ntmps20
  go_wp2_with fail
  refine HO.out.mono ?_
  rintro e w1 (⟨h0, rfl, hb1⟩ | ⟨h0, b, pv, va, vb, rfl, hb1, hK⟩)
  · have hwe : reV F m = .tuple #[raZ, .int .i64 (rdE F rq)] := by unfold reV; rw [HRQ.out, if_neg h0]
    obtain ⟨er, her⟩ : ∃ x, rdE F rq = x := ⟨_, rfl⟩
    have hbd := rdE_bd F rq
    rw [her] at h0 hbd hwe ⊢
    have hne : (er == 0) = false := by simpa using h0
    have HWE := Lib.hid hwe
    have hs1 := hb1.size
    simp only [World.size_alloc] at hs1
    have hbw : Below w.heap.size w w1 := Below.trans (Below.alloc (Below.alloc (Below.alloc (Below.refl _ _) (Nat.le_refl _) _) (by simp) _) (by simp; omega) _) (hb1.mono (by simp; omega))
    have h3 := (B3.out.below hb1).alloc (Obj.cells #[.pointer none, .int .i64 0, .int .i64 0, .bool false, .int .i64 0, .int .i64 0, .bool false, .slice none 0 0, .slice none 0 0, .bool false] 102)
    have H3 := Lib.hid h3
    have HBW := Lib.hid (hbw.alloc hbw.size (Obj.cells #[.pointer none, .int .i64 0, .int .i64 0, .bool false, .int .i64 0, .int .i64 0, .bool false, .slice none 0 0, .slice none 0 0, .bool false] 102))
    clear hbw hb1 her h3 hwe
    go_wp2_with (refine st_at rfl (T := 27) rfl rfl (cs := [.int .i64 0, .int .i64 0]) rfl H3.out (by kernel_rfl) rfl rfl ?_; intro wk hkk hsk)
    refine bodyPost_ret (ret_cell_tmp rfl _ _ rfl hkk Tryz.underlying27 rfl (by kernel_rfl)) rfl ⟨by rw [HWE.out]; rfl, ?_⟩
    exact bes_then HBW.out hsk (by omega) (by simp; omega)
  · have hR : rq = true := by
      rcases bool_ft rq with hf | hf
      · rw [hf] at h0
        unfold rdE at h0
        cases ho : okFl F <;> simp [ho] at h0
      · exact hf
    have HWE := Lib.hid (show reV F m = .tuple #[rcS F m, .int .i64 0] by unfold reV; rw [HRQ.out, if_pos h0])
    obtain ⟨oa, ca, rfl, _⟩ := hK.a.parts
    obtain ⟨ob, cb, rfl, _⟩ := hK.b.parts
    have hs1 := hb1.size
    simp only [World.size_alloc] at hs1
    have hbw : Below w.heap.size w w1 := Below.trans (Below.alloc (Below.alloc (Below.alloc (Below.refl _ _) (Nat.le_refl _) _) (by simp) _) (by simp; omega) _) (hb1.mono (by simp; omega))
    have hb4 := Bk.new w1 102 (knL b (knR F) (.slice oa (lows (linesL F (allL F))).length ca) (.slice ob (ups (linesL F (allL F))).length cb))
    have h2 := fun o => ((B2.out.below hb1).alloc o).cell 0
    have h3 := B3.out.below hb1
    obtain ⟨m0, m1⟩ := inB_t (HRQ.out.trans hR)
    have HL := Lib.hid (reached_any F b _ _ pv oa ob ca cb m _ (hK.alloc (Obj.cells (knL b (knR F) (.slice oa (lows (linesL F (allL F))).length ca) (.slice ob (ups (linesL F (allL F))).length cb)).toArray 102)) m0 m1)
    have H3 := Lib.hid h3
    have HB4 := Lib.hid hb4
    have HBW := Lib.hid hbw
    simp only [List.getElem?_cons_zero] at h2
    obtain ⟨kr, hkr⟩ : ∃ r, knR F = r := ⟨_, rfl⟩
    obtain ⟨x, hx⟩ : ∃ x, lastNot (fun n => decide (0 < n) && unB F m n) 24 0 2097152 = x := ⟨_, rfl⟩
    obtain ⟨y, hy⟩ : ∃ x, firstNot (fun n => ovB F m n) 24 0 2097152 = x := ⟨_, rfl⟩
    rw [hkr] at HL HB4 ⊢
    rw [hx, hy] at HL
    unfold rcS at HWE
    rw [hx, hy] at HWE
    clear hkr hx hy hK hb4 h3 hbw hb1 h0 hR
    go_wp2_with (first | (refine ld_at rfl (T := 102) rfl rfl HB4.out Tryz.underlying102 rfl (by kernel_rfl) ?_) | fail)
    refine HL.out.mono ?_
    rintro e w2 ⟨rfl, hb2⟩
    have h4 := (H3.out.alloc _).below hb2
    have H4 := Lib.hid h4
    have hs2 := hb2.size
    simp only [World.size_alloc] at hs2
    have HBW2 := Lib.hid (Below.trans (HBW.out.alloc HBW.out.size _) (hb2.mono (by simp; omega)))
    clear hb2 h4
    go_wp2_with (refine st_at rfl (T := 27) rfl rfl (cs := [.int .i64 x, .int .i64 y]) rfl H4.out (by kernel_rfl) rfl rfl ?_; intro wk hkk hsk)
    refine bodyPost_ret (ret_cell_tmp rfl _ _ rfl hkk Tryz.underlying27 rfl (by kernel_rfl)) rfl ⟨by rw [HWE.out]; rfl, ?_⟩
    exact bes_then HBW2.out hsk (by omega) (by omega)
theorem reading_any (F : Fl) (b : Nat) (vv vs pv : Value) (n : Int) (w : World) (hS : Sty w F b vv vs pv) : Calls Tryz.prog 82 #[.pointer (some ⟨b, 0, none⟩), .int .i64 n] w fun e w' => e = .returned (.bool (inB n 0 ((F.s.length : Int) - 1))) ∧ w' = w := by
  have c5 := hS.k.cell 5
  simp only [styC, List.getElem?_cons_zero, List.getElem?_cons_succ] at c5
  have hlt := hS.k.lt
  have n24 := hS.o.n
  obtain ⟨os, cs, rfl, ms⟩ := hS.f.s.parts
  obtain ⟨N, hN⟩ : ∃ n, F.s.length = n := ⟨_, rfl⟩
  rw [hN] at c5 n24 ⊢
  clear hS hN ms
  go_enter Tryz.func82, Tryz.ntmps82
  go_wp2_with fail
  refine (from_any n 0 ((N : Int) - 1) _).mono ?_
  rintro e w1 ⟨rfl, rfl⟩
  go_wp2_with fail
  go_ret
  exact ⟨rfl, rfl⟩
theorem Seen1_any (F : Fl) (b : Nat) (vv vs pv : Value) (x : Int) (mb : Nat) (w : World) (hS : Sty w F b vv vs pv) (hmb : w.cell? ⟨mb, 0, none⟩ = some (.int .i64 x)) : Calls Tryz.prog 81 #[.pointer (some ⟨b, 0, none⟩), .pointer (some ⟨mb, 0, none⟩)] w fun e w' => e = .returned (.bool (inB x 0 ((F.s.length : Int) - 1))) ∧ Below w.heap.size w w' := by
  have hO := reading_any F b vv vs pv x w hS
  obtain ⟨q, hq⟩ : ∃ q, inB x 0 ((F.s.length : Int) - 1) = q := ⟨_, rfl⟩
  rw [hq] at hO ⊢
  have HO := Lib.hid hO
  clear hO hS hq
  go_enter Tryz.func81, Tryz.ntmps81
  go_wp2_with fail
  refine HO.out.mono ?_
  rintro e w1 ⟨rfl, rfl⟩
  go_wp2_with fail
  go_ret
  exact ⟨rfl, Below.refl _ _⟩
def rlB (F : Fl) (x : Int) : Int := lastNot (fun n => decide (0 < n) && unB F x n) 24 0 2097152
def rhB (F : Fl) (x : Int) : Int := firstNot (fun n => ovB F x n) 24 0 2097152
def seL (F : Fl) (s : Sn) : Int := max s.lo (rlB F (endB (hgt F.v) s.k))
def seH (F : Fl) (s : Sn) : Int := if 0 < endA s.k then min s.hi (rhB F (endA s.k)) else s.hi
abbrev seS (F : Fl) (x : Int) : Value := .agg #[.int .i64 (seL F (snA F.s x.toNat)), .int .i64 (seH F (snA F.s x.toNat))]
def seV (F : Fl) (x : Int) : Value := if rdE F (inB x 0 ((F.s.length : Int) - 1)) = 0 then .tuple #[seS F x, .int .i64 0] else .tuple #[raZ, .int .i64 (rdE F (inB x 0 ((F.s.length : Int) - 1)))]
end Go.Proofs.YtnfndiafabhhdaaGreat
