/- Walk of Case (Wear). -/
import Derived.Test.YtnfndiafabhhdaaGreatE7
namespace Go.Proofs.YtnfndiafabhhdaaGreat
open Go.ChangeShapes Go.WideShapes Go.ChangeAt Go.RowKit
theorem allL_mem {F : Fl} {i : Int} : i ∈ allL F ↔ -2 ≤ i ∧ i < F.s.length := allI_mem (F := F)
theorem end_some {F : Fl} (h : OkF F) (hc : canI F (allL F) = true) {b : Bd} (hb : b = (knR F).hi ∨ b = (knR F).lo) : (1 ≤ lowN1 (1000 * b.d) b.n ∧ lowN1 (1000 * b.d) b.n ≤ 1125899906842624) ∧ (1 ≤ lowN2 (1000 * b.d) b.n ∧ lowN2 (1000 * b.d) b.n ≤ 1125899906842624) ∧
    ∃ i : Int, -1 ≤ i ∧ i < F.s.length ∧ ccV F (lowN1 (1000 * b.d) b.n) (lowN2 (1000 * b.d) b.n) i = 0 := by
  obtain ⟨k1, k2, _⟩ := ends_has h (allL_in (F := F)) hc
  have rB := knR_B h
  have dn := solved_den h (allL_in (F := F))
  have e1 : (knR F).hi = (solvedW F (allL F)).hi := rfl
  have e2 : (knR F).lo = (solvedW F (allL F)).lo := rfl
  have key : (solvedW F (allL F)).has b.n b.d ∧ 0 < b.n ∧ b.n ≤ 480000000000 ∧ 0 < b.d ∧ b.d ≤ 1048576000000 := by
    rcases hb with rfl | rfl
    · exact ⟨by rw [e1]; exact k2, rB.c0, rB.c1, rB.d0, by rw [e1]; exact dn.2⟩
    · exact ⟨by rw [e2]; exact k1, rB.a0, rB.a1, rB.b0, by rw [e2]; exact dn.1⟩
  obtain ⟨kh, n0, n1, d0, d1⟩ := key
  obtain ⟨i, hi, i2, hco⟩ := end_case h (allL_in (F := F)) (allL_mem.2 (by omega)) (allL_mem.2 (by omega)) d0 n0 kh
  obtain ⟨i0, i1⟩ := allL_mem.1 hi
  have c := lowN_cross (n := 1000 * b.d) (d := b.n) (by omega) n0
  obtain ⟨⟨a0, a1⟩, a2, a3⟩ := lowN_bd (n := 1000 * b.d) (d := b.n) (by omega) n0
  generalize lowN1 (1000 * b.d) b.n = N at *
  generalize lowN2 (1000 * b.d) b.n = D at *
  have N0 : 1 ≤ N := by
    rcases Int.lt_or_le 0 N with j | j
    · exact j
    · have := Int.mul_nonpos_of_nonpos_of_nonneg j (Int.le_of_lt n0)
      have := Int.mul_pos (show 0 < 1000 * b.d by omega) a2
      omega
  have r1 : N ≤ 1125899906842624 := by omega
  have r2 : D ≤ 1125899906842624 := by omega
  refine ⟨⟨N0, r1⟩, ⟨by omega, r2⟩, i, by omega, i1, ?_⟩
  unfold ccV
  rw [(okFl_iff F).2 h, show ccR F N D i = true by simp only [ccR, inB_mk N0 r1, inB_mk (show 1 ≤ D by omega) r2, inB_mk (show -1 ≤ i by omega) (show i ≤ (F.s.length : Int) - 1 by omega), Bool.and_true], (ccB_iff h).2 hco]
  rfl
theorem ret_cell_tmp3 {P : Program} {fn : Func} {p u v x : Tmp} {ty : TypeId} (h : fn.results = #[.cell p ty, .tmp u, .tmp v, .tmp x]) (tmps : Array Value) (w : World) {g : Nat} {t : TypeId} {cs : List Value} {d : TypeDesc}
    (hp : tmps.getD p undef = .pointer (some ⟨g, 0, none⟩)) (hg : Bk w g t cs)
    (hu : P.underlying ty = some d) (hd : (match d with | .struct _ | .array _ _ => true | _ => false) = true) (hi : (P.info? ty).map (·.size) = some cs.length) :
    (results fn tmps).run P w = .ok (.tuple #[.agg cs.toArray, tmps.getD u undef, tmps.getD v undef, tmps.getD x undef]) w := by
  have h1 := run_loadVar_row w g t ty cs.toArray (0, 0) d hg hu hd (by simpa using hi)
  simp only [results, h]
  have hp' : tmps[p]?.getD undef = .pointer (some ⟨g, 0, none⟩) := by simpa using hp
  simp [Result.andThen, hp', asAddr, h1]
def CaPost (F : Fl) (e : Ending) : Prop :=
  (rdE F true ≠ 0 ∧ e = .returned (.tuple #[raZ, .int .i64 0, .bool false, .int .i64 (chkF F)])) ∨
  (rdE F true = 0 ∧ ∃ i : Int, -1 ≤ i ∧ i < F.s.length ∧ ccV F (lowN1 (1000 * (knR F).hi.d) (knR F).hi.n) (lowN2 (1000 * (knR F).hi.d) (knR F).hi.n) i = 0 ∧
    e = .returned (.tuple #[weV (knR F).hi, .int .i64 i, .bool true, .int .i64 0]))
set_option maxRecDepth 100000 in
set_option maxHeartbeats 4000000 in
theorem Case_any (F : Fl) (vv vs : Value) (w : World) (hF : FlIn w F vv vs) : Calls Tryz.prog 62 #[flV F vv vs] w fun e w' => CaPost F e ∧ Below w.heap.size w w' := by
  have hO := ready_fine F vv vs _ ((hF.alloc (flO F vv vs)).alloc raO)
  have b1 := (Bk.new w 30 [vv, .int .i64 F.f.lv, .int .i64 F.f.er, .int .i64 F.wlo, .int .i64 F.whi, vs]).alloc raO
  have b2 := Bk.new1 w (flO F vv vs) 41 [.int .i64 0, .int .i64 0]
  have HF := Lib.hid hF
  obtain ⟨os, cs, rfl, ms⟩ := hF.s.parts
  obtain ⟨ov, cv, rfl, mv⟩ := hF.v.parts
  have HO := Lib.hid hO
  have B1 := Lib.hid b1
  have B2 := Lib.hid b2
  clear hO hF b1 b2
  go_enter Tryz.func62, Tryz.ntmps62
  go_wp2_with fail
  refine HO.out.mono ?_
  rintro e w1 (⟨h0, rfl, hb1⟩ | ⟨h0, b, pv, va, vb, rfl, hb1, hK⟩)
  · have hs1 := hb1.size
    simp only [World.size_alloc] at hs1
    have hbw : Below w.heap.size w w1 := Below.trans (Below.alloc (Below.alloc (Below.refl _ _) (Nat.le_refl _) _) (by simp) _) (hb1.mono (by simp; omega))
    have h3 := (B2.out.below hb1).alloc (Obj.cells #[.pointer none, .int .i64 0, .int .i64 0, .bool false, .int .i64 0, .int .i64 0, .bool false, .slice none 0 0, .slice none 0 0, .bool false] 102)
    have H3 := Lib.hid h3
    have HBW := Lib.hid (hbw.alloc hbw.size (Obj.cells #[.pointer none, .int .i64 0, .int .i64 0, .bool false, .int .i64 0, .int .i64 0, .bool false, .slice none 0 0, .slice none 0 0, .bool false] 102))
    have H0 := Lib.hid h0
    have hcase : (rdE F true = 31 ∧ chkF F = 0) ∨ (rdE F true = 30 ∧ chkF F = 30) := by
      unfold rdE chkF at *
      cases ho : okFl F <;> cases hc : canI F (allL F) <;> simp [ho, hc] at h0 ⊢
    clear hbw hb1 h3 h0 HO B1 B2
    rcases hcase with ⟨h1, h2⟩ | ⟨h1, h2⟩
    · have H2 := Lib.hid h2
      rw [h1]
      clear h1 h2
      go_wp2_with (refine st_at rfl (T := 41) rfl rfl (cs := [.int .i64 0, .int .i64 0]) rfl H3.out (by kernel_rfl) rfl rfl ?_; intro wk hkk hsk)
      refine bodyPost_ret (ret_cell_tmp3 rfl _ _ rfl hkk Tryz.underlying41 rfl (by kernel_rfl)) rfl ⟨.inl ⟨H0.out, by rw [H2.out]; rfl⟩, ?_⟩
      exact bes_then HBW.out hsk (by omega) (by simp; omega)
    · have H2 := Lib.hid h2
      rw [h1]
      clear h1 h2
      go_wp2_with (refine st_at rfl (T := 41) rfl rfl (cs := [.int .i64 0, .int .i64 0]) rfl H3.out (by kernel_rfl) rfl rfl ?_; intro wk hkk hsk)
      refine bodyPost_ret (ret_cell_tmp3 rfl _ _ rfl hkk Tryz.underlying41 rfl (by kernel_rfl)) rfl ⟨.inl ⟨H0.out, by rw [H2.out]; rfl⟩, ?_⟩
      exact bes_then HBW.out hsk (by omega) (by simp; omega)
  · have hc := rdE_can h0
    have hok := hK.s.o
    obtain ⟨⟨N0, N1⟩, ⟨D0, D1⟩, i, i0, i1, hi⟩ := end_some hok hc (b := (knR F).hi) (.inl rfl)
    have rB := knR_B hok
    have n24 := hok.n
    have H0 := Lib.hid h0
    have hpost : ∀ j : Int, -1 ≤ j → j < F.s.length → ccV F (lowN1 (1000 * (knR F).hi.d) (knR F).hi.n) (lowN2 (1000 * (knR F).hi.d) (knR F).hi.n) j = 0 → CaPost F (.returned (.tuple #[weV (knR F).hi, .int .i64 j, .bool true, .int .i64 0])) :=
      fun j j0 j1 hj => .inr ⟨h0, j, j0, j1, hj, rfl⟩
    have c0 := hK.s.k.cell 5
    simp only [styC, List.getElem?_cons_zero, List.getElem?_cons_succ] at c0
    have hlt := hK.s.k.lt
    obtain ⟨oa, ca, rfl, _⟩ := hK.a.parts
    obtain ⟨ob, cb, rfl, _⟩ := hK.b.parts
    have hs1 := hb1.size
    simp only [World.size_alloc] at hs1
    have hbw : Below w.heap.size w w1 := Below.trans (Below.alloc (Below.alloc (Below.refl _ _) (Nat.le_refl _) _) (by simp) _) (hb1.mono (by simp; omega))
    have hb4 := Bk.new w1 102 (knL b (knR F) (.slice oa (lows (linesL F (allL F))).length ca) (.slice ob (ups (linesL F (allL F))).length cb))
    have HWE := fun oa ob na nb ca cb W => Lib.hid (wears_any (knR F) oa ob na nb ca cb W rB)
    unfold weV at hpost
    simp only [weV] at HWE
    obtain ⟨kr, hkr⟩ : ∃ r, knR F = r := ⟨_, rfl⟩
    rw [hkr] at HWE hb4 hi N0 N1 D0 D1 hpost ⊢
    have HCC := Lib.hid (fun N D n W hb => CheckCase_any F _ _ N D n W (HF.out.below hb))
    obtain ⟨N, hN⟩ : ∃ r, lowN1 (1000 * kr.hi.d) kr.hi.n = r := ⟨_, rfl⟩
    obtain ⟨D, hD⟩ : ∃ r, lowN2 (1000 * kr.hi.d) kr.hi.n = r := ⟨_, rfl⟩
    obtain ⟨N', hN'⟩ : ∃ r, lowN1 (1000 * kr.lo.d) kr.lo.n = r := ⟨_, rfl⟩
    obtain ⟨D', hD'⟩ : ∃ r, lowN2 (1000 * kr.lo.d) kr.lo.n = r := ⟨_, rfl⟩
    simp only [hN, hD, hN', hD'] at HWE hi N0 N1 D0 D1 hpost
    have HPOST := Lib.hid hpost
    have HI := Lib.hid hi
    obtain ⟨L, hL⟩ : ∃ k, F.s.length = k := ⟨_, rfl⟩
    obtain ⟨la, hla⟩ : ∃ r, (lows (linesL F (allL F))).length = r := ⟨_, rfl⟩
    obtain ⟨lb, hlb⟩ : ∃ r, (ups (linesL F (allL F))).length = r := ⟨_, rfl⟩
    rw [hla, hlb] at hb4 ⊢
    have f0 := (B1.out.below hb1).cell 0
    have f1 := (B1.out.below hb1).cell 1
    have f2 := (B1.out.below hb1).cell 2
    have f3 := (B1.out.below hb1).cell 3
    have f4 := (B1.out.below hb1).cell 4
    have f5 := (B1.out.below hb1).cell 5
    have f6 := (B1.out.below hb1).lt
    have h3 := B2.out.below hb1
    have H3 := Lib.hid h3
    have HBW := Lib.hid hbw
    simp only [List.getElem?_cons_zero, List.getElem?_cons_succ] at f0 f1 f2 f3 f4 f5
    rw [hL] at c0 n24 i1 f5 HPOST ⊢
    have y0 := hb4.cell 0
    have y1 := hb4.cell 1
    have y2 := hb4.cell 2
    have y3 := hb4.cell 3
    have y4 := hb4.cell 4
    have y5 := hb4.cell 5
    have y6 := hb4.cell 6
    have y7 := hb4.cell 7
    have y8 := hb4.cell 8
    have y9 := hb4.cell 9
    simp only [knL, List.getElem?_cons_zero, List.getElem?_cons_succ] at y0 y1 y2 y3 y4 y5 y6 y7 y8 y9
    have HB4 := Lib.hid hb4
    clear hi hpost hN hD hN' hD' hla hlb hkr hK hc hok rB HO hbw h3 hb4 h0
    go_wp2_with fail
    refine (HWE oa ob la lb ca cb _).out.mono ?_
    rintro e w2 ⟨rfl, hb2⟩
    have hb12 := (ballo w1 (Obj.cells #[.pointer (some ⟨b, 0, none⟩), .int .i64 kr.lo.n, .int .i64 kr.lo.d, .bool kr.lo.s, .int .i64 kr.hi.n, .int .i64 kr.hi.d, .bool kr.hi.s, .slice oa la ca, .slice ob lb cb, .bool kr.e] 102)).trans (hb2.mono (by simp))
    have hkn2 := HB4.out.below hb2
    have hr2 := (Bk.new w2 41 [.int .i64 N, .int .i64 D]).alloc (Obj.cells #[.int .i64 N', .int .i64 D'] 41)
    obtain ⟨V, hVV⟩ : ∃ V, (w2.alloc (Obj.cells #[.int .i64 N, .int .i64 D] 41)).alloc (Obj.cells #[.int .i64 N', .int .i64 D'] 41) = V := ⟨_, rfl⟩
    have h2V : Below w2.heap.size w2 V := by rw [← hVV]; exact (ballo _ _).alloc (by simp) _
    have hr2 : Bk V w2.heap.size 41 [.int .i64 N, .int .i64 D] := by rw [← hVV]; exact hr2
    have h1V : Below w1.heap.size w1 V := hb12.trans (h2V.mono hb12.size)
    have HKV := Lib.hid (hkn2.below h2V)
    have HRV := Lib.hid hr2
    have H1V := Lib.hid h1V
    have H3V := Lib.hid (H3.out.below h1V)
    have HBV := Lib.hid (HBW.out.trans (h1V.mono HBW.out.size))
    have hsz := h1V.size
    clear hb12 hkn2 hr2 h2V h1V hb2 y0 y1 y2 y3 y4 y5 y6 y7 y8 y9 HB4 H3 HBW HWE B1 B2
    go_wp2_with fail
    try rw [hVV]
    clear hVV
    go_loopw [10] (fun i wr => ∃ j : Int, -1 ≤ j ∧ j ≤ L ∧ i = .int .i64 j ∧ Below V.heap.size V wr ∧ Hid (∀ m, -1 ≤ m → m < j → ccV F N D m ≠ 0)) (fun i _ => ((L : Int) - intOf i).toNat)
    case atStart => exact ⟨-1, by omega, by omega, rfl, Below.refl _ _, fun m a b => by omega⟩
    case round =>
      obtain ⟨j, j0, j1, rfl, hbl, hno⟩ := hrel
      have hbr := H1V.out.trans (hbl.mono hsz)
      have c0 := (hbr.cell (p := ⟨b, 5, none⟩) hlt).trans c0
      have k0 := (HKV.out.below hbl).cell 0
      have k1 := (HKV.out.below hbl).lt
      simp only [knL, List.getElem?_cons_zero] at k0
      have hszr := hbl.size
      by_cases hj : j < L
      · have f0 := (hbr.cell (p := ⟨w.heap.size, 0, none⟩) f6).trans f0
        have f1 := (hbr.cell (p := ⟨w.heap.size, 1, none⟩) f6).trans f1
        have f2 := (hbr.cell (p := ⟨w.heap.size, 2, none⟩) f6).trans f2
        have f3 := (hbr.cell (p := ⟨w.heap.size, 3, none⟩) f6).trans f3
        have f4 := (hbr.cell (p := ⟨w.heap.size, 4, none⟩) f6).trans f4
        have f5 := (hbr.cell (p := ⟨w.heap.size, 5, none⟩) f6).trans f5
        have g0 := (HRV.out.below hbl).cell 0
        have g1 := (HRV.out.below hbl).cell 1
        have g2 := (HRV.out.below hbl).lt
        simp only [List.getElem?_cons_zero, List.getElem?_cons_succ] at g0 g1
        have hwr := Lib.hid (HBV.out.trans (hbl.mono HBV.out.size))
        have HBL := Lib.hid hbl
        have H3R := Lib.hid (H3V.out.below hbl)
        obtain ⟨r, hr⟩ : ∃ r, ccV F N D j = r := ⟨_, rfl⟩
        have HRR := Lib.hid hr
        clear hbr hbl hr
        go_wp2_with fail
        have hcc := HCC.out N D j wr hwr.out
        rw [hL, HRR.out] at hcc
        refine hcc.mono ?_
        rintro e w5 ⟨rfl, hb5⟩
        have g0 := (hb5.cell (p := ⟨w2.heap.size, 0, none⟩) g2).trans g0
        have g1 := (hb5.cell (p := ⟨w2.heap.size, 1, none⟩) g2).trans g1
        have g3 := Nat.lt_of_lt_of_le g2 hb5.size
        have H3F := Lib.hid (H3R.out.below hb5)
        have HWF := Lib.hid (hwr.out.trans (hb5.mono hwr.out.size))
        have HBF := Lib.hid (bthen HBL.out hb5)
        have hz5 := hb5.size
        clear hb5 hcc
        by_cases hr0 : r = 0
        · have hrb : (r == 0) = true := by simp [hr0]
          go_wp2_with (refine st_at rfl (T := 41) rfl rfl (cs := [.int .i64 N, .int .i64 D]) rfl H3F.out (by kernel_rfl) rfl rfl ?_; intro wk hkk hsk)
          refine bodyPost_ret (ret_cell_tmp3 rfl _ _ rfl hkk Tryz.underlying41 rfl (by kernel_rfl)) rfl ⟨by exact HPOST.out j j0 hj (by rw [HRR.out, hr0]), ?_⟩
          exact bes_then HWF.out hsk (by omega) (by have := HWF.out.size; omega)
        · have hrb : (r == 0) = false := by simp [hr0]
          go_wp2_with fail
          refine ⟨⟨j + 1, by omega, by omega, by go_num, HBF.out, ?_⟩, by simp [intOf]; omega⟩
          refine Lib.hid fun m m0 m1 => ?_
          rcases Int.lt_or_le m j with q | q
          · exact hno.out m m0 q
          · obtain rfl : m = j := by omega
            rw [HRR.out]; exact hr0
      · exfalso
        exact hno.out i i0 (by omega) HI.out
end Go.Proofs.YtnfndiafabhhdaaGreat
