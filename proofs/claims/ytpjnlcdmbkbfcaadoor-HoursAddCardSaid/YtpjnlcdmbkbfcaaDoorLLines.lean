/- The walk of HoursLines. -/
import Derived.Test.YtpjnlcdmbkbfcaaDoorGd
namespace Go.Proofs.YtpjnlcdmbkbfcaaDoor
open Go.ChangeShapes Go.WideShapes Go.ChangeAt Go.RowKit Go.BigFrame
theorem foldl_min : ∀ (l : List Int) (a : Int), l.foldl min a ≤ a ∧ ∀ x, x ∈ l → l.foldl min a ≤ x
  | [], a => ⟨Int.le_refl _, fun _ h => by cases h⟩
  | z :: l, a => by
    obtain ⟨h1, h2⟩ := foldl_min l (min a z)
    rw [List.foldl_cons]
    refine ⟨by omega, fun x hx => ?_⟩
    rcases List.mem_cons.1 hx with rfl | h
    · omega
    · exact h2 x h
theorem foldl_max : ∀ (l : List Int) (a : Int), a ≤ l.foldl max a ∧ ∀ x, x ∈ l → x ≤ l.foldl max a
  | [], a => ⟨Int.le_refl _, fun _ h => by cases h⟩
  | z :: l, a => by
    obtain ⟨h1, h2⟩ := foldl_max l (max a z)
    rw [List.foldl_cons]
    refine ⟨by omega, fun x hx => ?_⟩
    rcases List.mem_cons.1 hx with rfl | h
    · omega
    · exact h2 x h
theorem allB_mm (l : List Int) : allB l (Lib.minOf l) (Lib.maxOf l) = true := by
  refine allB_of fun k hk => ?_
  have hm : el l k ∈ l := by simp only [el, List.getElem?_eq_getElem hk, Option.getD_some]; exact List.getElem_mem hk
  exact ⟨(foldl_min l _).2 _ hm, (foldl_max l _).2 _ hm⟩
theorem lnR_mm {S : Sea} (hv : vld S = true) {day : Int} (hL : 1 ≤ S.L) : Lib.minOf S.r ≤ lnR S day ∧ lnR S day ≤ Lib.maxOf S.r := by
  have v := (vld_iff S).1 hv
  exact lineV_bd v.ad v.up v.n1 v.nr (allB_mm _) (Int.emod_nonneg _ (by omega)) (Int.emod_lt_of_pos _ (by omega))
theorem lnS_mm {S : Sea} (hv : vld S = true) {day : Int} (hL : 1 ≤ S.L) : Lib.minOf S.s ≤ lnS S day ∧ lnS S day ≤ Lib.maxOf S.s := by
  have v := (vld_iff S).1 hv
  exact lineV_bd v.ad v.up v.n1 v.ns (allB_mm _) (Int.emod_nonneg _ (by omega)) (Int.emod_lt_of_pos _ (by omega))
theorem idx_cases {S : Sea} (hv : vld S = true) (day : Int) : (∃ k : Nat, k < S.d.length ∧ Lib.idxOf S.d (day % S.L) = k ∧ el S.r k = lnR S day ∧ el S.s k = lnS S day) ∨ Lib.idxOf S.d (day % S.L) = -1 := by
  have v := (vld_iff S).1 hv
  by_cases h : ∃ k, k < S.d.length ∧ el S.d k = day % S.L
  · obtain ⟨k, hk, he⟩ := h
    refine .inl ⟨k, hk, ?_, ?_, ?_⟩
    · have := Lib.idxOf_hit S.d S.d.length k (day % S.L) hk (Nat.le_refl _) (by rw [← he]; simp [el, List.getD]) (fun j hj => by
        have := risesB_lt v.up hj hk
        have e2 : S.d.getD j 0 = el S.d j := by simp [el, List.getD]
        rw [e2]; omega)
      rwa [List.take_length] at this
    · unfold lnR; rw [← he, lineV_at v.up hk]
    · unfold lnS; rw [← he, lineV_at v.up hk]
  · refine .inr ?_
    have := Lib.idxOf_miss S.d S.d.length (day % S.L) (fun j hj e => h ⟨j, hj, by rw [← e]; simp [el, List.getD]⟩)
    rwa [List.take_length] at this
theorem lnR_per (S : Sea) (day : Int) : lnR S (day + S.L) = lnR S day := by unfold lnR; rw [Int.add_emod_right]
theorem lnS_per (S : Sea) (day : Int) : lnS S (day + S.L) = lnS S day := by unfold lnS; rw [Int.add_emod_right]
theorem lit_mod (S : Sea) (day : Int) : lit S (day % S.L) = lit S day := by
  simp only [lit, las, lnR, lnS, Bool.false_eq_true, if_false, Int.emod_emod_of_dvd _ (Int.dvd_refl _)]
theorem lon_most {S : Sea} (hL : 1 ≤ S.L) (day : Int) : las S day false ≤ las S (lonD S) false ∧ las S (shoD S) false ≤ las S day false := by
  have h0 := Int.emod_nonneg day (show S.L ≠ 0 by omega)
  have h1 := Int.emod_lt_of_pos day (show 0 < S.L by omega)
  have a := lonF_max (lit S) (S.L - 1).toNat (day % S.L).toNat (by omega)
  have b := shoF_min (lit S) (S.L - 1).toNat (day % S.L).toNat (by omega)
  rw [Int.toNat_of_nonneg h0, lit_mod] at a b
  exact ⟨a, b⟩
theorem lon_in {S : Sea} (hL : 1 ≤ S.L) : (0 ≤ lonD S ∧ lonD S < S.L) ∧ 0 ≤ shoD S ∧ shoD S < S.L := by
  have a := lonF_bd (lit S) (S.L - 1).toNat
  have b := shoF_bd (lit S) (S.L - 1).toNat
  unfold lonD shoD
  omega
theorem prod_bd {a b : Int} (ha : 0 ≤ a) (ha' : a ≤ 2000) (hb : 0 ≤ b) (hb' : b ≤ 2000) : 0 ≤ a * b ∧ a * b ≤ 4000000 :=
  ⟨Int.mul_nonneg ha hb, Int.le_trans (Int.mul_le_mul ha' hb' hb (by decide)) (by decide)⟩
theorem min_c (v : Value) (l : List Int) (x : Int) (w : World) (h : Ints w v l) (h0 : 0 < l.length) (hx : Lib.minOf l = x) : Calls Tryd.prog 60 #[v] w fun e w' => e = .returned (.int .i64 x) ∧ w = w' := by rw [← hx]; exact min_any v l w h h0
theorem max_c (v : Value) (l : List Int) (x : Int) (w : World) (h : Ints w v l) (h0 : 0 < l.length) (hx : Lib.maxOf l = x) : Calls Tryd.prog 61 #[v] w fun e w' => e = .returned (.int .i64 x) ∧ w = w' := by rw [← hx]; exact max_any v l w h h0
theorem index_c (v : Value) (l : List Int) (x k : Int) (w : World) (h : Ints w v l) (h0 : 0 < l.length) (hk : Lib.idxOf l x = k) : Calls Tryd.prog 62 #[v, .int .i64 x] w fun e w' => e = .returned (.int .i64 k) ∧ w = w' := by rw [← hk]; exact index_any v l x w h h0
theorem Longest_ok (S : Sea) (vd vr vs : Value) (x y : Int) (w : World) (hI : SeaIn w vd vr vs S) (hv : vld S = true) (hx : lonD S = x) (hy : shoD S = y) :
    Calls Tryd.prog 32 #[.agg #[.int .i64 S.L, vd, vr, vs]] w fun e w' => e = .returned (.tuple #[.int .i64 x, .int .i64 y, .int .i64 0]) ∧ Below w.heap.size w w' := by
  have := Longest_any S vd vr vs w hI
  rw [hv, chk_ok hv, hx, hy] at this
  exact this
set_option maxRecDepth 100000 in
set_option maxHeartbeats 4000000 in
theorem law_lines (S : Sea) (vd vr vs : Value) (day : Int) (w : World) (hI : SeaIn w vd vr vs S)
    (_ : -9223372036854775808 ≤ day) (_ : day ≤ 9223372036854775807) :
    Calls Tryd.prog 16 #[.agg #[.int .i64 S.L, vd, vr, vs], .int .i64 day] w fun e w' => e = .returned (.bool true) ∧ Below w.heap.size w w' := by
  have hI0 := (hI.alloc (seaO S vd vr vs))
  have hL0 := ((Bx.none w).cons [.int .i64 S.L, vd, vr, vs] 24)
  have hB0 : Below w.heap.size w ((w.alloc (seaO S vd vr vs))) := (by repeat (first | exact Below.refl _ _ | assumption | refine bthen ?_ (by assumption) | refine Below.alloc ?_ (by first | exact Nat.le_refl _ | (simp; done) | (simp; omega) | omega) _ | refine Below.setCell ?_ (by first | exact Nat.le_refl _ | (simp; done) | (simp; omega) | omega) _ | refine below_drewN ?_ _ | refine Below.drew ?_))
  have hC := True.intro
  rcases bool_ft (rgt S [day] true) with hr | hr
  · have HR := Lib.hid hr
    clear hr
    go_enter Tryd.func16, Tryd.ntmps16
    go_wp2_with fail
    clear hC
    refine (sane_any _).mono ?_
    rintro e w1 ⟨rfl, hb⟩
    have hI1 := hI0.below hb
    have hL1 := hL0.below hb
    have hB1 := bnext hB0 hb
    have hC := hL1.facts
    simp only [AllC, RowC, Nat.zero_add, Nat.reduceAdd] at hC
    go_wp2_with fail
    clear hC
    refine (right_d0 S _ _ _ day _ _ hI1 HR.out).mono ?_
    rintro e w2 ⟨rfl, hb⟩
    have hI2 := hI1.below hb
    have hL2 := hL1.below hb
    have hB2 := bnext hB1 hb
    have hC := hL2.facts
    simp only [AllC, RowC, Nat.zero_add, Nat.reduceAdd] at hC
    go_wp2_with fail
    go_ret
    exact ⟨rfl, hB2⟩
  obtain ⟨hv, ⟨d1, d2⟩, _⟩ := rgt_t hr
  have v5 := (vld_iff S).1 hv
  have L1 := v5.L1
  have L2 := v5.L2
  have h0d : 0 < S.d.length := v5.n1
  have h0r : 0 < S.r.length := by rw [v5.nr]; exact h0d
  have h0s : 0 < S.s.length := by rw [v5.ns]; exact h0d
  obtain ⟨mr1, mr2⟩ := lnR_mm hv (day := day) (by omega)
  obtain ⟨ms1, ms2⟩ := lnS_mm hv (day := day) (by omega)
  have hIX := idx_cases hv day
  obtain ⟨lo1, lo2⟩ := lon_in (S := S) (by omega)
  obtain ⟨mo1, mo2⟩ := lon_most (S := S) (by omega) day
  obtain ⟨od, nd, cd, rfl, ld, md⟩ := hI.d.parts
  obtain ⟨or_, nr, cr, rfl, lr, mr⟩ := hI.r.parts
  obtain ⟨os, ns, cs, rfl, ls, ms⟩ := hI.s.parts
  have k1 : 0 < nd := by rw [← ld.out]; exact h0d
  have k2 : nr = nd := by rw [← ld.out, ← lr.out]; exact v5.nr
  have k3 : ns = nd := by rw [← ld.out, ← ls.out]; exact v5.ns
  subst k2
  subst k3
  obtain ⟨br, fr, rfl, hbr, _⟩ := hI.r.cells k1
  obtain ⟨bs, fs, rfl, hbs, _⟩ := hI.s.cells k1
  obtain ⟨x, hx⟩ : ∃ x, day % S.L = x := ⟨_, rfl⟩
  have hT : Int.tmod day S.L = x := by rw [Int.tmod_eq_emod_of_nonneg d1]; exact hx
  rw [hx] at hIX
  obtain ⟨l1, hl1⟩ : ∃ x, lonD S = x := ⟨_, rfl⟩
  obtain ⟨l2, hl2⟩ : ∃ x, shoD S = x := ⟨_, rfl⟩
  rw [hl1] at lo1 mo1
  rw [hl2] at lo2 mo2
  have qa := las_bd hv l1 false
  have qb := las_bd hv l2 false
  have qc := las_bd hv day false
  have pr1 := low_cmp (a := las S day false) (b := las S l1 false) (d := 12) (by omega) (by omega) (by decide) mo1
  have pr2 := low_cmp (a := las S l2 false) (b := las S day false) (d := 12) (by omega) (by omega) (by decide) mo2
  have ra := low1_le (n := las S l1 false) (d := 12) (by omega)
  have rb := low1_le (n := las S l2 false) (d := 12) (by omega)
  have rc := low1_le (n := las S day false) (d := 12) (by omega)
  have ra' := low1_nn (n := las S l1 false) (d := 12) (by omega)
  have rb' := low1_nn (n := las S l2 false) (d := 12) (by omega)
  have rc' := low1_nn (n := las S day false) (d := 12) (by omega)
  have sa := low2_le (n := las S l1 false) (d := 12) (by decide)
  have sb := low2_le (n := las S l2 false) (d := 12) (by decide)
  have sc := low2_le (n := las S day false) (d := 12) (by decide)
  have sa' := low2_pos (n := las S l1 false) (d := 12) (by omega) (by decide)
  have sb' := low2_pos (n := las S l2 false) (d := 12) (by omega) (by decide)
  have sc' := low2_pos (n := las S day false) (d := 12) (by omega) (by decide)
  obtain ⟨a1, ha1⟩ : ∃ x, low1 (las S l1 false) 12 = x := ⟨_, rfl⟩
  obtain ⟨a2, ha2⟩ : ∃ x, low2 (las S l1 false) 12 = x := ⟨_, rfl⟩
  obtain ⟨b1, hb1⟩ : ∃ x, low1 (las S l2 false) 12 = x := ⟨_, rfl⟩
  obtain ⟨b2, hb2⟩ : ∃ x, low2 (las S l2 false) 12 = x := ⟨_, rfl⟩
  obtain ⟨c1, hc1⟩ : ∃ x, low1 (las S day false) 12 = x := ⟨_, rfl⟩
  obtain ⟨c2, hc2⟩ : ∃ x, low2 (las S day false) 12 = x := ⟨_, rfl⟩
  rw [ha1] at pr1 ra ra'
  rw [ha2] at pr1 sa sa'
  rw [hb1] at pr2 rb rb'
  rw [hb2] at pr2 sb sb'
  rw [hc1] at pr1 pr2 rc rc'
  rw [hc2] at pr1 pr2 sc sc'
  obtain ⟨u1, u1'⟩ := prod_bd ra' (by omega : a1 ≤ 2000) (by omega : 0 ≤ c2) (by omega)
  obtain ⟨u2, u2'⟩ := prod_bd rc' (by omega : c1 ≤ 2000) (by omega : 0 ≤ a2) (by omega)
  obtain ⟨u3, u3'⟩ := prod_bd rb' (by omega : b1 ≤ 2000) (by omega : 0 ≤ c2) (by omega)
  obtain ⟨u4, u4'⟩ := prod_bd rc' (by omega : c1 ≤ 2000) (by omega : 0 ≤ b2) (by omega)
  obtain ⟨x1, hx1⟩ : ∃ x, lnR S day = x := ⟨_, rfl⟩
  obtain ⟨x2, hx2⟩ : ∃ x, lnS S day = x := ⟨_, rfl⟩
  rw [hx1] at mr1 mr2 hIX
  rw [hx2] at ms1 ms2 hIX
  obtain ⟨m1, hm1⟩ : ∃ x, Lib.minOf S.r = x := ⟨_, rfl⟩
  obtain ⟨m2, hm2⟩ : ∃ x, Lib.maxOf S.r = x := ⟨_, rfl⟩
  obtain ⟨m3, hm3⟩ : ∃ x, Lib.minOf S.s = x := ⟨_, rfl⟩
  obtain ⟨m4, hm4⟩ : ∃ x, Lib.maxOf S.s = x := ⟨_, rfl⟩
  rw [hm1] at mr1
  rw [hm2] at mr2
  rw [hm3] at ms1
  rw [hm4] at ms2
  have X1 := Lib.hid hx1
  have X2 := Lib.hid hx2
  have Y1 := Lib.hid (show lnR S (day + S.L) = x1 by rw [lnR_per]; exact hx1)
  have Y2 := Lib.hid (show lnS S (day + S.L) = x2 by rw [lnS_per]; exact hx2)
  have M1 := Lib.hid hm1
  have M2 := Lib.hid hm2
  have M3 := Lib.hid hm3
  have M4 := Lib.hid hm4
  have O1 := Lib.hid hl1
  have O2 := Lib.hid hl2
  have A1 := Lib.hid ha1
  have A2 := Lib.hid ha2
  have B1 := Lib.hid hb1
  have B2 := Lib.hid hb2
  have C1 := Lib.hid hc1
  have C2 := Lib.hid hc2
  have HR := Lib.hid hr
  have HV := Lib.hid hv
  clear hx hx1 hx2 hm1 hm2 hm3 hm4 hl1 hl2 ha1 ha2 hb1 hb2 hc1 hc2 mo1 mo2 qa qb qc ra ra' rb rb' rc rc' sa sa' sb sb' sc sc' hr hv v5 md mr ms
  have hLz : ¬ S.L = 0 := by omega
  rcases hIX with ⟨k, hk, hj, e1, e2⟩ | hj
  · have J := Lib.hid hj
    have hk1 : k < ns := by rw [← ld.out]; exact hk
    have E1 := Lib.hid e1
    have E2 := Lib.hid e2
    clear hj hk e1 e2
    by_cases hdl : day + S.L ≤ 11000
    · go_enter Tryd.func16, Tryd.ntmps16
      go_wp2_with fail
      clear hC
      refine (sane_any _).mono ?_
      rintro e w1 ⟨rfl, hb⟩
      have hI1 := hI0.below hb
      have hL1 := hL0.below hb
      have hB1 := bnext hB0 hb
      have hC := hL1.facts
      simp only [AllC, RowC, Nat.zero_add, Nat.reduceAdd] at hC
      go_wp2_with fail
      clear hC
      refine (right_d0 S _ _ _ day _ _ hI1 HR.out).mono ?_
      rintro e w2 ⟨rfl, hb⟩
      have hI2 := hI1.below hb
      have hL2 := hL1.below hb
      have hB2 := bnext hB1 hb
      have hC := hL2.facts
      simp only [AllC, RowC, Nat.zero_add, Nat.reduceAdd] at hC
      go_wp2_with fail
      clear hC
      refine (Rise_ok S _ _ _ day _ _ hI2 HV.out d1 d2 X1.out).mono ?_
      rintro e w3 ⟨rfl, hb⟩
      have hI3 := hI2.below hb
      have hL3 := hL2.below hb
      have hB3 := bnext hB2 hb
      have hC := hL3.facts
      simp only [AllC, RowC, Nat.zero_add, Nat.reduceAdd] at hC
      go_wp2_with fail
      clear hC
      refine (Set_ok S _ _ _ day _ _ hI3 HV.out d1 d2 X2.out).mono ?_
      rintro e w4 ⟨rfl, hb⟩
      have hI4 := hI3.below hb
      have hL4 := hL3.below hb
      have hB4 := bnext hB3 hb
      have hC := hL4.facts
      simp only [AllC, RowC, Nat.zero_add, Nat.reduceAdd] at hC
      go_wp2_with fail
      refine (min_c _ _ _ _ hI4.r h0r M1.out).mono ?_
      rintro e w5 ⟨rfl, rfl⟩
      go_wp2_with fail
      refine (max_c _ _ _ _ hI4.r h0r M2.out).mono ?_
      rintro e w5 ⟨rfl, rfl⟩
      go_wp2_with fail
      refine (min_c _ _ _ _ hI4.s h0s M3.out).mono ?_
      rintro e w5 ⟨rfl, rfl⟩
      go_wp2_with fail
      refine (max_c _ _ _ _ hI4.s h0s M4.out).mono ?_
      rintro e w5 ⟨rfl, rfl⟩
      go_wp2_with fail
      have cI : ∀ i : More w4, _ := fun i => more_same (index_c _ S.d x _ i.x (hI4.d.below i.h) h0d J.out)
      have CI := Lib.hid cI; clear cI
      have mc := fun (i : More w4) => (bcell i.h).1
      refine wp_region_more (by kernel_rfl) (by kernel_rfl) ?_
      iterate 8 (try (first | go_big_quiet_step ((with_reducible exact CI.out _)) | quiet_step ((with_reducible exact CI.out _))))
      iterate 8 (try (first | go_big_quiet_step ((with_reducible exact CI.out _)) | quiet_step ((with_reducible exact CI.out _))))
      iterate 8 (try (first | go_big_quiet_step ((with_reducible exact CI.out _)) | quiet_step ((with_reducible exact CI.out _))))
      iterate 8 (try (first | go_big_quiet_step ((with_reducible exact CI.out _)) | quiet_step ((with_reducible exact CI.out _))))
      iterate 8 (try (first | go_big_quiet_step ((with_reducible exact CI.out _)) | quiet_step ((with_reducible exact CI.out _))))
      refine wpQuiet_nil ?_
      rintro ⟨wm, hbm⟩
      dsimp only
      have hI5 := hI4.below hbm
      have hL5 := hL4.below hbm
      have hB5 := bnext hB4 hbm
      have hC := hL5.facts
      simp only [AllC, RowC, Nat.zero_add, Nat.reduceAdd] at hC
      clear hbm mc CI
      generalize hwn : wm = w5 at *
      clear hwn
      obtain ⟨b', f', e', _, hcr⟩ := hI5.r.cells k1
      cases e'
      replace hcr := hcr k hk1
      rw [show S.r[k]?.getD 0 = x1 from E1.out] at hcr
      obtain ⟨b', f', e', _, hcs⟩ := hI5.s.cells k1
      cases e'
      replace hcs := hcs k hk1
      rw [show S.s[k]?.getD 0 = x2 from E2.out] at hcs
      go_wp2_with fail
      clear hC
      refine (Rise_ok S _ _ _ (day + S.L) _ _ hI5 HV.out (by omega) (by omega) Y1.out).mono ?_
      rintro e w6 ⟨rfl, hb⟩
      have hI6 := hI5.below hb
      have hL6 := hL5.below hb
      have hB6 := bnext hB5 hb
      have hC := hL6.facts
      simp only [AllC, RowC, Nat.zero_add, Nat.reduceAdd] at hC
      go_wp2_with fail
      clear hC
      refine (Set_ok S _ _ _ (day + S.L) _ _ hI6 HV.out (by omega) (by omega) Y2.out).mono ?_
      rintro e w7 ⟨rfl, hb⟩
      have hI7 := hI6.below hb
      have hL7 := hL6.below hb
      have hB7 := bnext hB6 hb
      have hC := hL7.facts
      simp only [AllC, RowC, Nat.zero_add, Nat.reduceAdd] at hC
      go_wp2_with fail
      clear hC
      refine (Longest_ok S _ _ _ _ _ _ hI7 HV.out O1.out O2.out).mono ?_
      rintro e w8 ⟨rfl, hb⟩
      have hI8 := hI7.below hb
      have hL8 := hL7.below hb
      have hB8 := bnext hB7 hb
      have hC := hL8.facts
      simp only [AllC, RowC, Nat.zero_add, Nat.reduceAdd] at hC
      go_wp2_with fail
      clear hC
      refine (Length_ok S _ _ _ l1 false _ _ _ hI8 HV.out (by omega) (by omega) A1.out A2.out).mono ?_
      rintro e w9 ⟨rfl, hb⟩
      have hI9 := hI8.below hb
      have hL9 := hL8.below hb
      have hB9 := bnext hB8 hb
      have hC := hL9.facts
      simp only [AllC, RowC, Nat.zero_add, Nat.reduceAdd] at hC
      go_wp2_with fail
      clear hC
      refine (Length_ok S _ _ _ l2 false _ _ _ (hI9.alloc _) HV.out (by omega) (by omega) B1.out B2.out).mono ?_
      rintro e w10 ⟨rfl, hb⟩
      have hI10 := (hI9.alloc _).below hb
      have hL10 := (hL9.cons _ _).below hb
      have hB10 := bnextA hB9 hb
      have hC := hL10.facts
      simp only [AllC, RowC, Nat.zero_add, Nat.reduceAdd] at hC
      go_wp2_with fail
      clear hC
      refine (Length_ok S _ _ _ day false _ _ _ (hI10.alloc _) HV.out d1 d2 C1.out C2.out).mono ?_
      rintro e w11 ⟨rfl, hb⟩
      have hI11 := (hI10.alloc _).below hb
      have hL11 := (hL10.cons _ _).below hb
      have hB11 := bnextA hB10 hb
      have hC := hL11.facts
      simp only [AllC, RowC, Nat.zero_add, Nat.reduceAdd] at hC
      go_wp2_with fail
      go_ret
      exact ⟨ret_bool (by first | (simp; done) | (simp; omega)), (by repeat (first | exact Below.refl _ _ | assumption | refine bthen ?_ (by assumption) | refine Below.alloc ?_ (by first | exact Nat.le_refl _ | (simp; done) | (simp; omega) | omega) _ | refine Below.setCell ?_ (by first | exact Nat.le_refl _ | (simp; done) | (simp; omega) | omega) _ | refine below_drewN ?_ _ | refine Below.drew ?_))⟩
    · go_enter Tryd.func16, Tryd.ntmps16
      go_wp2_with fail
      clear hC
      refine (sane_any _).mono ?_
      rintro e w1 ⟨rfl, hb⟩
      have hI1 := hI0.below hb
      have hL1 := hL0.below hb
      have hB1 := bnext hB0 hb
      have hC := hL1.facts
      simp only [AllC, RowC, Nat.zero_add, Nat.reduceAdd] at hC
      go_wp2_with fail
      clear hC
      refine (right_d0 S _ _ _ day _ _ hI1 HR.out).mono ?_
      rintro e w2 ⟨rfl, hb⟩
      have hI2 := hI1.below hb
      have hL2 := hL1.below hb
      have hB2 := bnext hB1 hb
      have hC := hL2.facts
      simp only [AllC, RowC, Nat.zero_add, Nat.reduceAdd] at hC
      go_wp2_with fail
      clear hC
      refine (Rise_ok S _ _ _ day _ _ hI2 HV.out d1 d2 X1.out).mono ?_
      rintro e w3 ⟨rfl, hb⟩
      have hI3 := hI2.below hb
      have hL3 := hL2.below hb
      have hB3 := bnext hB2 hb
      have hC := hL3.facts
      simp only [AllC, RowC, Nat.zero_add, Nat.reduceAdd] at hC
      go_wp2_with fail
      clear hC
      refine (Set_ok S _ _ _ day _ _ hI3 HV.out d1 d2 X2.out).mono ?_
      rintro e w4 ⟨rfl, hb⟩
      have hI4 := hI3.below hb
      have hL4 := hL3.below hb
      have hB4 := bnext hB3 hb
      have hC := hL4.facts
      simp only [AllC, RowC, Nat.zero_add, Nat.reduceAdd] at hC
      go_wp2_with fail
      refine (min_c _ _ _ _ hI4.r h0r M1.out).mono ?_
      rintro e w5 ⟨rfl, rfl⟩
      go_wp2_with fail
      refine (max_c _ _ _ _ hI4.r h0r M2.out).mono ?_
      rintro e w5 ⟨rfl, rfl⟩
      go_wp2_with fail
      refine (min_c _ _ _ _ hI4.s h0s M3.out).mono ?_
      rintro e w5 ⟨rfl, rfl⟩
      go_wp2_with fail
      refine (max_c _ _ _ _ hI4.s h0s M4.out).mono ?_
      rintro e w5 ⟨rfl, rfl⟩
      go_wp2_with fail
      have cI : ∀ i : More w4, _ := fun i => more_same (index_c _ S.d x _ i.x (hI4.d.below i.h) h0d J.out)
      have CI := Lib.hid cI; clear cI
      have mc := fun (i : More w4) => (bcell i.h).1
      refine wp_region_more (by kernel_rfl) (by kernel_rfl) ?_
      iterate 8 (try (first | go_big_quiet_step ((with_reducible exact CI.out _)) | quiet_step ((with_reducible exact CI.out _))))
      iterate 8 (try (first | go_big_quiet_step ((with_reducible exact CI.out _)) | quiet_step ((with_reducible exact CI.out _))))
      iterate 8 (try (first | go_big_quiet_step ((with_reducible exact CI.out _)) | quiet_step ((with_reducible exact CI.out _))))
      iterate 8 (try (first | go_big_quiet_step ((with_reducible exact CI.out _)) | quiet_step ((with_reducible exact CI.out _))))
      iterate 8 (try (first | go_big_quiet_step ((with_reducible exact CI.out _)) | quiet_step ((with_reducible exact CI.out _))))
      refine wpQuiet_nil ?_
      rintro ⟨wm, hbm⟩
      dsimp only
      have hI5 := hI4.below hbm
      have hL5 := hL4.below hbm
      have hB5 := bnext hB4 hbm
      have hC := hL5.facts
      simp only [AllC, RowC, Nat.zero_add, Nat.reduceAdd] at hC
      clear hbm mc CI
      generalize hwn : wm = w5 at *
      clear hwn
      obtain ⟨b', f', e', _, hcr⟩ := hI5.r.cells k1
      cases e'
      replace hcr := hcr k hk1
      rw [show S.r[k]?.getD 0 = x1 from E1.out] at hcr
      obtain ⟨b', f', e', _, hcs⟩ := hI5.s.cells k1
      cases e'
      replace hcs := hcs k hk1
      rw [show S.s[k]?.getD 0 = x2 from E2.out] at hcs
      go_wp2_with fail
      clear hC
      refine (Longest_ok S _ _ _ _ _ _ hI5 HV.out O1.out O2.out).mono ?_
      rintro e w6 ⟨rfl, hb⟩
      have hI6 := hI5.below hb
      have hL6 := hL5.below hb
      have hB6 := bnext hB5 hb
      have hC := hL6.facts
      simp only [AllC, RowC, Nat.zero_add, Nat.reduceAdd] at hC
      go_wp2_with fail
      clear hC
      refine (Length_ok S _ _ _ l1 false _ _ _ hI6 HV.out (by omega) (by omega) A1.out A2.out).mono ?_
      rintro e w7 ⟨rfl, hb⟩
      have hI7 := hI6.below hb
      have hL7 := hL6.below hb
      have hB7 := bnext hB6 hb
      have hC := hL7.facts
      simp only [AllC, RowC, Nat.zero_add, Nat.reduceAdd] at hC
      go_wp2_with fail
      clear hC
      refine (Length_ok S _ _ _ l2 false _ _ _ (hI7.alloc _) HV.out (by omega) (by omega) B1.out B2.out).mono ?_
      rintro e w8 ⟨rfl, hb⟩
      have hI8 := (hI7.alloc _).below hb
      have hL8 := (hL7.cons _ _).below hb
      have hB8 := bnextA hB7 hb
      have hC := hL8.facts
      simp only [AllC, RowC, Nat.zero_add, Nat.reduceAdd] at hC
      go_wp2_with fail
      clear hC
      refine (Length_ok S _ _ _ day false _ _ _ (hI8.alloc _) HV.out d1 d2 C1.out C2.out).mono ?_
      rintro e w9 ⟨rfl, hb⟩
      have hI9 := (hI8.alloc _).below hb
      have hL9 := (hL8.cons _ _).below hb
      have hB9 := bnextA hB8 hb
      have hC := hL9.facts
      simp only [AllC, RowC, Nat.zero_add, Nat.reduceAdd] at hC
      go_wp2_with fail
      go_ret
      exact ⟨ret_bool (by first | (simp; done) | (simp; omega)), (by repeat (first | exact Below.refl _ _ | assumption | refine bthen ?_ (by assumption) | refine Below.alloc ?_ (by first | exact Nat.le_refl _ | (simp; done) | (simp; omega) | omega) _ | refine Below.setCell ?_ (by first | exact Nat.le_refl _ | (simp; done) | (simp; omega) | omega) _ | refine below_drewN ?_ _ | refine Below.drew ?_))⟩
  · have J := Lib.hid hj
    clear hj
    obtain ⟨j, hj⟩ : ∃ j : Int, (-1 : Int) = j := ⟨_, rfl⟩
    rw [hj] at J
    have hj0 : j < 0 := by omega
    clear hj
    by_cases hdl : day + S.L ≤ 11000
    · go_enter Tryd.func16, Tryd.ntmps16
      go_wp2_with fail
      clear hC
      refine (sane_any _).mono ?_
      rintro e w1 ⟨rfl, hb⟩
      have hI1 := hI0.below hb
      have hL1 := hL0.below hb
      have hB1 := bnext hB0 hb
      have hC := hL1.facts
      simp only [AllC, RowC, Nat.zero_add, Nat.reduceAdd] at hC
      go_wp2_with fail
      clear hC
      refine (right_d0 S _ _ _ day _ _ hI1 HR.out).mono ?_
      rintro e w2 ⟨rfl, hb⟩
      have hI2 := hI1.below hb
      have hL2 := hL1.below hb
      have hB2 := bnext hB1 hb
      have hC := hL2.facts
      simp only [AllC, RowC, Nat.zero_add, Nat.reduceAdd] at hC
      go_wp2_with fail
      clear hC
      refine (Rise_ok S _ _ _ day _ _ hI2 HV.out d1 d2 X1.out).mono ?_
      rintro e w3 ⟨rfl, hb⟩
      have hI3 := hI2.below hb
      have hL3 := hL2.below hb
      have hB3 := bnext hB2 hb
      have hC := hL3.facts
      simp only [AllC, RowC, Nat.zero_add, Nat.reduceAdd] at hC
      go_wp2_with fail
      clear hC
      refine (Set_ok S _ _ _ day _ _ hI3 HV.out d1 d2 X2.out).mono ?_
      rintro e w4 ⟨rfl, hb⟩
      have hI4 := hI3.below hb
      have hL4 := hL3.below hb
      have hB4 := bnext hB3 hb
      have hC := hL4.facts
      simp only [AllC, RowC, Nat.zero_add, Nat.reduceAdd] at hC
      go_wp2_with fail
      refine (min_c _ _ _ _ hI4.r h0r M1.out).mono ?_
      rintro e w5 ⟨rfl, rfl⟩
      go_wp2_with fail
      refine (max_c _ _ _ _ hI4.r h0r M2.out).mono ?_
      rintro e w5 ⟨rfl, rfl⟩
      go_wp2_with fail
      refine (min_c _ _ _ _ hI4.s h0s M3.out).mono ?_
      rintro e w5 ⟨rfl, rfl⟩
      go_wp2_with fail
      refine (max_c _ _ _ _ hI4.s h0s M4.out).mono ?_
      rintro e w5 ⟨rfl, rfl⟩
      go_wp2_with fail
      have cI : ∀ i : More w4, _ := fun i => more_same (index_c _ S.d x _ i.x (hI4.d.below i.h) h0d J.out)
      have CI := Lib.hid cI; clear cI
      have mc := fun (i : More w4) => (bcell i.h).1
      refine wp_region_more (by kernel_rfl) (by kernel_rfl) ?_
      iterate 8 (try (first | go_big_quiet_step ((with_reducible exact CI.out _)) | quiet_step ((with_reducible exact CI.out _))))
      iterate 8 (try (first | go_big_quiet_step ((with_reducible exact CI.out _)) | quiet_step ((with_reducible exact CI.out _))))
      iterate 8 (try (first | go_big_quiet_step ((with_reducible exact CI.out _)) | quiet_step ((with_reducible exact CI.out _))))
      iterate 8 (try (first | go_big_quiet_step ((with_reducible exact CI.out _)) | quiet_step ((with_reducible exact CI.out _))))
      iterate 8 (try (first | go_big_quiet_step ((with_reducible exact CI.out _)) | quiet_step ((with_reducible exact CI.out _))))
      refine wpQuiet_nil ?_
      rintro ⟨wm, hbm⟩
      dsimp only
      have hI5 := hI4.below hbm
      have hL5 := hL4.below hbm
      have hB5 := bnext hB4 hbm
      have hC := hL5.facts
      simp only [AllC, RowC, Nat.zero_add, Nat.reduceAdd] at hC
      clear hbm mc CI
      generalize hwn : wm = w5 at *
      clear hwn
      skip
      go_wp2_with fail
      clear hC
      refine (Rise_ok S _ _ _ (day + S.L) _ _ hI5 HV.out (by omega) (by omega) Y1.out).mono ?_
      rintro e w6 ⟨rfl, hb⟩
      have hI6 := hI5.below hb
      have hL6 := hL5.below hb
      have hB6 := bnext hB5 hb
      have hC := hL6.facts
      simp only [AllC, RowC, Nat.zero_add, Nat.reduceAdd] at hC
      go_wp2_with fail
      clear hC
      refine (Set_ok S _ _ _ (day + S.L) _ _ hI6 HV.out (by omega) (by omega) Y2.out).mono ?_
      rintro e w7 ⟨rfl, hb⟩
      have hI7 := hI6.below hb
      have hL7 := hL6.below hb
      have hB7 := bnext hB6 hb
      have hC := hL7.facts
      simp only [AllC, RowC, Nat.zero_add, Nat.reduceAdd] at hC
      go_wp2_with fail
      clear hC
      refine (Longest_ok S _ _ _ _ _ _ hI7 HV.out O1.out O2.out).mono ?_
      rintro e w8 ⟨rfl, hb⟩
      have hI8 := hI7.below hb
      have hL8 := hL7.below hb
      have hB8 := bnext hB7 hb
      have hC := hL8.facts
      simp only [AllC, RowC, Nat.zero_add, Nat.reduceAdd] at hC
      go_wp2_with fail
      clear hC
      refine (Length_ok S _ _ _ l1 false _ _ _ hI8 HV.out (by omega) (by omega) A1.out A2.out).mono ?_
      rintro e w9 ⟨rfl, hb⟩
      have hI9 := hI8.below hb
      have hL9 := hL8.below hb
      have hB9 := bnext hB8 hb
      have hC := hL9.facts
      simp only [AllC, RowC, Nat.zero_add, Nat.reduceAdd] at hC
      go_wp2_with fail
      clear hC
      refine (Length_ok S _ _ _ l2 false _ _ _ (hI9.alloc _) HV.out (by omega) (by omega) B1.out B2.out).mono ?_
      rintro e w10 ⟨rfl, hb⟩
      have hI10 := (hI9.alloc _).below hb
      have hL10 := (hL9.cons _ _).below hb
      have hB10 := bnextA hB9 hb
      have hC := hL10.facts
      simp only [AllC, RowC, Nat.zero_add, Nat.reduceAdd] at hC
      go_wp2_with fail
      clear hC
      refine (Length_ok S _ _ _ day false _ _ _ (hI10.alloc _) HV.out d1 d2 C1.out C2.out).mono ?_
      rintro e w11 ⟨rfl, hb⟩
      have hI11 := (hI10.alloc _).below hb
      have hL11 := (hL10.cons _ _).below hb
      have hB11 := bnextA hB10 hb
      have hC := hL11.facts
      simp only [AllC, RowC, Nat.zero_add, Nat.reduceAdd] at hC
      go_wp2_with fail
      go_ret
      exact ⟨ret_bool (by first | (simp; done) | (simp; omega)), (by repeat (first | exact Below.refl _ _ | assumption | refine bthen ?_ (by assumption) | refine Below.alloc ?_ (by first | exact Nat.le_refl _ | (simp; done) | (simp; omega) | omega) _ | refine Below.setCell ?_ (by first | exact Nat.le_refl _ | (simp; done) | (simp; omega) | omega) _ | refine below_drewN ?_ _ | refine Below.drew ?_))⟩
    · go_enter Tryd.func16, Tryd.ntmps16
      go_wp2_with fail
      clear hC
      refine (sane_any _).mono ?_
      rintro e w1 ⟨rfl, hb⟩
      have hI1 := hI0.below hb
      have hL1 := hL0.below hb
      have hB1 := bnext hB0 hb
      have hC := hL1.facts
      simp only [AllC, RowC, Nat.zero_add, Nat.reduceAdd] at hC
      go_wp2_with fail
      clear hC
      refine (right_d0 S _ _ _ day _ _ hI1 HR.out).mono ?_
      rintro e w2 ⟨rfl, hb⟩
      have hI2 := hI1.below hb
      have hL2 := hL1.below hb
      have hB2 := bnext hB1 hb
      have hC := hL2.facts
      simp only [AllC, RowC, Nat.zero_add, Nat.reduceAdd] at hC
      go_wp2_with fail
      clear hC
      refine (Rise_ok S _ _ _ day _ _ hI2 HV.out d1 d2 X1.out).mono ?_
      rintro e w3 ⟨rfl, hb⟩
      have hI3 := hI2.below hb
      have hL3 := hL2.below hb
      have hB3 := bnext hB2 hb
      have hC := hL3.facts
      simp only [AllC, RowC, Nat.zero_add, Nat.reduceAdd] at hC
      go_wp2_with fail
      clear hC
      refine (Set_ok S _ _ _ day _ _ hI3 HV.out d1 d2 X2.out).mono ?_
      rintro e w4 ⟨rfl, hb⟩
      have hI4 := hI3.below hb
      have hL4 := hL3.below hb
      have hB4 := bnext hB3 hb
      have hC := hL4.facts
      simp only [AllC, RowC, Nat.zero_add, Nat.reduceAdd] at hC
      go_wp2_with fail
      refine (min_c _ _ _ _ hI4.r h0r M1.out).mono ?_
      rintro e w5 ⟨rfl, rfl⟩
      go_wp2_with fail
      refine (max_c _ _ _ _ hI4.r h0r M2.out).mono ?_
      rintro e w5 ⟨rfl, rfl⟩
      go_wp2_with fail
      refine (min_c _ _ _ _ hI4.s h0s M3.out).mono ?_
      rintro e w5 ⟨rfl, rfl⟩
      go_wp2_with fail
      refine (max_c _ _ _ _ hI4.s h0s M4.out).mono ?_
      rintro e w5 ⟨rfl, rfl⟩
      go_wp2_with fail
      have cI : ∀ i : More w4, _ := fun i => more_same (index_c _ S.d x _ i.x (hI4.d.below i.h) h0d J.out)
      have CI := Lib.hid cI; clear cI
      have mc := fun (i : More w4) => (bcell i.h).1
      refine wp_region_more (by kernel_rfl) (by kernel_rfl) ?_
      iterate 8 (try (first | go_big_quiet_step ((with_reducible exact CI.out _)) | quiet_step ((with_reducible exact CI.out _))))
      iterate 8 (try (first | go_big_quiet_step ((with_reducible exact CI.out _)) | quiet_step ((with_reducible exact CI.out _))))
      iterate 8 (try (first | go_big_quiet_step ((with_reducible exact CI.out _)) | quiet_step ((with_reducible exact CI.out _))))
      iterate 8 (try (first | go_big_quiet_step ((with_reducible exact CI.out _)) | quiet_step ((with_reducible exact CI.out _))))
      iterate 8 (try (first | go_big_quiet_step ((with_reducible exact CI.out _)) | quiet_step ((with_reducible exact CI.out _))))
      refine wpQuiet_nil ?_
      rintro ⟨wm, hbm⟩
      dsimp only
      have hI5 := hI4.below hbm
      have hL5 := hL4.below hbm
      have hB5 := bnext hB4 hbm
      have hC := hL5.facts
      simp only [AllC, RowC, Nat.zero_add, Nat.reduceAdd] at hC
      clear hbm mc CI
      generalize hwn : wm = w5 at *
      clear hwn
      skip
      go_wp2_with fail
      clear hC
      refine (Longest_ok S _ _ _ _ _ _ hI5 HV.out O1.out O2.out).mono ?_
      rintro e w6 ⟨rfl, hb⟩
      have hI6 := hI5.below hb
      have hL6 := hL5.below hb
      have hB6 := bnext hB5 hb
      have hC := hL6.facts
      simp only [AllC, RowC, Nat.zero_add, Nat.reduceAdd] at hC
      go_wp2_with fail
      clear hC
      refine (Length_ok S _ _ _ l1 false _ _ _ hI6 HV.out (by omega) (by omega) A1.out A2.out).mono ?_
      rintro e w7 ⟨rfl, hb⟩
      have hI7 := hI6.below hb
      have hL7 := hL6.below hb
      have hB7 := bnext hB6 hb
      have hC := hL7.facts
      simp only [AllC, RowC, Nat.zero_add, Nat.reduceAdd] at hC
      go_wp2_with fail
      clear hC
      refine (Length_ok S _ _ _ l2 false _ _ _ (hI7.alloc _) HV.out (by omega) (by omega) B1.out B2.out).mono ?_
      rintro e w8 ⟨rfl, hb⟩
      have hI8 := (hI7.alloc _).below hb
      have hL8 := (hL7.cons _ _).below hb
      have hB8 := bnextA hB7 hb
      have hC := hL8.facts
      simp only [AllC, RowC, Nat.zero_add, Nat.reduceAdd] at hC
      go_wp2_with fail
      clear hC
      refine (Length_ok S _ _ _ day false _ _ _ (hI8.alloc _) HV.out d1 d2 C1.out C2.out).mono ?_
      rintro e w9 ⟨rfl, hb⟩
      have hI9 := (hI8.alloc _).below hb
      have hL9 := (hL8.cons _ _).below hb
      have hB9 := bnextA hB8 hb
      have hC := hL9.facts
      simp only [AllC, RowC, Nat.zero_add, Nat.reduceAdd] at hC
      go_wp2_with fail
      go_ret
      exact ⟨ret_bool (by first | (simp; done) | (simp; omega)), (by repeat (first | exact Below.refl _ _ | assumption | refine bthen ?_ (by assumption) | refine Below.alloc ?_ (by first | exact Nat.le_refl _ | (simp; done) | (simp; omega) | omega) _ | refine Below.setCell ?_ (by first | exact Nat.le_refl _ | (simp; done) | (simp; omega) | omega) _ | refine below_drewN ?_ _ | refine Below.drew ?_))⟩
end Go.Proofs.YtpjnlcdmbkbfcaaDoor
