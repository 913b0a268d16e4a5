/- Walk of Longest: a loop over the days of a year. -/
import Derived.Test.YtpjnlcdmbkbfcaaDoorH11
import Derived.Test.YtpjnlcdmbkbfcaaDoorRF
namespace Go.Proofs.YtpjnlcdmbkbfcaaDoor
open Go.ChangeShapes Go.WideShapes Go.ChangeAt Go.RowKit Go.BigFrame Go.Shelf
attribute [local go_sem] Oper.semAt_some

/-- The light of a day. -/
def lit (S : Sea) (day : Int) : Int := las S day false
theorem light_any (S : Sea) (vd vr vs : Value) (b : Nat) (day : Int) (w : World) (hv : vld S = true) (hI : SeaIn w vd vr vs S) (d1 : 0 ≤ day) (d2 : day ≤ 90000) (hb : b < w.heap.size)
    (c0 : w.cell? ⟨b, 0, none⟩ = some (.int .i64 S.L)) (c1 : w.cell? ⟨b, 1, none⟩ = some vd) (c2 : w.cell? ⟨b, 2, none⟩ = some vr) (c3 : w.cell? ⟨b, 3, none⟩ = some vs) :
    Calls Tryd.prog 88 #[.int .i64 day, .pointer (some ⟨b, 0, none⟩)] w fun e w' => e = .returned (.int .i64 (lit S day)) ∧ Below w.heap.size w w' := by
  have HV := Lib.hid hv; clear hv
  have mc := @more_cell w
  have cr : ∀ i : More w, _ := fun i => more_call (at_r S vd vr vs day _ HV.out (hI.below i.h) (by omega) (by omega))
  have cs : ∀ i : More w, _ := fun i => more_call (at_s S vd vr vs day _ HV.out (hI.below i.h) (by omega) (by omega))
  have CR := Lib.hid cr; clear cr
  have CS := Lib.hid cs; clear cs
  have b1 := lnR_bd HV.out day
  have b2 := lnS_bd HV.out day
  obtain ⟨od, nd, cd, rfl, ld, md⟩ := hI.d.parts
  obtain ⟨or_, nr, cr, rfl, lr, mr⟩ := hI.r.parts
  obtain ⟨os, ns, cs, rfl, ls, ms⟩ := hI.s.parts
  go_enter Tryd.func88, Tryd.ntmps88
  go_wp2_with fail
  refine wp_region_more (by kernel_rfl) (by kernel_rfl) ?_
  iterate 8 (try (first | go_big_quiet_step ((first | with_reducible exact CS.out _ | with_reducible exact CR.out _)) | quiet_step ((first | with_reducible exact CS.out _ | with_reducible exact CR.out _))))
  iterate 8 (try (first | go_big_quiet_step ((first | with_reducible exact CS.out _ | with_reducible exact CR.out _)) | quiet_step ((first | with_reducible exact CS.out _ | with_reducible exact CR.out _))))
  iterate 8 (try (first | go_big_quiet_step ((first | with_reducible exact CS.out _ | with_reducible exact CR.out _)) | quiet_step ((first | with_reducible exact CS.out _ | with_reducible exact CR.out _))))
  iterate 8 (try (first | go_big_quiet_step ((first | with_reducible exact CS.out _ | with_reducible exact CR.out _)) | quiet_step ((first | with_reducible exact CS.out _ | with_reducible exact CR.out _))))
  iterate 8 (try (first | go_big_quiet_step ((first | with_reducible exact CS.out _ | with_reducible exact CR.out _)) | quiet_step ((first | with_reducible exact CS.out _ | with_reducible exact CR.out _))))
  refine wpQuiet_nil ?_
  rintro ⟨wm, hbm⟩
  dsimp only
  go_wp2_with fail
  go_ret
  exact ⟨ret_int (by simp [lit, las]), hbm⟩
theorem ret_3 {a b c a' b' c' : Int} (h1 : a = a') (h2 : b = b') (h3 : c = c') : Ending.returned (.tuple #[.int .i64 a, .int .i64 b, .int .i64 c]) = .returned (.tuple #[.int .i64 a', .int .i64 b', .int .i64 c']) := by rw [h1, h2, h3]
def lonD (S : Sea) : Int := lonF (lit S) (S.L - 1).toNat
def shoD (S : Sea) : Int := shoF (lit S) (S.L - 1).toNat
/-- The loop's two results behind some rounds. -/
def lonL (f : Int → Int) (N : Nat) (pre : List Nat) : Int := pre.foldl (fun l j => if f l < f (dy 0 N j) then dy 0 N j else l) 0
def shoL (f : Int → Int) (N : Nat) (pre : List Nat) : Int := pre.foldl (fun l j => if f (dy 0 N j) < f l then dy 0 N j else l) 0
theorem lonL_snoc (f : Int → Int) (N : Nat) (pre : List Nat) (j : Nat) : lonL f N (pre ++ [j]) = if f (lonL f N pre) < f (dy 0 N j) then dy 0 N j else lonL f N pre := by unfold lonL; rw [List.foldl_append]; rfl
theorem shoL_snoc (f : Int → Int) (N : Nat) (pre : List Nat) (j : Nat) : shoL f N (pre ++ [j]) = if f (dy 0 N j) < f (shoL f N pre) then dy 0 N j else shoL f N pre := by unfold shoL; rw [List.foldl_append]; rfl
theorem lonL_range (f : Int → Int) (N : Nat) : ∀ k, k ≤ N → lonL f N (List.range k) = lonF f (k - 1) := by
  intro k
  induction k with
  | zero => intro _; rfl
  | succ k ih =>
    intro h
    rw [List.range_succ, lonL_snoc, ih (by omega), dy_lt (by omega)]
    cases k with
    | zero => simp [lonF]
    | succ k => simp [lonF]
theorem shoL_range (f : Int → Int) (N : Nat) : ∀ k, k ≤ N → shoL f N (List.range k) = shoF f (k - 1) := by
  intro k
  induction k with
  | zero => intro _; rfl
  | succ k ih =>
    intro h
    rw [List.range_succ, shoL_snoc, ih (by omega), dy_lt (by omega)]
    cases k with
    | zero => simp [shoF]
    | succ k => simp [shoF]
theorem scan_bd {N : Nat} (hN : 0 < N) (g : Int → Int → Bool) (pre : List Nat) : ∀ l : Int, 0 ≤ l → l < N → 0 ≤ pre.foldl (fun l j => if g l (dy 0 N j) then dy 0 N j else l) l ∧ pre.foldl (fun l j => if g l (dy 0 N j) then dy 0 N j else l) l < N := by
  induction pre with
  | nil => intro l h0 h1; exact ⟨h0, h1⟩
  | cons j pre ih =>
    intro l h0 h1
    have := dy_bd (a := 0) hN j
    simp only [List.foldl_cons]
    split
    · exact ih _ (by omega) (by omega)
    · exact ih _ h0 h1
theorem lonL_bd (f : Int → Int) {N : Nat} (hN : 0 < N) (pre : List Nat) : 0 ≤ lonL f N pre ∧ lonL f N pre < N := by
  have := scan_bd hN (fun l d => decide (f l < f d)) pre 0 (by omega) (by omega)
  simpa [lonL] using this
theorem shoL_bd (f : Int → Int) {N : Nat} (hN : 0 < N) (pre : List Nat) : 0 ≤ shoL f N pre ∧ shoL f N pre < N := by
  have := scan_bd hN (fun l d => decide (f d < f l)) pre 0 (by omega) (by omega)
  simpa [shoL] using this

abbrev lightV (b : Nat) : Value := .func (.func 88) #[] #[.pointer (some ⟨b, 0, none⟩)]
set_option maxHeartbeats 2000000 in
theorem Longest_any (S : Sea) (vd vr vs : Value) (w : World) (hI : SeaIn w vd vr vs S) :
    Calls Tryd.prog 32 #[.agg #[.int .i64 S.L, vd, vr, vs]] w fun e w' => e = .returned (.tuple #[.int .i64 (gv (vld S) (lonD S)), .int .i64 (gv (vld S) (shoD S)), .int .i64 (chk S)]) ∧ Below w.heap.size w w' := by
  have hI1 := hI.alloc (seaO S vd vr vs)
  rcases bool_ft (vld S) with hv | hv
  · have hc := chk_no hv
    have hG := Lib.hid hv
    clear hv
    go_enter Tryd.func32, Tryd.ntmps32
    go_wp2_with fail
    refine (Check_any S _ _ _ _ hI1.d hI1.r hI1.s).mono ?_
    rintro e w1 ⟨rfl, hb1⟩
    rw [hc]
    go_wp2_with fail
    refine bodyPost_ret (v := .tuple #[.int .i64 0, .int .i64 0, .int .i64 50]) (by simp [results, Tryd.results32, go_sem]) rfl ⟨ret_3 (by rw [hG.out]; rfl) (by rw [hG.out]; rfl) hc.symm, ?_⟩
    exact (by repeat (first | exact Below.refl _ _ | assumption | refine bthen ?_ (by assumption) | refine Below.alloc ?_ (by first | exact Nat.le_refl _ | (simp; done) | (simp; omega) | omega) _ | refine Below.setCell ?_ (by first | exact Nat.le_refl _ | (simp; done) | (simp; omega) | omega) _ | refine below_drewN ?_ _ | refine Below.drew ?_))
  · have hc := chk_ok hv
    have v := (vld_iff S).1 hv
    have hL := v.L1
    have hL' := v.L2
    have HV := Lib.hid hv
    clear v hv
    refine (callsIn_wide (n := 5)).1 ?_
    refine callsIn_of_wp_marks Tryd.func32 rfl trivial ?_ rfl
    simp only [Tryd.ntmps32, List.size_toArray, List.length_cons, List.length_nil, Nat.reduceAdd, Nat.reduceSub, Array.replicate_succ, Array.replicate_zero, List.push_toArray, List.append_toArray, List.nil_append, List.cons_append]
    gi_wp2_with fail
    refine ⟨trivial, callsIn_wide.2 ((Check_any S _ _ _ _ hI1.d hI1.r hI1.s).mono ?_)⟩
    rintro e w1 ⟨rfl, hb1⟩
    rw [hc]
    obtain ⟨hc1, hf1⟩ := bcell hb1
    have hs1 : w.heap.size < w1.heap.size := by have := hb1.size; simp at this; omega
    have hs2 : w.heap.size < w1.heap.size + 1 := by omega
    have hs3 : w.heap.size < w1.heap.size + 1 + 1 := by omega
    gi_wp2_with fail
    refine ⟨trivial, callsIn_wide.2 ((days_any _ _ _).mono ?_)⟩
    rintro e w2 ⟨rfl, rfl⟩
    gi_wp2_with fail
    obtain ⟨N, hN⟩ : ∃ N, (S.L - 1 + 1 - 0).toNat = N := ⟨_, rfl⟩
    have hN0 : 0 < N := by omega
    have hNL : (N : Int) = S.L := by omega
    refine wpIn_days (w1.heap.size + 1 + 1 + 1) (w1.heap.size + 1 + 1 + 1 + 1) 0 (S.L - 1) N (q := 9) (by simp [Act.eval]) (by omega) (by omega) (by omega) hN (by simp) (by simp) (by simp [go_sem]) (by simp [go_sem])
      (fun pre W => (Held W w1.heap.size (lightV w.heap.size) ∧ Held W (w1.heap.size + 1) (.int .i64 (lonL (lit S) N pre)) ∧ Held W (w1.heap.size + 1 + 1) (.int .i64 (shoL (lit S) N pre)) ∧ Held W (w1.heap.size + 1 + 1 + 1 + 1) (.int .i64 (S.L - 1))) ∧ Below w1.heap.size w1 W)
      (fun _ _ _ => False)
      (OwnFrom.and (OwnFrom.and (held_own _ _ (fun _ => lightV w.heap.size)) (OwnFrom.and (held_own _ _ (fun pre => .int .i64 (lonL (lit S) N pre))) (OwnFrom.and (held_own _ _ (fun pre => .int .i64 (shoL (lit S) N pre))) (held_own _ _ (fun _ => .int .i64 (S.L - 1)))))) (ownFrom_below (Nat.le_refl _) (by simp; omega)))
      (fun _ _ _ _ _ hs _ _ => hs) ⟨⟨⟨by simp [go_sem], by simp [go_sem]⟩, ⟨by simp [go_sem, lonL], by simp [go_sem]⟩, ⟨by simp [go_sem, shoL], by simp [go_sem]⟩, ⟨by simp [go_sem], by simp [go_sem]⟩⟩, (by repeat (first | exact Below.refl _ _ | assumption | refine bthen ?_ (by assumption) | refine Below.alloc ?_ (by first | exact Nat.le_refl _ | (simp; done) | (simp; omega) | omega) _ | refine Below.setCell ?_ (by first | exact Nat.le_refl _ | (simp; done) | (simp; omega) | omega) _ | refine below_drewN ?_ _ | refine Below.drew ?_))⟩ ?assign ?body ?done ?stop
    case assign =>
      intro l j W K hK
      simp only [List.setIfInBounds_toArray, List.set_cons_succ, List.set_cons_zero] at hK ⊢
      gi_wp2
      exact hK
    case body =>
      rintro l pre j W ⟨⟨hF, hA, hZ, hT⟩, hB⟩ _
      simp only [List.setIfInBounds_toArray, List.set_cons_succ, List.set_cons_zero]
      have LM : ∀ W, Below w1.heap.size w1 W → ∀ d : Int, 0 ≤ d → d ≤ 90000 → ∀ i : More W, _ := fun W hb d d0 d1 i => more_call (light_any S vd vr vs w.heap.size d i.x HV.out ((hI1.below hb1).below (bthen hb i.h)) d0 d1 (Nat.lt_of_lt_of_le (Nat.lt_of_lt_of_le hs1 hb.size) i.h.size)
        (((bcell (bthen hb i.h)).1 _ _ hs1).trans (by simp [hc1, go_sem])) (((bcell (bthen hb i.h)).1 _ _ hs1).trans (by simp [hc1, go_sem])) (((bcell (bthen hb i.h)).1 _ _ hs1).trans (by simp [hc1, go_sem])) (((bcell (bthen hb i.h)).1 _ _ hs1).trans (by simp [hc1, go_sem])))
      have LMH := Lib.hid LM; clear LM
      have SA := Lib.hid (lonL_snoc (lit S) N pre j)
      have SZ := Lib.hid (shoL_snoc (lit S) N pre j)
      obtain ⟨a1, a2⟩ := lonL_bd (lit S) hN0 pre
      obtain ⟨z1, z2⟩ := shoL_bd (lit S) hN0 pre
      obtain ⟨e1, e2⟩ := dy_bd (a := 0) hN0 j
      generalize hld : dy 0 N j = D at *
      generalize lonL (lit S) N pre = A at *
      generalize shoL (lit S) N pre = Z at *
      clear hld
      have lD := las_bd HV.out D false
      have lA := las_bd HV.out A false
      have lZ := las_bd HV.out Z false
      change 40 ≤ lit S D ∧ _ at lD
      change 40 ≤ lit S A ∧ _ at lA
      change 40 ≤ lit S Z ∧ _ at lZ
      by_cases hx : lit S A < lit S D
      · have CD := Lib.hid (LMH.out W hB D e1 (by omega))
        have CA := Lib.hid (LMH.out W hB A a1 (by omega))
        have hF1 := hF.1
        have hA1 := hA.1
        have hF3 := hF.lt
        have hA3 := hA.lt
        have mc := @more_cell W
        gi_wp2_with fail
        refine wpIn_region_more (by kernel_rfl) (by kernel_rfl) (by kernel_rfl) ?_
        iterate 8 (try (first | go_big_quiet_step ((first | with_reducible exact CD.out _ | with_reducible exact CA.out _)) | quiet_step ((first | with_reducible exact CD.out _ | with_reducible exact CA.out _))))
        iterate 8 (try (first | go_big_quiet_step ((first | with_reducible exact CD.out _ | with_reducible exact CA.out _)) | quiet_step ((first | with_reducible exact CD.out _ | with_reducible exact CA.out _))))
        iterate 8 (try (first | go_big_quiet_step ((first | with_reducible exact CD.out _ | with_reducible exact CA.out _)) | quiet_step ((first | with_reducible exact CD.out _ | with_reducible exact CA.out _))))
        iterate 8 (try (first | go_big_quiet_step ((first | with_reducible exact CD.out _ | with_reducible exact CA.out _)) | quiet_step ((first | with_reducible exact CD.out _ | with_reducible exact CA.out _))))
        iterate 8 (try (first | go_big_quiet_step ((first | with_reducible exact CD.out _ | with_reducible exact CA.out _)) | quiet_step ((first | with_reducible exact CD.out _ | with_reducible exact CA.out _))))
        refine wpQuiet_nil ?_
        rintro ⟨wm, hbm⟩
        dsimp only
        clear CD CA mc hF1 hA1 hF3 hA3
        have Fm := hF.below hbm hF.lt
        have Am := hA.below hbm hA.lt
        have Zm := hZ.below hbm hZ.lt
        have Tm := hT.below hbm hT.lt
        have Bm := bthen hB hbm
        have Km := Kpb.below hbm hT.lt
        have Om := others_of_below hbm
        have hA1 := Am.1
        have hA2 := Am.2
        clear hF hA hZ hT hB hbm
        gi_wp2_with fail
        gi_wp2_with fail
        have A2 := Am.set (.int .i64 D)
        have F2 := Fm.other (p := ⟨w1.heap.size + 1, 0, none⟩) (by dsimp only; omega) (.int .i64 D)
        have Z2 := Zm.other (p := ⟨w1.heap.size + 1, 0, none⟩) (by dsimp only; omega) (.int .i64 D)
        have T2 := Tm.other (p := ⟨w1.heap.size + 1, 0, none⟩) (by dsimp only; omega) (.int .i64 D)
        have B2 := Bm.setCell (p := ⟨w1.heap.size + 1, 0, none⟩) (by dsimp only; omega) (.int .i64 D)
        have K2 := Km.setCell (p := ⟨w1.heap.size + 1, 0, none⟩) (by dsimp only; omega) (.int .i64 D)
        have O2 := Om.trans (KeepsOthers.setCell wm ⟨w1.heap.size + 1, 0, none⟩ (.int .i64 D))
        have EA := SA.out
        rw [if_pos (by omega)] at EA
        have EA := Lib.hid EA
        clear SA Am Fm Zm Tm Bm Km Om
        generalize wm.setCell ⟨w1.heap.size + 1, 0, none⟩ (.int .i64 D) = W2 at *
        have CD := Lib.hid (LMH.out W2 B2 D e1 (by omega))
        have CZ := Lib.hid (LMH.out W2 B2 Z z1 (by omega))
        have hF1 := F2.1
        have hZ1 := Z2.1
        have hF3 := F2.lt
        have hZ3 := Z2.lt
        have mc := @more_cell W2
        by_cases hy : lit S D < lit S Z
        · refine wpIn_region_more (by kernel_rfl) (by kernel_rfl) (by kernel_rfl) ?_
          iterate 8 (try (first | go_big_quiet_step ((first | with_reducible exact CD.out _ | with_reducible exact CZ.out _)) | quiet_step ((first | with_reducible exact CD.out _ | with_reducible exact CZ.out _))))
          iterate 8 (try (first | go_big_quiet_step ((first | with_reducible exact CD.out _ | with_reducible exact CZ.out _)) | quiet_step ((first | with_reducible exact CD.out _ | with_reducible exact CZ.out _))))
          iterate 8 (try (first | go_big_quiet_step ((first | with_reducible exact CD.out _ | with_reducible exact CZ.out _)) | quiet_step ((first | with_reducible exact CD.out _ | with_reducible exact CZ.out _))))
          iterate 8 (try (first | go_big_quiet_step ((first | with_reducible exact CD.out _ | with_reducible exact CZ.out _)) | quiet_step ((first | with_reducible exact CD.out _ | with_reducible exact CZ.out _))))
          iterate 8 (try (first | go_big_quiet_step ((first | with_reducible exact CD.out _ | with_reducible exact CZ.out _)) | quiet_step ((first | with_reducible exact CD.out _ | with_reducible exact CZ.out _))))
          refine wpQuiet_nil ?_
          rintro ⟨wm, hbm⟩
          dsimp only
          have hZm := Z2.below hbm Z2.lt
          have hZ4 := hZm.1
          have hZ5 := hZm.2
          have EZ := SZ.out
          rw [if_pos (by omega)] at EZ
          have EZ := Lib.hid EZ
          gi_wp2_with fail
          exact ⟨(O2.trans (others_of_below hbm)).trans (KeepsOthers.setCell _ _ _), (K2.trans (Kpb.below hbm T2.lt)).setCell (by dsimp only; omega) _,
            ⟨(F2.below hbm F2.lt).other (by dsimp only; omega) _, by rw [EA.out]; exact (A2.below hbm A2.lt).other (by dsimp only; omega) _, by rw [EZ.out]; exact hZm.set _, (T2.below hbm T2.lt).other (by dsimp only; omega) _⟩, (bthen B2 hbm).setCell (by dsimp only; omega) _⟩
        · refine wpIn_region_more (by kernel_rfl) (by kernel_rfl) (by kernel_rfl) ?_
          iterate 8 (try (first | go_big_quiet_step ((first | with_reducible exact CD.out _ | with_reducible exact CZ.out _)) | quiet_step ((first | with_reducible exact CD.out _ | with_reducible exact CZ.out _))))
          iterate 8 (try (first | go_big_quiet_step ((first | with_reducible exact CD.out _ | with_reducible exact CZ.out _)) | quiet_step ((first | with_reducible exact CD.out _ | with_reducible exact CZ.out _))))
          iterate 8 (try (first | go_big_quiet_step ((first | with_reducible exact CD.out _ | with_reducible exact CZ.out _)) | quiet_step ((first | with_reducible exact CD.out _ | with_reducible exact CZ.out _))))
          iterate 8 (try (first | go_big_quiet_step ((first | with_reducible exact CD.out _ | with_reducible exact CZ.out _)) | quiet_step ((first | with_reducible exact CD.out _ | with_reducible exact CZ.out _))))
          iterate 8 (try (first | go_big_quiet_step ((first | with_reducible exact CD.out _ | with_reducible exact CZ.out _)) | quiet_step ((first | with_reducible exact CD.out _ | with_reducible exact CZ.out _))))
          refine wpQuiet_nil ?_
          rintro ⟨wm, hbm⟩
          dsimp only
          have EZ := SZ.out
          rw [if_neg (by omega)] at EZ
          have EZ := Lib.hid EZ
          gi_wp2_with fail
          exact ⟨O2.trans (others_of_below hbm), K2.trans (Kpb.below hbm T2.lt),
            ⟨F2.below hbm F2.lt, by rw [EA.out]; exact A2.below hbm A2.lt, by rw [EZ.out]; exact Z2.below hbm Z2.lt, T2.below hbm T2.lt⟩, bthen B2 hbm⟩
      · have CD := Lib.hid (LMH.out W hB D e1 (by omega))
        have CA := Lib.hid (LMH.out W hB A a1 (by omega))
        have hF1 := hF.1
        have hA1 := hA.1
        have hF3 := hF.lt
        have hA3 := hA.lt
        have mc := @more_cell W
        gi_wp2_with fail
        refine wpIn_region_more (by kernel_rfl) (by kernel_rfl) (by kernel_rfl) ?_
        iterate 8 (try (first | go_big_quiet_step ((first | with_reducible exact CD.out _ | with_reducible exact CA.out _)) | quiet_step ((first | with_reducible exact CD.out _ | with_reducible exact CA.out _))))
        iterate 8 (try (first | go_big_quiet_step ((first | with_reducible exact CD.out _ | with_reducible exact CA.out _)) | quiet_step ((first | with_reducible exact CD.out _ | with_reducible exact CA.out _))))
        iterate 8 (try (first | go_big_quiet_step ((first | with_reducible exact CD.out _ | with_reducible exact CA.out _)) | quiet_step ((first | with_reducible exact CD.out _ | with_reducible exact CA.out _))))
        iterate 8 (try (first | go_big_quiet_step ((first | with_reducible exact CD.out _ | with_reducible exact CA.out _)) | quiet_step ((first | with_reducible exact CD.out _ | with_reducible exact CA.out _))))
        iterate 8 (try (first | go_big_quiet_step ((first | with_reducible exact CD.out _ | with_reducible exact CA.out _)) | quiet_step ((first | with_reducible exact CD.out _ | with_reducible exact CA.out _))))
        refine wpQuiet_nil ?_
        rintro ⟨wm, hbm⟩
        dsimp only
        clear CD CA mc hF1 hA1 hF3 hA3
        have Fm := hF.below hbm hF.lt
        have Am := hA.below hbm hA.lt
        have Zm := hZ.below hbm hZ.lt
        have Tm := hT.below hbm hT.lt
        have Bm := bthen hB hbm
        have Km := Kpb.below hbm hT.lt
        have Om := others_of_below hbm
        have hA1 := Am.1
        have hA2 := Am.2
        clear hF hA hZ hT hB hbm
        gi_wp2_with fail
        have EA := SA.out
        rw [if_neg (by omega)] at EA
        have EA := Lib.hid EA
        obtain ⟨F2, A2, Z2, T2, B2, K2, O2⟩ := And.intro Fm (And.intro Am (And.intro Zm (And.intro Tm (And.intro Bm (And.intro Km Om)))))
        clear SA Am Fm Zm Tm Bm Km Om
        generalize wm = W2 at *
        have CD := Lib.hid (LMH.out W2 B2 D e1 (by omega))
        have CZ := Lib.hid (LMH.out W2 B2 Z z1 (by omega))
        have hF1 := F2.1
        have hZ1 := Z2.1
        have hF3 := F2.lt
        have hZ3 := Z2.lt
        have mc := @more_cell W2
        by_cases hy : lit S D < lit S Z
        · refine wpIn_region_more (by kernel_rfl) (by kernel_rfl) (by kernel_rfl) ?_
          iterate 8 (try (first | go_big_quiet_step ((first | with_reducible exact CD.out _ | with_reducible exact CZ.out _)) | quiet_step ((first | with_reducible exact CD.out _ | with_reducible exact CZ.out _))))
          iterate 8 (try (first | go_big_quiet_step ((first | with_reducible exact CD.out _ | with_reducible exact CZ.out _)) | quiet_step ((first | with_reducible exact CD.out _ | with_reducible exact CZ.out _))))
          iterate 8 (try (first | go_big_quiet_step ((first | with_reducible exact CD.out _ | with_reducible exact CZ.out _)) | quiet_step ((first | with_reducible exact CD.out _ | with_reducible exact CZ.out _))))
          iterate 8 (try (first | go_big_quiet_step ((first | with_reducible exact CD.out _ | with_reducible exact CZ.out _)) | quiet_step ((first | with_reducible exact CD.out _ | with_reducible exact CZ.out _))))
          iterate 8 (try (first | go_big_quiet_step ((first | with_reducible exact CD.out _ | with_reducible exact CZ.out _)) | quiet_step ((first | with_reducible exact CD.out _ | with_reducible exact CZ.out _))))
          refine wpQuiet_nil ?_
          rintro ⟨wm, hbm⟩
          dsimp only
          have hZm := Z2.below hbm Z2.lt
          have hZ4 := hZm.1
          have hZ5 := hZm.2
          have EZ := SZ.out
          rw [if_pos (by omega)] at EZ
          have EZ := Lib.hid EZ
          gi_wp2_with fail
          exact ⟨(O2.trans (others_of_below hbm)).trans (KeepsOthers.setCell _ _ _), (K2.trans (Kpb.below hbm T2.lt)).setCell (by dsimp only; omega) _,
            ⟨(F2.below hbm F2.lt).other (by dsimp only; omega) _, by rw [EA.out]; exact (A2.below hbm A2.lt).other (by dsimp only; omega) _, by rw [EZ.out]; exact hZm.set _, (T2.below hbm T2.lt).other (by dsimp only; omega) _⟩, (bthen B2 hbm).setCell (by dsimp only; omega) _⟩
        · refine wpIn_region_more (by kernel_rfl) (by kernel_rfl) (by kernel_rfl) ?_
          iterate 8 (try (first | go_big_quiet_step ((first | with_reducible exact CD.out _ | with_reducible exact CZ.out _)) | quiet_step ((first | with_reducible exact CD.out _ | with_reducible exact CZ.out _))))
          iterate 8 (try (first | go_big_quiet_step ((first | with_reducible exact CD.out _ | with_reducible exact CZ.out _)) | quiet_step ((first | with_reducible exact CD.out _ | with_reducible exact CZ.out _))))
          iterate 8 (try (first | go_big_quiet_step ((first | with_reducible exact CD.out _ | with_reducible exact CZ.out _)) | quiet_step ((first | with_reducible exact CD.out _ | with_reducible exact CZ.out _))))
          iterate 8 (try (first | go_big_quiet_step ((first | with_reducible exact CD.out _ | with_reducible exact CZ.out _)) | quiet_step ((first | with_reducible exact CD.out _ | with_reducible exact CZ.out _))))
          iterate 8 (try (first | go_big_quiet_step ((first | with_reducible exact CD.out _ | with_reducible exact CZ.out _)) | quiet_step ((first | with_reducible exact CD.out _ | with_reducible exact CZ.out _))))
          refine wpQuiet_nil ?_
          rintro ⟨wm, hbm⟩
          dsimp only
          have EZ := SZ.out
          rw [if_neg (by omega)] at EZ
          have EZ := Lib.hid EZ
          gi_wp2_with fail
          exact ⟨O2.trans (others_of_below hbm), K2.trans (Kpb.below hbm T2.lt),
            ⟨F2.below hbm F2.lt, by rw [EA.out]; exact A2.below hbm A2.lt, by rw [EZ.out]; exact Z2.below hbm Z2.lt, T2.below hbm T2.lt⟩, bthen B2 hbm⟩
    case done =>
      rintro D W hD ⟨⟨hF, hA, hZ, hT⟩, hB⟩ hK
      rw [lonL_range _ _ _ (Nat.le_refl _), show N - 1 = (S.L - 1).toNat by omega] at hA
      rw [shoL_range _ _ _ (Nat.le_refl _), show N - 1 = (S.L - 1).toNat by omega] at hZ
      have hA1 : W.cell? ⟨w1.heap.size + 1, 0, none⟩ = some (.int .i64 (lonD S)) := hA.1
      have hZ1 : W.cell? ⟨w1.heap.size + 1 + 1, 0, none⟩ = some (.int .i64 (shoD S)) := hZ.1
      clear hA hZ
      gi_wp2_with fail
      gi_region
      gi_wp2_with fail
      have hK' : W.drew.heap[D]? = some (.deferred (some [])) := hK
      refine ⟨by simp, .inl ⟨_, _, rfl, run_takeDeferred hK', ?_⟩⟩
      refine ⟨.tuple #[.int .i64 (lonD S), .int .i64 (shoD S), .int .i64 0], by simp [results, Tryd.results32, go_sem], ret_3 (by rw [HV.out]; rfl) (by rw [HV.out]; rfl) hc.symm, ?_⟩
      exact ((bthen (bthen (ballo w _) hb1) hB).drew).trans (belowK_b (w := w) (Nat.le_refl _) W.drew D _ _ (by simp at hD; omega) hK' rfl rfl)
    case stop =>
      rintro D c k W _ _ h _
      exact h.elim
end Go.Proofs.YtpjnlcdmbkbfcaaDoor
