/- Walks of number, of Court, CourtDay, Market, MarketDay, begins. -/
import Derived.Test.YtpjnlcdmbkbfcaaDoorC3
namespace Go.Proofs.YtpjnlcdmbkbfcaaDoor
open Go.ChangeShapes Go.WideShapes Go.ChangeAt Go.RowKit Go.BigFrame

theorem within_c (n lo hi : Int) (k : Bool) (w : World) (he : inB n lo hi = k) : Calls Tryd.prog 77 #[.int .i64 n, .int .i64 lo, .int .i64 hi] w fun e w' => e = .returned (.bool k) ∧ w = w' := by
  rw [← he]; exact within_any n lo hi w
abbrev dO (y m d : Int) : Obj := Obj.cells #[.int .i64 y, .int .i64 m, .int .i64 d] 50
abbrev NumPost (mk : Bool) (y m d : Int) (w : World) (e : Ending) (w' : World) : Prop :=
  e = .returned (.tuple #[.int .i64 (numV mk y m d), .int .i64 (numE mk y m d)]) ∧ Below w.heap.size w w'
theorem num_no {mk : Bool} {y m d : Int} (h : okD mk y m d = false) : numV mk y m d = 0 ∧ numE mk y m d = 1 := by simp [numV, numE, h]
theorem num_yes {mk : Bool} {y m d : Int} (h : okD mk y m d = true) : numV mk y m d = num mk y m d ∧ numE mk y m d = 0 := by simp [numV, numE, h]
theorem okD_y {mk : Bool} {y m d : Int} (h : inB y 1 9999 = false) : okD mk y m d = false := by
  have := inB_f h
  cases hb : okD mk y m d with
  | false => rfl
  | true => have := (okD_iff.1 hb).1; omega
theorem okD_m {mk : Bool} {y m d : Int} (h : inB m 1 (nmo mk) = false) : okD mk y m d = false := by
  have := inB_f h
  cases hb : okD mk y m d with
  | false => rfl
  | true => have := (okD_iff.1 hb).2.1; omega
theorem okD_d {mk : Bool} {y m d : Int} (h : inB d 1 (mln mk y m) = false) : okD mk y m d = false := by
  have := inB_f h
  cases hb : okD mk y m d with
  | false => rfl
  | true => have := (okD_iff.1 hb).2.2; omega

set_option maxHeartbeats 2000000 in
theorem number_c (y m d : Int) (w : World) : Calls Tryd.prog 93 #[.iface 100 (.agg #[]), .agg #[.int .i64 y, .int .i64 m, .int .i64 d]] w fun e w' => NumPost false y m d w e w' := by
  have hnmo : nmo false = 13 := rfl
  rcases bool_ft (inB y 1 9999) with hy | hy
  · obtain ⟨hV, hE⟩ := num_no (okD_y (mk := false) (m := m) (d := d) hy)
    have HV := Lib.hid hV
    have HE := Lib.hid hE
    clear hV hE
    go_enter Tryd.func93, Tryd.ntmps93
    go_wp2_with fail
    refine (within_c y 1 9999 _ _ hy).mono ?_
    rintro e w2 ⟨rfl, rfl⟩
    go_wp2_with fail
    go_ret2
    exact ⟨ret_two HV.out.symm HE.out.symm, (by repeat (first | exact Below.refl _ _ | assumption | refine bthen ?_ (by assumption) | refine Below.alloc ?_ (by first | exact Nat.le_refl _ | (simp; done) | (simp; omega) | omega) _ | refine Below.setCell ?_ (by first | exact Nat.le_refl _ | (simp; done) | (simp; omega) | omega) _ | refine below_drewN ?_ _ | refine Below.drew ?_))⟩
  · obtain ⟨y1, y2⟩ := inB_t hy
    rcases bool_ft (inB m 1 13) with hm | hm
    · obtain ⟨hV, hE⟩ := num_no (okD_m (mk := false) (y := y) (m := m) (d := d) hm)
      have HV := Lib.hid hV
      have HE := Lib.hid hE
      clear hV hE
      go_enter Tryd.func93, Tryd.ntmps93
      go_wp2_with fail
      refine (within_c y 1 9999 _ _ hy).mono ?_
      rintro e w2 ⟨rfl, rfl⟩
      go_wp2_with fail
      refine (months_c y _ (by omega) (by omega)).mono ?_
      rintro e w5 ⟨v, b, rfl, R⟩
      have hv : v = .slice (some ⟨b, 0, none⟩) 13 13 := R.v
      subst hv
      have hb5 := R.b
      have hn5 := R.n
      have hl5 := R.lt
      have HC := Lib.hid (show ∀ j, j < 13 → w5.cell? ⟨b, j, none⟩ = some (.int .i64 (mln false y (j + 1))) from fun j hj => by rw [R.c j hj, mlL_el false y j hj])
      clear R
      obtain ⟨hc5, hf5⟩ := bcell hb5
      go_wp2_with fail
      go_quiet ((go_at_call 77; exact quiet_left (within_c _ _ _ _ _ hm)))
      go_wp2_with fail
      go_ret2
      exact ⟨ret_two HV.out.symm HE.out.symm, (by repeat (first | exact Below.refl _ _ | assumption | refine bthen ?_ (by assumption) | refine Below.alloc ?_ (by first | exact Nat.le_refl _ | (simp; done) | (simp; omega) | omega) _ | refine Below.setCell ?_ (by first | exact Nat.le_refl _ | (simp; done) | (simp; omega) | omega) _ | refine below_drewN ?_ _ | refine Below.drew ?_))⟩
    · obtain ⟨m1, m2⟩ := inB_t hm
      obtain ⟨k, rfl⟩ : ∃ k : Nat, m = (k : Int) + 1 := ⟨(m - 1).toNat, by omega⟩
      rcases bool_ft (inB d 1 (mln false y (k + 1))) with hd | hd
      · obtain ⟨hV, hE⟩ := num_no (okD_d (mk := false) (y := y) (m := k + 1) (d := d) hd)
        have HV := Lib.hid hV
        have HE := Lib.hid hE
        clear hV hE
        go_enter Tryd.func93, Tryd.ntmps93
        go_wp2_with fail
        refine (within_c y 1 9999 _ _ hy).mono ?_
        rintro e w2 ⟨rfl, rfl⟩
        go_wp2_with fail
        refine (months_c y _ (by omega) (by omega)).mono ?_
        rintro e w5 ⟨v, b, rfl, R⟩
        have hv : v = .slice (some ⟨b, 0, none⟩) 13 13 := R.v
        subst hv
        have hb5 := R.b
        have hn5 := R.n
        have hl5 := R.lt
        have HC := Lib.hid (show ∀ j, j < 13 → w5.cell? ⟨b, j, none⟩ = some (.int .i64 (mln false y (j + 1))) from fun j hj => by rw [R.c j hj, mlL_el false y j hj])
        clear R
        obtain ⟨hc5, hf5⟩ := bcell hb5
        go_wp2_with fail
        have hck := HC.out k (by omega)
        go_quiet ((go_at_call 77; first | with_reducible exact quiet_left (within_c _ _ _ _ _ hm) | with_reducible exact quiet_left (within_c _ _ _ _ _ hd)))
        go_wp2_with fail
        go_ret2
        exact ⟨ret_two HV.out.symm HE.out.symm, (by repeat (first | exact Below.refl _ _ | assumption | refine bthen ?_ (by assumption) | refine Below.alloc ?_ (by first | exact Nat.le_refl _ | (simp; done) | (simp; omega) | omega) _ | refine Below.setCell ?_ (by first | exact Nat.le_refl _ | (simp; done) | (simp; omega) | omega) _ | refine below_drewN ?_ _ | refine Below.drew ?_))⟩
      · obtain ⟨d1, d2⟩ := inB_t hd
        obtain ⟨hV, hE⟩ := num_yes (mk := false) (y := y) (m := k + 1) (d := d) (okD_iff.2 ⟨⟨y1, y2⟩, ⟨m1, m2⟩, d1, d2⟩)
        have HV := Lib.hid hV
        have HE := Lib.hid hE
        have hmb := mln_bd false (y := y) (m := k + 1) y1 m1 m2
        have hsb := sta_bd false y1
        clear hV hE
        go_enter Tryd.func93, Tryd.ntmps93
        go_wp2_with fail
        refine (within_c y 1 9999 _ _ hy).mono ?_
        rintro e w2 ⟨rfl, rfl⟩
        go_wp2_with fail
        refine (months_c y _ (by omega) (by omega)).mono ?_
        rintro e w5 ⟨v, b, rfl, R⟩
        have hv : v = .slice (some ⟨b, 0, none⟩) 13 13 := R.v
        subst hv
        have hb5 := R.b
        have hn5 := R.n
        have hl5 := R.lt
        have HC := Lib.hid (show ∀ j, j < 13 → w5.cell? ⟨b, j, none⟩ = some (.int .i64 (mln false y (j + 1))) from fun j hj => by rw [R.c j hj, mlL_el false y j hj])
        clear R
        obtain ⟨hc5, hf5⟩ := bcell hb5
        go_wp2_with fail
        have hck := HC.out k (by omega)
        go_quiet ((go_at_call 77; first | with_reducible exact quiet_left (within_c _ _ _ _ _ hm) | with_reducible exact quiet_left (within_c _ _ _ _ _ hd)))
        go_wp2_with fail
        have hb6 : Below w5.heap.size w5 (w5.drewN nq) := below_drewN (Below.refl _ _) nq
        generalize w5.drewN nq = w6 at *
        have hb7 := bthen hb5 hb6
        have mc := fun (i : More w6) => (bcell (bthen hb7 i.h)).1
        have cl : ∀ i : More w6, _ := fun i => more_call (start_c y i.x (by omega) (by omega))
        have CL := Lib.hid cl; clear cl
        refine wp_region_more (by kernel_rfl) (by kernel_rfl) ?_
        iterate 8 (try (first | go_big_quiet_step (with_reducible exact CL.out _) | quiet_step (with_reducible exact CL.out _)))
        iterate 8 (try (first | go_big_quiet_step (with_reducible exact CL.out _) | quiet_step (with_reducible exact CL.out _)))
        iterate 8 (try (first | go_big_quiet_step (with_reducible exact CL.out _) | quiet_step (with_reducible exact CL.out _)))
        iterate 8 (try (first | go_big_quiet_step (with_reducible exact CL.out _) | quiet_step (with_reducible exact CL.out _)))
        iterate 8 (try (first | go_big_quiet_step (with_reducible exact CL.out _) | quiet_step (with_reducible exact CL.out _)))
        refine wpQuiet_nil ?_
        rintro ⟨wm, hbm⟩
        dsimp only
        have hb8 := bthen hb7 hbm
        have hb9 := bthen hb6 hbm
        have HC2 := Lib.hid (show ∀ j, j < 13 → wm.cell? ⟨b, j, none⟩ = some (.int .i64 (mln false y (j + 1))) from fun j hj => ((bcell hb9).1 b j hl5).trans (HC.out j hj))
        obtain ⟨hc8, hf8⟩ := bcell hb8
        have hnum : sta false y + d - 1 + smL (mlL false y) k = num false y (k + 1) d := by
          rw [smL_pre false y k (by show k + 1 ≤ 13; omega)]
          unfold num; omega
        have HN := Lib.hid hnum
        clear hnum hck HC mc CL
        go_wp2_with fail
        go_loop [7, 9, 50] (fun n _ i => ∃ j : Nat, j ≤ k ∧ i = .int .i64 (j : Int) ∧ n = .int .i64 (sta false y + d - 1 + smL (mlL false y) j)) (fun _ _ i => k - (intOf i).toNat)
        case atStart => exact ⟨0, Nat.zero_le _, rfl, by simp [smL]⟩
        case round =>
          obtain ⟨j, hj, rfl, rfl⟩ := hrel
          have hbd := smL_bd (l := mlL false y) (M := 30) (by omega) j (by show j ≤ 13; omega) (fun i hi => by
            rw [mlL_len] at hi
            have hi' : i < 13 := hi
            rw [mlL_el false y i hi]
            have := mln_bd false (y := y) (m := i + 1) y1 (by omega) (by rw [hnmo]; omega)
            omega)
          rcases Nat.lt_or_ge j k with h9 | h9
          · have hc := HC2.out j (by omega)
            have hs : smL (mlL false y) (j + 1) = smL (mlL false y) j + mln false y (j + 1) := by
              have := mlL_el false y j (by show j < 13; omega)
              rw [← this]; rfl
            have hmb2 := mln_bd false (y := y) (m := j + 1) y1 (by omega) (by rw [hnmo]; omega)
            generalize mln false y (j + 1) = x at hc hs hmb2
            have HS := Lib.hid hs; clear hs
            go_wp2_with fail
            exact ⟨⟨j + 1, by omega, by go_num, by congr 1; rw [HS.out]; omega⟩, by simp [intOf]; omega⟩
          · obtain rfl : j = k := by omega
            go_wp2_with fail
            go_ret2
            exact ⟨ret_two (HN.out.trans HV.out.symm) HE.out.symm, (by repeat (first | exact Below.refl _ _ | assumption | refine bthen ?_ (by assumption) | refine Below.alloc ?_ (by first | exact Nat.le_refl _ | (simp; done) | (simp; omega) | omega) _ | refine Below.setCell ?_ (by first | exact Nat.le_refl _ | (simp; done) | (simp; omega) | omega) _ | refine below_drewN ?_ _ | refine Below.drew ?_))⟩
set_option maxHeartbeats 2000000 in
theorem number_m (y m d : Int) (w : World) : Calls Tryd.prog 93 #[.iface 101 (.agg #[]), .agg #[.int .i64 y, .int .i64 m, .int .i64 d]] w fun e w' => NumPost true y m d w e w' := by
  have hnmo : nmo true = 12 := rfl
  rcases bool_ft (inB y 1 9999) with hy | hy
  · obtain ⟨hV, hE⟩ := num_no (okD_y (mk := true) (m := m) (d := d) hy)
    have HV := Lib.hid hV
    have HE := Lib.hid hE
    clear hV hE
    go_enter Tryd.func93, Tryd.ntmps93
    go_wp2_with fail
    refine (within_c y 1 9999 _ _ hy).mono ?_
    rintro e w2 ⟨rfl, rfl⟩
    go_wp2_with fail
    go_ret2
    exact ⟨ret_two HV.out.symm HE.out.symm, (by repeat (first | exact Below.refl _ _ | assumption | refine bthen ?_ (by assumption) | refine Below.alloc ?_ (by first | exact Nat.le_refl _ | (simp; done) | (simp; omega) | omega) _ | refine Below.setCell ?_ (by first | exact Nat.le_refl _ | (simp; done) | (simp; omega) | omega) _ | refine below_drewN ?_ _ | refine Below.drew ?_))⟩
  · obtain ⟨y1, y2⟩ := inB_t hy
    rcases bool_ft (inB m 1 12) with hm | hm
    · obtain ⟨hV, hE⟩ := num_no (okD_m (mk := true) (y := y) (m := m) (d := d) hm)
      have HV := Lib.hid hV
      have HE := Lib.hid hE
      clear hV hE
      go_enter Tryd.func93, Tryd.ntmps93
      go_wp2_with fail
      refine (within_c y 1 9999 _ _ hy).mono ?_
      rintro e w2 ⟨rfl, rfl⟩
      go_wp2_with fail
      refine (months_m y _ (by omega) (by omega)).mono ?_
      rintro e w5 ⟨v, b, rfl, R⟩
      have hv : v = .slice (some ⟨b, 0, none⟩) 12 12 := R.v
      subst hv
      have hb5 := R.b
      have hn5 := R.n
      have hl5 := R.lt
      have HC := Lib.hid (show ∀ j, j < 12 → w5.cell? ⟨b, j, none⟩ = some (.int .i64 (mln true y (j + 1))) from fun j hj => by rw [R.c j hj, mlL_el true y j hj])
      clear R
      obtain ⟨hc5, hf5⟩ := bcell hb5
      go_wp2_with fail
      go_quiet ((go_at_call 77; exact quiet_left (within_c _ _ _ _ _ hm)))
      go_wp2_with fail
      go_ret2
      exact ⟨ret_two HV.out.symm HE.out.symm, (by repeat (first | exact Below.refl _ _ | assumption | refine bthen ?_ (by assumption) | refine Below.alloc ?_ (by first | exact Nat.le_refl _ | (simp; done) | (simp; omega) | omega) _ | refine Below.setCell ?_ (by first | exact Nat.le_refl _ | (simp; done) | (simp; omega) | omega) _ | refine below_drewN ?_ _ | refine Below.drew ?_))⟩
    · obtain ⟨m1, m2⟩ := inB_t hm
      obtain ⟨k, rfl⟩ : ∃ k : Nat, m = (k : Int) + 1 := ⟨(m - 1).toNat, by omega⟩
      rcases bool_ft (inB d 1 (mln true y (k + 1))) with hd | hd
      · obtain ⟨hV, hE⟩ := num_no (okD_d (mk := true) (y := y) (m := k + 1) (d := d) hd)
        have HV := Lib.hid hV
        have HE := Lib.hid hE
        clear hV hE
        go_enter Tryd.func93, Tryd.ntmps93
        go_wp2_with fail
        refine (within_c y 1 9999 _ _ hy).mono ?_
        rintro e w2 ⟨rfl, rfl⟩
        go_wp2_with fail
        refine (months_m y _ (by omega) (by omega)).mono ?_
        rintro e w5 ⟨v, b, rfl, R⟩
        have hv : v = .slice (some ⟨b, 0, none⟩) 12 12 := R.v
        subst hv
        have hb5 := R.b
        have hn5 := R.n
        have hl5 := R.lt
        have HC := Lib.hid (show ∀ j, j < 12 → w5.cell? ⟨b, j, none⟩ = some (.int .i64 (mln true y (j + 1))) from fun j hj => by rw [R.c j hj, mlL_el true y j hj])
        clear R
        obtain ⟨hc5, hf5⟩ := bcell hb5
        go_wp2_with fail
        have hck := HC.out k (by omega)
        go_quiet ((go_at_call 77; first | with_reducible exact quiet_left (within_c _ _ _ _ _ hm) | with_reducible exact quiet_left (within_c _ _ _ _ _ hd)))
        go_wp2_with fail
        go_ret2
        exact ⟨ret_two HV.out.symm HE.out.symm, (by repeat (first | exact Below.refl _ _ | assumption | refine bthen ?_ (by assumption) | refine Below.alloc ?_ (by first | exact Nat.le_refl _ | (simp; done) | (simp; omega) | omega) _ | refine Below.setCell ?_ (by first | exact Nat.le_refl _ | (simp; done) | (simp; omega) | omega) _ | refine below_drewN ?_ _ | refine Below.drew ?_))⟩
      · obtain ⟨d1, d2⟩ := inB_t hd
        obtain ⟨hV, hE⟩ := num_yes (mk := true) (y := y) (m := k + 1) (d := d) (okD_iff.2 ⟨⟨y1, y2⟩, ⟨m1, m2⟩, d1, d2⟩)
        have HV := Lib.hid hV
        have HE := Lib.hid hE
        have hmb := mln_bd true (y := y) (m := k + 1) y1 m1 m2
        have hsb := sta_bd true y1
        clear hV hE
        go_enter Tryd.func93, Tryd.ntmps93
        go_wp2_with fail
        refine (within_c y 1 9999 _ _ hy).mono ?_
        rintro e w2 ⟨rfl, rfl⟩
        go_wp2_with fail
        refine (months_m y _ (by omega) (by omega)).mono ?_
        rintro e w5 ⟨v, b, rfl, R⟩
        have hv : v = .slice (some ⟨b, 0, none⟩) 12 12 := R.v
        subst hv
        have hb5 := R.b
        have hn5 := R.n
        have hl5 := R.lt
        have HC := Lib.hid (show ∀ j, j < 12 → w5.cell? ⟨b, j, none⟩ = some (.int .i64 (mln true y (j + 1))) from fun j hj => by rw [R.c j hj, mlL_el true y j hj])
        clear R
        obtain ⟨hc5, hf5⟩ := bcell hb5
        go_wp2_with fail
        have hck := HC.out k (by omega)
        go_quiet ((go_at_call 77; first | with_reducible exact quiet_left (within_c _ _ _ _ _ hm) | with_reducible exact quiet_left (within_c _ _ _ _ _ hd)))
        go_wp2_with fail
        have hb6 : Below w5.heap.size w5 (w5.drewN nq) := below_drewN (Below.refl _ _) nq
        generalize w5.drewN nq = w6 at *
        have hb7 := bthen hb5 hb6
        have mc := fun (i : More w6) => (bcell (bthen hb7 i.h)).1
        have cl : ∀ i : More w6, _ := fun i => more_call (start_m y i.x (by omega) (by omega))
        have CL := Lib.hid cl; clear cl
        refine wp_region_more (by kernel_rfl) (by kernel_rfl) ?_
        iterate 8 (try (first | go_big_quiet_step (with_reducible exact CL.out _) | quiet_step (with_reducible exact CL.out _)))
        iterate 8 (try (first | go_big_quiet_step (with_reducible exact CL.out _) | quiet_step (with_reducible exact CL.out _)))
        iterate 8 (try (first | go_big_quiet_step (with_reducible exact CL.out _) | quiet_step (with_reducible exact CL.out _)))
        iterate 8 (try (first | go_big_quiet_step (with_reducible exact CL.out _) | quiet_step (with_reducible exact CL.out _)))
        iterate 8 (try (first | go_big_quiet_step (with_reducible exact CL.out _) | quiet_step (with_reducible exact CL.out _)))
        refine wpQuiet_nil ?_
        rintro ⟨wm, hbm⟩
        dsimp only
        have hb8 := bthen hb7 hbm
        have hb9 := bthen hb6 hbm
        have HC2 := Lib.hid (show ∀ j, j < 12 → wm.cell? ⟨b, j, none⟩ = some (.int .i64 (mln true y (j + 1))) from fun j hj => ((bcell hb9).1 b j hl5).trans (HC.out j hj))
        obtain ⟨hc8, hf8⟩ := bcell hb8
        have hnum : sta true y + d - 1 + smL (mlL true y) k = num true y (k + 1) d := by
          rw [smL_pre true y k (by show k + 1 ≤ 12; omega)]
          unfold num; omega
        have HN := Lib.hid hnum
        clear hnum hck HC mc CL
        go_wp2_with fail
        go_loop [7, 9, 50] (fun n _ i => ∃ j : Nat, j ≤ k ∧ i = .int .i64 (j : Int) ∧ n = .int .i64 (sta true y + d - 1 + smL (mlL true y) j)) (fun _ _ i => k - (intOf i).toNat)
        case atStart => exact ⟨0, Nat.zero_le _, rfl, by simp [smL]⟩
        case round =>
          obtain ⟨j, hj, rfl, rfl⟩ := hrel
          have hbd := smL_bd (l := mlL true y) (M := 30) (by omega) j (by show j ≤ 12; omega) (fun i hi => by
            rw [mlL_len] at hi
            have hi' : i < 12 := hi
            rw [mlL_el true y i hi]
            have := mln_bd true (y := y) (m := i + 1) y1 (by omega) (by rw [hnmo]; omega)
            omega)
          rcases Nat.lt_or_ge j k with h9 | h9
          · have hc := HC2.out j (by omega)
            have hs : smL (mlL true y) (j + 1) = smL (mlL true y) j + mln true y (j + 1) := by
              have := mlL_el true y j (by show j < 12; omega)
              rw [← this]; rfl
            have hmb2 := mln_bd true (y := y) (m := j + 1) y1 (by omega) (by rw [hnmo]; omega)
            generalize mln true y (j + 1) = x at hc hs hmb2
            have HS := Lib.hid hs; clear hs
            go_wp2_with fail
            exact ⟨⟨j + 1, by omega, by go_num, by congr 1; rw [HS.out]; omega⟩, by simp [intOf]; omega⟩
          · obtain rfl : j = k := by omega
            go_wp2_with fail
            go_ret2
            exact ⟨ret_two (HN.out.trans HV.out.symm) HE.out.symm, (by repeat (first | exact Below.refl _ _ | assumption | refine bthen ?_ (by assumption) | refine Below.alloc ?_ (by first | exact Nat.le_refl _ | (simp; done) | (simp; omega) | omega) _ | refine Below.setCell ?_ (by first | exact Nat.le_refl _ | (simp; done) | (simp; omega) | omega) _ | refine below_drewN ?_ _ | refine Below.drew ?_))⟩

set_option maxHeartbeats 400000 in
theorem Court_any (day : Int) (w : World) : Calls Tryd.prog 34 #[.int .i64 day] w fun e w' => DatPost false day w e w' := by
  obtain ⟨y, hy⟩ : ∃ y, (dat false day).1 = y := ⟨_, rfl⟩
  obtain ⟨m, hm⟩ : ∃ y, (dat false day).2.1 = y := ⟨_, rfl⟩
  obtain ⟨d, hd⟩ : ∃ y, (dat false day).2.2 = y := ⟨_, rfl⟩
  have HY := Lib.hid hy
  have HM := Lib.hid hm
  have HD := Lib.hid hd
  go_enter Tryd.func34, Tryd.ntmps34
  go_wp2_with fail
  refine (date_c day _).mono ?_
  rintro e w1 ⟨rfl, hb1⟩
  rw [hy, hm, hd]
  clear hy hm hd
  obtain ⟨hc1, hf1⟩ := bcell hb1
  go_wp2_with fail
  refine bodyPost_ret (v := .tuple #[.agg #[.int .i64 y, .int .i64 m, .int .i64 d], .int .i64 (datE false day)]) (by simp [results, Tryd.results34, go_sem, hc1]) rfl ⟨ret_dat HY.out.symm HM.out.symm HD.out.symm rfl, ?_⟩
  exact (by repeat (first | exact Below.refl _ _ | assumption | refine bthen ?_ (by assumption) | refine Below.alloc ?_ (by first | exact Nat.le_refl _ | (simp; done) | (simp; omega) | omega) _ | refine Below.setCell ?_ (by first | exact Nat.le_refl _ | (simp; done) | (simp; omega) | omega) _ | refine below_drewN ?_ _ | refine Below.drew ?_))
set_option maxHeartbeats 400000 in
theorem CourtDay_any (y m d : Int) (w : World) : Calls Tryd.prog 37 #[.agg #[.int .i64 y, .int .i64 m, .int .i64 d]] w fun e w' => NumPost false y m d w e w' := by
  go_enter Tryd.func37, Tryd.ntmps37
  go_wp2_with fail
  refine (number_c y m d _).mono ?_
  rintro e w1 ⟨rfl, hb1⟩
  go_wp2_with fail
  go_ret2
  exact ⟨rfl, (by repeat (first | exact Below.refl _ _ | assumption | refine bthen ?_ (by assumption) | refine Below.alloc ?_ (by first | exact Nat.le_refl _ | (simp; done) | (simp; omega) | omega) _ | refine Below.setCell ?_ (by first | exact Nat.le_refl _ | (simp; done) | (simp; omega) | omega) _ | refine below_drewN ?_ _ | refine Below.drew ?_))⟩
set_option maxHeartbeats 400000 in
theorem begins_c (day : Int) (w : World) : Calls Tryd.prog 97 #[.iface 100 (.agg #[]), .int .i64 day] w fun e w' => e = .returned (.bool (bgn false day)) ∧ Below w.heap.size w w' := by
  obtain ⟨y, hy⟩ : ∃ y, (dat false day).1 = y := ⟨_, rfl⟩
  obtain ⟨m, hm⟩ : ∃ y, (dat false day).2.1 = y := ⟨_, rfl⟩
  obtain ⟨d, hd⟩ : ∃ y, (dat false day).2.2 = y := ⟨_, rfl⟩
  by_cases hr : 0 ≤ day ∧ day < dMax false
  · have hE : datE false day = 0 := by unfold datE; rw [if_pos hr]
    have HB := Lib.hid (show bgn false day = decide (d = 1) by simp [bgn, hr.1, hr.2, hd])
    go_enter Tryd.func97, Tryd.ntmps97
    go_wp2_with fail
    refine (date_c day _).mono ?_
    rintro e w1 ⟨rfl, hb1⟩
    rw [hy, hm, hd, hE]
    clear hy hm hd hE
    go_wp2_with fail
    go_ret
    have hz := hb1.size
    exact ⟨ret_bool (by rw [HB.out]; rfl), (by repeat (first | exact Below.refl _ _ | assumption | refine bthen ?_ (by assumption) | refine Below.alloc ?_ (by first | exact Nat.le_refl _ | (simp; done) | (simp; omega) | omega) _ | refine Below.setCell ?_ (by first | exact Nat.le_refl _ | (simp; done) | (simp; omega) | omega) _ | refine below_drewN ?_ _ | refine Below.drew ?_))⟩
  · have hE : datE false day = 1 := by unfold datE; rw [if_neg hr]
    have HB := Lib.hid (show bgn false day = false by
      cases hb : bgn false day with
      | false => rfl
      | true => exact absurd (bgn_iff.1 hb).1 hr)
    go_enter Tryd.func97, Tryd.ntmps97
    go_wp2_with fail
    refine (date_c day _).mono ?_
    rintro e w1 ⟨rfl, hb1⟩
    rw [hy, hm, hd, hE]
    clear hy hm hd hE
    go_wp2_with fail
    go_ret
    have hz := hb1.size
    exact ⟨ret_bool HB.out.symm, (by repeat (first | exact Below.refl _ _ | assumption | refine bthen ?_ (by assumption) | refine Below.alloc ?_ (by first | exact Nat.le_refl _ | (simp; done) | (simp; omega) | omega) _ | refine Below.setCell ?_ (by first | exact Nat.le_refl _ | (simp; done) | (simp; omega) | omega) _ | refine below_drewN ?_ _ | refine Below.drew ?_))⟩
set_option maxHeartbeats 400000 in
theorem Market_any (day : Int) (w : World) : Calls Tryd.prog 35 #[.int .i64 day] w fun e w' => DatPost true day w e w' := by
  obtain ⟨y, hy⟩ : ∃ y, (dat true day).1 = y := ⟨_, rfl⟩
  obtain ⟨m, hm⟩ : ∃ y, (dat true day).2.1 = y := ⟨_, rfl⟩
  obtain ⟨d, hd⟩ : ∃ y, (dat true day).2.2 = y := ⟨_, rfl⟩
  have HY := Lib.hid hy
  have HM := Lib.hid hm
  have HD := Lib.hid hd
  go_enter Tryd.func35, Tryd.ntmps35
  go_wp2_with fail
  refine (date_m day _).mono ?_
  rintro e w1 ⟨rfl, hb1⟩
  rw [hy, hm, hd]
  clear hy hm hd
  obtain ⟨hc1, hf1⟩ := bcell hb1
  go_wp2_with fail
  refine bodyPost_ret (v := .tuple #[.agg #[.int .i64 y, .int .i64 m, .int .i64 d], .int .i64 (datE true day)]) (by simp [results, Tryd.results35, go_sem, hc1]) rfl ⟨ret_dat HY.out.symm HM.out.symm HD.out.symm rfl, ?_⟩
  exact (by repeat (first | exact Below.refl _ _ | assumption | refine bthen ?_ (by assumption) | refine Below.alloc ?_ (by first | exact Nat.le_refl _ | (simp; done) | (simp; omega) | omega) _ | refine Below.setCell ?_ (by first | exact Nat.le_refl _ | (simp; done) | (simp; omega) | omega) _ | refine below_drewN ?_ _ | refine Below.drew ?_))
set_option maxHeartbeats 400000 in
theorem MarketDay_any (y m d : Int) (w : World) : Calls Tryd.prog 40 #[.agg #[.int .i64 y, .int .i64 m, .int .i64 d]] w fun e w' => NumPost true y m d w e w' := by
  go_enter Tryd.func40, Tryd.ntmps40
  go_wp2_with fail
  refine (number_m y m d _).mono ?_
  rintro e w1 ⟨rfl, hb1⟩
  go_wp2_with fail
  go_ret2
  exact ⟨rfl, (by repeat (first | exact Below.refl _ _ | assumption | refine bthen ?_ (by assumption) | refine Below.alloc ?_ (by first | exact Nat.le_refl _ | (simp; done) | (simp; omega) | omega) _ | refine Below.setCell ?_ (by first | exact Nat.le_refl _ | (simp; done) | (simp; omega) | omega) _ | refine below_drewN ?_ _ | refine Below.drew ?_))⟩
set_option maxHeartbeats 400000 in
theorem begins_m (day : Int) (w : World) : Calls Tryd.prog 97 #[.iface 101 (.agg #[]), .int .i64 day] w fun e w' => e = .returned (.bool (bgn true day)) ∧ Below w.heap.size w w' := by
  obtain ⟨y, hy⟩ : ∃ y, (dat true day).1 = y := ⟨_, rfl⟩
  obtain ⟨m, hm⟩ : ∃ y, (dat true day).2.1 = y := ⟨_, rfl⟩
  obtain ⟨d, hd⟩ : ∃ y, (dat true day).2.2 = y := ⟨_, rfl⟩
  by_cases hr : 0 ≤ day ∧ day < dMax true
  · have hE : datE true day = 0 := by unfold datE; rw [if_pos hr]
    have HB := Lib.hid (show bgn true day = decide (d = 1) by simp [bgn, hr.1, hr.2, hd])
    go_enter Tryd.func97, Tryd.ntmps97
    go_wp2_with fail
    refine (date_m day _).mono ?_
    rintro e w1 ⟨rfl, hb1⟩
    rw [hy, hm, hd, hE]
    clear hy hm hd hE
    go_wp2_with fail
    go_ret
    have hz := hb1.size
    exact ⟨ret_bool (by rw [HB.out]; rfl), (by repeat (first | exact Below.refl _ _ | assumption | refine bthen ?_ (by assumption) | refine Below.alloc ?_ (by first | exact Nat.le_refl _ | (simp; done) | (simp; omega) | omega) _ | refine Below.setCell ?_ (by first | exact Nat.le_refl _ | (simp; done) | (simp; omega) | omega) _ | refine below_drewN ?_ _ | refine Below.drew ?_))⟩
  · have hE : datE true day = 1 := by unfold datE; rw [if_neg hr]
    have HB := Lib.hid (show bgn true day = false by
      cases hb : bgn true day with
      | false => rfl
      | true => exact absurd (bgn_iff.1 hb).1 hr)
    go_enter Tryd.func97, Tryd.ntmps97
    go_wp2_with fail
    refine (date_m day _).mono ?_
    rintro e w1 ⟨rfl, hb1⟩
    rw [hy, hm, hd, hE]
    clear hy hm hd hE
    go_wp2_with fail
    go_ret
    have hz := hb1.size
    exact ⟨ret_bool HB.out.symm, (by repeat (first | exact Below.refl _ _ | assumption | refine bthen ?_ (by assumption) | refine Below.alloc ?_ (by first | exact Nat.le_refl _ | (simp; done) | (simp; omega) | omega) _ | refine Below.setCell ?_ (by first | exact Nat.le_refl _ | (simp; done) | (simp; omega) | omega) _ | refine below_drewN ?_ _ | refine Below.drew ?_))⟩
end Go.Proofs.YtpjnlcdmbkbfcaaDoor
