/- Walks of start and date. -/
import Derived.Test.YtpjnlcdmbkbfcaaDoorC2
import Derived.Test.YtpjnlcdmbkbfcaaDoorH9
namespace Go.Proofs.YtpjnlcdmbkbfcaaDoor
open Go.ChangeShapes Go.WideShapes Go.ChangeAt Go.RowKit Go.BigFrame

theorem start_c (y : Int) (w : World) (hy : 1 ≤ y) (hy' : y ≤ 10001) : Calls Tryd.prog 98 #[.iface 100 (.agg #[]), .int .i64 y] w fun e w' => e = .returned (.int .i64 (sta false y)) ∧ Below w.heap.size w w' := by
  have hs : (y - 1) * com false + lps false (y - 1) = sta false y := rfl
  have hl := lps_bd false (y := y - 1) (by omega)
  have hc : com false = 365 := rfl
  have hm : (y - 1) * com false = (y - 1) * 365 := by rw [hc]
  have HS := Lib.hid hs
  clear hs
  go_enter Tryd.func98, Tryd.ntmps98
  go_wp2_with fail
  refine (com_c _).mono ?_
  rintro e w1 ⟨rfl, hb1⟩
  obtain ⟨hc1, hf1⟩ := bcell hb1
  go_wp2_with fail
  refine (cleaps_any _ _ (by omega) (by omega)).mono ?_
  rintro e w2 ⟨rfl, hb2⟩
  replace hb2 := bthen hb1 hb2
  obtain ⟨hc2, hf2⟩ := bcell hb2
  go_wp2_with fail
  go_ret
  exact ⟨ret_int (by first | exact HS.out | (rw [← HS.out, hm])), (by repeat (first | exact Below.refl _ _ | assumption | refine bthen ?_ (by assumption) | refine Below.alloc ?_ (by first | exact Nat.le_refl _ | (simp; done) | (simp; omega) | omega) _ | refine Below.setCell ?_ (by first | exact Nat.le_refl _ | (simp; done) | (simp; omega) | omega) _ | refine below_drewN ?_ _ | refine Below.drew ?_))⟩
theorem start_m (y : Int) (w : World) (hy : 1 ≤ y) (hy' : y ≤ 10001) : Calls Tryd.prog 98 #[.iface 101 (.agg #[]), .int .i64 y] w fun e w' => e = .returned (.int .i64 (sta true y)) ∧ Below w.heap.size w w' := by
  have hs : (y - 1) * com true + lps true (y - 1) = sta true y := rfl
  have hl := lps_bd true (y := y - 1) (by omega)
  have hc : com true = 354 := rfl
  have hm : (y - 1) * com true = (y - 1) * 354 := by rw [hc]
  have HS := Lib.hid hs
  clear hs
  go_enter Tryd.func98, Tryd.ntmps98
  go_wp2_with fail
  refine (com_m _).mono ?_
  rintro e w1 ⟨rfl, hb1⟩
  obtain ⟨hc1, hf1⟩ := bcell hb1
  go_wp2_with fail
  refine (mleaps_any _ _ (by omega) (by omega)).mono ?_
  rintro e w2 ⟨rfl, hb2⟩
  replace hb2 := bthen hb1 hb2
  obtain ⟨hc2, hf2⟩ := bcell hb2
  go_wp2_with fail
  go_ret
  exact ⟨ret_int (by first | exact HS.out | (rw [← HS.out, hm])), (by repeat (first | exact Below.refl _ _ | assumption | refine bthen ?_ (by assumption) | refine Below.alloc ?_ (by first | exact Nat.le_refl _ | (simp; done) | (simp; omega) | omega) _ | refine Below.setCell ?_ (by first | exact Nat.le_refl _ | (simp; done) | (simp; omega) | omega) _ | refine below_drewN ?_ _ | refine Below.drew ?_))⟩

/-- A date in memory. -/
structure Dt (w : World) (b : Nat) (y m d : Int) : Prop where
  y : w.cell? ⟨b, 0, none⟩ = some (.int .i64 y)
  m : w.cell? ⟨b, 1, none⟩ = some (.int .i64 m)
  d : w.cell? ⟨b, 2, none⟩ = some (.int .i64 d)
  f : ∀ j, w.frozen? ⟨b, j, none⟩ = false
  lt : b < w.heap.size
theorem Dt.below {w w' : World} {b : Nat} {y m d : Int} (h : Dt w b y m d) (hb : Below w.heap.size w w') : Dt w' b y m d :=
  ⟨(hb.cell (p := ⟨b, 0, none⟩) h.lt).trans h.y, (hb.cell (p := ⟨b, 1, none⟩) h.lt).trans h.m, (hb.cell (p := ⟨b, 2, none⟩) h.lt).trans h.d, fun j => (hb.frozen (p := ⟨b, j, none⟩) h.lt).trans (h.f j), Nat.lt_of_lt_of_le h.lt hb.size⟩
theorem Dt.setY {w : World} {b : Nat} {y m d : Int} (h : Dt w b y m d) (u : Int) : Dt (w.setCell ⟨b, 0, none⟩ (.int .i64 u)) b u m d :=
  ⟨World.cell?_setCell_same' _ _ _ (by rw [h.y]; rfl), (World.cell?_setCell_other _ _ _ _ (fun e => by cases e)).trans h.m, (World.cell?_setCell_other _ _ _ _ (fun e => by cases e)).trans h.d, fun j => by rw [World.frozen?_setCell]; exact h.f j, by simpa using h.lt⟩
theorem Dt.setM {w : World} {b : Nat} {y m d : Int} (h : Dt w b y m d) (u : Int) : Dt (w.setCell ⟨b, 1, none⟩ (.int .i64 u)) b y u d :=
  ⟨(World.cell?_setCell_other _ _ _ _ (fun e => by cases e)).trans h.y, World.cell?_setCell_same' _ _ _ (by rw [h.m]; rfl), (World.cell?_setCell_other _ _ _ _ (fun e => by cases e)).trans h.d, fun j => by rw [World.frozen?_setCell]; exact h.f j, by simpa using h.lt⟩
theorem Dt.setD {w : World} {b : Nat} {y m d : Int} (h : Dt w b y m d) (u : Int) : Dt (w.setCell ⟨b, 2, none⟩ (.int .i64 u)) b y m u :=
  ⟨(World.cell?_setCell_other _ _ _ _ (fun e => by cases e)).trans h.y, (World.cell?_setCell_other _ _ _ _ (fun e => by cases e)).trans h.m, World.cell?_setCell_same' _ _ _ (by rw [h.d]; rfl), fun j => by rw [World.frozen?_setCell]; exact h.f j, by simpa using h.lt⟩

theorem mlL_el (mk : Bool) (y : Int) (j : Nat) (h : j < (plnL mk).length) : (mlL mk y)[j]?.getD 0 = mln mk y (j + 1) := by
  cases mk
  · have h : j < 13 := h
    by_cases hj : j = 12
    · subst hj
      simp [mlL, plnL, mln, pln, nmo]
    · have h1 : (mlL false y)[j]?.getD 0 = (plnL false)[j]?.getD 0 := by
        unfold mlL
        rw [List.getElem?_set_ne (by show ¬ 12 = j; omega)]
      rw [h1, plnC j (by omega)]
      simp only [mln, pln, nmo, Bool.false_eq_true, if_false]
      rw [if_neg (by omega), if_neg (by omega)]; omega
  · have h : j < 12 := h
    by_cases hj : j = 11
    · subst hj
      simp [mlL, plnL, mln, pln, nmo]
    · have h1 : (mlL true y)[j]?.getD 0 = (plnL true)[j]?.getD 0 := by
        unfold mlL
        rw [List.getElem?_set_ne (by show ¬ 11 = j; omega)]
      rw [h1, plnM j (by omega)]
      simp only [mln, pln, nmo, if_true]
      rw [if_neg (by omega)]; omega
theorem smL_pre (mk : Bool) (y : Int) : ∀ k : Nat, k + 1 ≤ (plnL mk).length → smL (mlL mk y) k = pre mk (k + 1) := by
  have hn : ((plnL mk).length : Int) = nmo mk := by cases mk <;> rfl
  intro k
  induction k with
  | zero => intro _; simp [smL, pre_1]
  | succ k ih =>
    intro h
    rw [smL, ih (by omega), mlL_el mk y k (by omega)]
    have := pre_step mk y (m := k + 1) (by omega) (by omega)
    rw [show ((k + 1 : Nat) : Int) + 1 = (k : Int) + 1 + 1 by omega]
    omega
theorem year_guess (mk : Bool) {Y day : Int} (h : sta mk Y ≤ day) (hY : 1 ≤ Y) : Y ≤ day / com mk + 1 := by
  have h1 := lps_bd mk (y := Y - 1) (by omega)
  have h2 : (Y - 1) * com mk ≤ day := by unfold sta at h; omega
  have h3 : 0 < com mk := by cases mk <;> decide
  have := (Int.le_ediv_iff_mul_le h3).2 h2
  omega

theorem ret_dat {y m d e y' m' d' e' : Int} (h1 : y = y') (h2 : m = m') (h3 : d = d') (h4 : e = e') : Ending.returned (.tuple #[.agg #[.int .i64 y, .int .i64 m, .int .i64 d], .int .i64 e]) = .returned (.tuple #[.agg #[.int .i64 y', .int .i64 m', .int .i64 d'], .int .i64 e']) := by rw [h1, h2, h3, h4]
abbrev DatPost (mk : Bool) (day : Int) (w : World) (e : Ending) (w' : World) : Prop :=
  e = .returned (.tuple #[.agg #[.int .i64 (dat mk day).1, .int .i64 (dat mk day).2.1, .int .i64 (dat mk day).2.2], .int .i64 (datE mk day)]) ∧ Below w.heap.size w w'
theorem dMax_lt (mk : Bool) : dMax mk ≤ 4000000 ∧ 3500031 ≤ dMax mk := by cases mk <;> decide
abbrev daO : Obj := Obj.cells #[.int .i64 0, .int .i64 0, .int .i64 0] 50
set_option maxHeartbeats 2000000 in
theorem date_c (day : Int) (w : World) : Calls Tryd.prog 90 #[.iface 100 (.agg #[]), .int .i64 day] w fun e w' => DatPost false day w e w' := by
  have dm := dMax_lt false
  have hM : sta false 10000 = dMax false := rfl
  rcases bool_ft (inB day 0 (dMax false - 1)) with hin | hin
  · have hf := inB_f hin
    have hD := Lib.hid (dat_no (mk := false) (day := day) (by omega))
    have hE := Lib.hid (show datE false day = 1 by unfold datE; rw [if_neg (by omega)])
    go_enter Tryd.func90, Tryd.ntmps90
    go_wp2_with fail
    refine (start_c 10000 _ (by omega) (by omega)).mono ?_
    rintro e w1 ⟨rfl, hb1⟩
    obtain ⟨hc1, hf1⟩ := bcell hb1
    go_wp2_with fail
    refine (within_any day 0 _ _).mono ?_
    rintro e w2 ⟨rfl, rfl⟩
    rw [hin]
    go_wp2_with fail
    refine bodyPost_ret (v := .tuple #[.agg #[.int .i64 0, .int .i64 0, .int .i64 0], .int .i64 1]) (by simp [results, Tryd.results90, go_sem, hc1]) rfl ⟨ret_dat (by rw [hD.out]) (by rw [hD.out]) (by rw [hD.out]) hE.out.symm, ?_⟩
    exact (by repeat (first | exact Below.refl _ _ | assumption | refine bthen ?_ (by assumption) | refine Below.alloc ?_ (by first | exact Nat.le_refl _ | (simp; done) | (simp; omega) | omega) _ | refine Below.setCell ?_ (by first | exact Nat.le_refl _ | (simp; done) | (simp; omega) | omega) _ | refine below_drewN ?_ _ | refine Below.drew ?_))
  · obtain ⟨d0, d1⟩ := inB_t hin
    have hE := Lib.hid (show datE false day = 0 by unfold datE; rw [if_pos (by omega)])
    obtain ⟨hok, hnum⟩ := dat_ok (mk := false) (day := day) d0 (by omega)
    obtain ⟨Y, hY⟩ : ∃ Y, (dat false day).1 = Y := ⟨_, rfl⟩
    obtain ⟨M, hMo⟩ : ∃ M, (dat false day).2.1 = M := ⟨_, rfl⟩
    obtain ⟨D, hDa⟩ : ∃ D, (dat false day).2.2 = D := ⟨_, rfl⟩
    rw [hY, hMo, hDa] at hok hnum
    have HY := Lib.hid hY
    have HMo := Lib.hid hMo
    have HDa := Lib.hid hDa
    clear hY hMo hDa
    obtain ⟨s1, s2, s3, s4⟩ := num_in hok
    obtain ⟨⟨y1, y2⟩, ⟨m1, m2⟩, e1, e2⟩ := okD_iff.1 hok
    rw [hnum] at s1 s2 s3 s4
    have yg := year_guess false s2 y1
    obtain ⟨rem, hrem⟩ : ∃ rem, day - sta false Y = rem := ⟨_, rfl⟩
    have HR := Lib.hid (show rem = pre false M + D - 1 by unfold num at hnum; omega)
    have r1 : rem ≤ 400 := by have := sta_step false Y; have := lpy_bd false Y y1; have : com false = 365 := rfl; omega
    have r0 : 0 ≤ rem := by omega
    have hcom : com false = 365 := rfl
    rw [hcom] at yg
    have hnmo : nmo false = 13 := rfl
    rw [hnmo] at m2
    clear hok hnum s1 s4
    obtain ⟨Y0, hY0⟩ : ∃ Y0, (if day / 365 + 1 ≤ 9999 then day / 365 + 1 else 9999) = Y0 := ⟨_, rfl⟩
    have g1 : Y ≤ Y0 ∧ Y0 ≤ 9999 := by rw [← hY0]; split <;> omega
    go_enter Tryd.func90, Tryd.ntmps90
    go_wp2_with fail
    refine (start_c 10000 _ (by omega) (by omega)).mono ?_
    rintro e w1 ⟨rfl, hb1⟩
    obtain ⟨hc1, hf1⟩ := bcell hb1
    go_wp2_with fail
    refine (within_any day 0 _ _).mono ?_
    rintro e w2 ⟨rfl, rfl⟩
    rw [hin]
    go_wp2_with fail
    refine (com_c _).mono ?_
    rintro e w2 ⟨rfl, hb2⟩
    replace hb2 := bthen hb1 hb2
    obtain ⟨hc2, hf2⟩ := bcell hb2
    go_wp2_with fail
    all_goals
      have hs2 : w.heap.size < w2.heap.size := by have := hb2.size; simp at this; omega
      go_loopw [30] (fun _ wr => ∃ y, Y ≤ y ∧ y ≤ 9999 ∧ Dt wr w2.heap.size y 1 0 ∧ Below (w.alloc daO).heap.size (w.alloc daO) wr) (fun _ wr => (intOf ((wr.cell? ⟨w2.heap.size, 0, none⟩).getD undef)).toNat)
      case atStart =>
        first
          | exact ⟨day / 365 + 1, by omega, by omega, ⟨by simp [go_sem], by simp [go_sem], by simp [go_sem], fun j => frozen_new_row _ _ _ j, by simp⟩, (by repeat (first | exact Below.refl _ _ | assumption | refine bthen ?_ (by assumption) | refine Below.alloc ?_ (by first | exact Nat.le_refl _ | (simp; done) | (simp; omega) | omega) _ | refine Below.setCell ?_ (by first | exact Nat.le_refl _ | (simp; done) | (simp; omega) | omega) _ | refine below_drewN ?_ _ | refine Below.drew ?_))⟩
          | exact ⟨9999, by omega, by omega, ⟨by simp [go_sem], by simp [go_sem], by simp [go_sem], fun j => frozen_new_row _ _ _ j, by simp⟩, (by repeat (first | exact Below.refl _ _ | assumption | refine bthen ?_ (by assumption) | refine Below.alloc ?_ (by first | exact Nat.le_refl _ | (simp; done) | (simp; omega) | omega) _ | refine Below.setCell ?_ (by first | exact Nat.le_refl _ | (simp; done) | (simp; omega) | omega) _ | refine below_drewN ?_ _ | refine Below.drew ?_))⟩
      case round =>
        obtain ⟨y, g1, g2, hD, hB⟩ := hrel
        have hDy := hD.y
        go_wp2_with fail
        refine (start_c y _ (by omega) (by omega)).mono ?_
        rintro e w3 ⟨rfl, hb3⟩
        have hD3 := hD.below hb3
        have hB3 := bthen hB hb3
        have hc3 := hD3.y
        have hf3 := hD3.f 0
        by_cases hlt : day < sta false y
        · have hne : y ≠ Y := fun e => by rw [e] at hlt; omega
          go_wp2_with fail
          refine ⟨⟨y - 1, by omega, by omega, hD3.setY _, hB3.setCell (by simp; omega) _⟩, ?_⟩
          rw [(hD3.setY (y - 1)).y, hDy]
          simp [intOf]; omega
        · have he : y = Y := by
            rcases Int.lt_or_le Y y with h | h
            · have := sta_mono false (y := Y + 1) (z := y) (by omega) (by omega); omega
            · omega
          subst he
          go_wp2_with fail
          refine (start_c y _ (by omega) (by omega)).mono ?_
          rintro e w4 ⟨rfl, hb4⟩
          have hD4 := hD3.below hb4
          have hB4 := bthen hB3 hb4
          have hc4 := hD4.y
          go_wp2_with fail
          refine (months_c y _ (by omega) (by omega)).mono ?_
          rintro e w5 ⟨v, b, rfl, R⟩
          have hv : v = .slice (some ⟨b, 0, none⟩) 13 13 := R.v
          subst hv
          have hD5 := hD4.below R.b
          have hB5 := bthen hB4 R.b
          have hC5 : ∀ j, j < 13 → w5.cell? ⟨b, j, none⟩ = some (.int .i64 (mln false y (j + 1))) := fun j hj => by rw [R.c j hj, mlL_el false y j hj]
          have HC := Lib.hid hC5
          have hbn : w2.heap.size < b := Nat.lt_of_lt_of_le hD4.lt R.n
          have hbl := R.lt
          clear hC5 R hb4 hb3 hDy hc3 hf3 hc4 hD4 hD3 hD hB4 hB3 hB
          go_wp2_with fail
          have hR := HR.out
          go_loopw [1, 8, 44] (fun dy _ i wr2 => ∃ k : Nat, (k : Int) + 1 ≤ M ∧ i = .int .i64 k ∧ dy = .int .i64 (rem - pre false (k + 1)) ∧ Dt wr2 w2.heap.size y (k + 1) 0 ∧ Below (w.alloc daO).heap.size (w.alloc daO) wr2 ∧ b < wr2.heap.size ∧ Hid (∀ j, j < 13 → wr2.cell? ⟨b, j, none⟩ = some (.int .i64 (mln false y (j + 1))))) (fun _ _ i _ => 13 - (intOf i).toNat)
          case atStart => exact ⟨0, by omega, rfl, by have := pre_1 false; congr 1; simp only [Int.natCast_zero, Int.zero_add]; omega, hD5, hB5, hbl, HC⟩
          case round =>
            obtain ⟨k, hkM, rfl, rfl, hDk, hBk, hlk, HCk⟩ := hrel
            have hck := HCk.out k (by omega)
            have hmb := mln_bd false (y := y) (m := k + 1) (by omega) (by omega) (by omega)
            have hpm := pre_mono false (m := k + 1) (n := M) (by omega) hkM
            have hp1 := pre_mono false (m := 1) (n := k + 1) (by omega) (by omega)
            rw [pre_1] at hp1
            rcases Int.lt_or_le ((k : Int) + 1) M with hk | hk
            · have hps := pre_step false y (m := k + 1) (by omega) (by omega)
              have hpm2 := pre_mono false (m := k + 1 + 1) (n := M) (by omega) (by omega)
              obtain ⟨m, hm⟩ : ∃ m, mln false y (k + 1) = m := ⟨_, rfl⟩
              rw [hm] at hck hps hmb
              obtain ⟨p, hp⟩ : ∃ p, pre false (k + 1) = p := ⟨_, rfl⟩
              rw [hp] at hps hpm hp1
              have hr3 : m ≤ rem - p := by omega
              have hp' : pre false ((k + 1 : Nat) + 1) = p + m := by rw [show ((k + 1 : Nat) : Int) + 1 = (k : Int) + 1 + 1 by omega]; exact hps
              have HP := Lib.hid hp'
              clear hp' hps hpm2 hpm hR
              rw [hp]
              clear hp
              have hDm := hDk.m
              have hDf := hDk.f 1
              go_wp2_with fail
              refine ⟨⟨k + 1, by omega, by go_num, by rw [HP.out]; congr 1; omega, hDk.setM _, hBk.setCell (by simp; omega) _, by simpa using hlk, Lib.hid fun j hj => ?_⟩, by simp [intOf]; omega⟩
              rw [World.cell?_setCell_other _ _ _ _ (fun e => by have := congrArg Addr.block e; dsimp only at this; omega)]
              exact HCk.out j hj
            · obtain rfl : (k : Int) + 1 = M := by omega
              have hdy : rem - pre false (k + 1) = D - 1 := by omega
              obtain ⟨m, hm⟩ : ∃ m, mln false y (k + 1) = m := ⟨_, rfl⟩
              rw [hm] at hck e2 hmb
              rw [hdy]
              clear hR hpm hdy hp1 HR
              have hDd := hDk.d
              have hDf := hDk.f 2
              have hDy := hDk.y
              have hDm := hDk.m
              obtain ⟨hcb, hfb⟩ := bcell hBk
              have hn1 : ¬ w.heap.size = w2.heap.size := by omega
              have hn2 : ¬ w2.heap.size = w.heap.size := by omega
              go_wp2_with fail
              refine bodyPost_ret (v := .tuple #[.agg #[.int .i64 y, .int .i64 (k + 1), .int .i64 D], .int .i64 0]) (by simp [results, Tryd.results90, go_sem, hcb]) rfl ⟨ret_dat HY.out.symm HMo.out.symm HDa.out.symm hE.out.symm, ?_⟩
              have hBz := bthen (ballo w daO) hBk
              exact (((hBz.setCell (by simp; omega) _).setCell (by simp) _).setCell (by simp) _).setCell (by simp) _
set_option maxHeartbeats 2000000 in
theorem date_m (day : Int) (w : World) : Calls Tryd.prog 90 #[.iface 101 (.agg #[]), .int .i64 day] w fun e w' => DatPost true day w e w' := by
  have dm := dMax_lt true
  have hM : sta true 10000 = dMax true := rfl
  rcases bool_ft (inB day 0 (dMax true - 1)) with hin | hin
  · have hf := inB_f hin
    have hD := Lib.hid (dat_no (mk := true) (day := day) (by omega))
    have hE := Lib.hid (show datE true day = 1 by unfold datE; rw [if_neg (by omega)])
    go_enter Tryd.func90, Tryd.ntmps90
    go_wp2_with fail
    refine (start_m 10000 _ (by omega) (by omega)).mono ?_
    rintro e w1 ⟨rfl, hb1⟩
    obtain ⟨hc1, hf1⟩ := bcell hb1
    go_wp2_with fail
    refine (within_any day 0 _ _).mono ?_
    rintro e w2 ⟨rfl, rfl⟩
    rw [hin]
    go_wp2_with fail
    refine bodyPost_ret (v := .tuple #[.agg #[.int .i64 0, .int .i64 0, .int .i64 0], .int .i64 1]) (by simp [results, Tryd.results90, go_sem, hc1]) rfl ⟨ret_dat (by rw [hD.out]) (by rw [hD.out]) (by rw [hD.out]) hE.out.symm, ?_⟩
    exact (by repeat (first | exact Below.refl _ _ | assumption | refine bthen ?_ (by assumption) | refine Below.alloc ?_ (by first | exact Nat.le_refl _ | (simp; done) | (simp; omega) | omega) _ | refine Below.setCell ?_ (by first | exact Nat.le_refl _ | (simp; done) | (simp; omega) | omega) _ | refine below_drewN ?_ _ | refine Below.drew ?_))
  · obtain ⟨d0, d1⟩ := inB_t hin
    have hE := Lib.hid (show datE true day = 0 by unfold datE; rw [if_pos (by omega)])
    obtain ⟨hok, hnum⟩ := dat_ok (mk := true) (day := day) d0 (by omega)
    obtain ⟨Y, hY⟩ : ∃ Y, (dat true day).1 = Y := ⟨_, rfl⟩
    obtain ⟨M, hMo⟩ : ∃ M, (dat true day).2.1 = M := ⟨_, rfl⟩
    obtain ⟨D, hDa⟩ : ∃ D, (dat true day).2.2 = D := ⟨_, rfl⟩
    rw [hY, hMo, hDa] at hok hnum
    have HY := Lib.hid hY
    have HMo := Lib.hid hMo
    have HDa := Lib.hid hDa
    clear hY hMo hDa
    obtain ⟨s1, s2, s3, s4⟩ := num_in hok
    obtain ⟨⟨y1, y2⟩, ⟨m1, m2⟩, e1, e2⟩ := okD_iff.1 hok
    rw [hnum] at s1 s2 s3 s4
    have yg := year_guess true s2 y1
    obtain ⟨rem, hrem⟩ : ∃ rem, day - sta true Y = rem := ⟨_, rfl⟩
    have HR := Lib.hid (show rem = pre true M + D - 1 by unfold num at hnum; omega)
    have r1 : rem ≤ 400 := by have := sta_step true Y; have := lpy_bd true Y y1; have : com true = 354 := rfl; omega
    have r0 : 0 ≤ rem := by omega
    have hcom : com true = 354 := rfl
    rw [hcom] at yg
    have hnmo : nmo true = 12 := rfl
    rw [hnmo] at m2
    clear hok hnum s1 s4
    obtain ⟨Y0, hY0⟩ : ∃ Y0, (if day / 354 + 1 ≤ 9999 then day / 354 + 1 else 9999) = Y0 := ⟨_, rfl⟩
    have g1 : Y ≤ Y0 ∧ Y0 ≤ 9999 := by rw [← hY0]; split <;> omega
    go_enter Tryd.func90, Tryd.ntmps90
    go_wp2_with fail
    refine (start_m 10000 _ (by omega) (by omega)).mono ?_
    rintro e w1 ⟨rfl, hb1⟩
    obtain ⟨hc1, hf1⟩ := bcell hb1
    go_wp2_with fail
    refine (within_any day 0 _ _).mono ?_
    rintro e w2 ⟨rfl, rfl⟩
    rw [hin]
    go_wp2_with fail
    refine (com_m _).mono ?_
    rintro e w2 ⟨rfl, hb2⟩
    replace hb2 := bthen hb1 hb2
    obtain ⟨hc2, hf2⟩ := bcell hb2
    go_wp2_with fail
    all_goals
      have hs2 : w.heap.size < w2.heap.size := by have := hb2.size; simp at this; omega
      go_loopw [30] (fun _ wr => ∃ y, Y ≤ y ∧ y ≤ 9999 ∧ Dt wr w2.heap.size y 1 0 ∧ Below (w.alloc daO).heap.size (w.alloc daO) wr) (fun _ wr => (intOf ((wr.cell? ⟨w2.heap.size, 0, none⟩).getD undef)).toNat)
      case atStart =>
        first
          | exact ⟨day / 354 + 1, by omega, by omega, ⟨by simp [go_sem], by simp [go_sem], by simp [go_sem], fun j => frozen_new_row _ _ _ j, by simp⟩, (by repeat (first | exact Below.refl _ _ | assumption | refine bthen ?_ (by assumption) | refine Below.alloc ?_ (by first | exact Nat.le_refl _ | (simp; done) | (simp; omega) | omega) _ | refine Below.setCell ?_ (by first | exact Nat.le_refl _ | (simp; done) | (simp; omega) | omega) _ | refine below_drewN ?_ _ | refine Below.drew ?_))⟩
          | exact ⟨9999, by omega, by omega, ⟨by simp [go_sem], by simp [go_sem], by simp [go_sem], fun j => frozen_new_row _ _ _ j, by simp⟩, (by repeat (first | exact Below.refl _ _ | assumption | refine bthen ?_ (by assumption) | refine Below.alloc ?_ (by first | exact Nat.le_refl _ | (simp; done) | (simp; omega) | omega) _ | refine Below.setCell ?_ (by first | exact Nat.le_refl _ | (simp; done) | (simp; omega) | omega) _ | refine below_drewN ?_ _ | refine Below.drew ?_))⟩
      case round =>
        obtain ⟨y, g1, g2, hD, hB⟩ := hrel
        have hDy := hD.y
        go_wp2_with fail
        refine (start_m y _ (by omega) (by omega)).mono ?_
        rintro e w3 ⟨rfl, hb3⟩
        have hD3 := hD.below hb3
        have hB3 := bthen hB hb3
        have hc3 := hD3.y
        have hf3 := hD3.f 0
        by_cases hlt : day < sta true y
        · have hne : y ≠ Y := fun e => by rw [e] at hlt; omega
          go_wp2_with fail
          refine ⟨⟨y - 1, by omega, by omega, hD3.setY _, hB3.setCell (by simp; omega) _⟩, ?_⟩
          rw [(hD3.setY (y - 1)).y, hDy]
          simp [intOf]; omega
        · have he : y = Y := by
            rcases Int.lt_or_le Y y with h | h
            · have := sta_mono true (y := Y + 1) (z := y) (by omega) (by omega); omega
            · omega
          subst he
          go_wp2_with fail
          refine (start_m y _ (by omega) (by omega)).mono ?_
          rintro e w4 ⟨rfl, hb4⟩
          have hD4 := hD3.below hb4
          have hB4 := bthen hB3 hb4
          have hc4 := hD4.y
          go_wp2_with fail
          refine (months_m y _ (by omega) (by omega)).mono ?_
          rintro e w5 ⟨v, b, rfl, R⟩
          have hv : v = .slice (some ⟨b, 0, none⟩) 12 12 := R.v
          subst hv
          have hD5 := hD4.below R.b
          have hB5 := bthen hB4 R.b
          have hC5 : ∀ j, j < 12 → w5.cell? ⟨b, j, none⟩ = some (.int .i64 (mln true y (j + 1))) := fun j hj => by rw [R.c j hj, mlL_el true y j hj]
          have HC := Lib.hid hC5
          have hbn : w2.heap.size < b := Nat.lt_of_lt_of_le hD4.lt R.n
          have hbl := R.lt
          clear hC5 R hb4 hb3 hDy hc3 hf3 hc4 hD4 hD3 hD hB4 hB3 hB
          go_wp2_with fail
          have hR := HR.out
          go_loopw [1, 8, 44] (fun dy _ i wr2 => ∃ k : Nat, (k : Int) + 1 ≤ M ∧ i = .int .i64 k ∧ dy = .int .i64 (rem - pre true (k + 1)) ∧ Dt wr2 w2.heap.size y (k + 1) 0 ∧ Below (w.alloc daO).heap.size (w.alloc daO) wr2 ∧ b < wr2.heap.size ∧ Hid (∀ j, j < 12 → wr2.cell? ⟨b, j, none⟩ = some (.int .i64 (mln true y (j + 1))))) (fun _ _ i _ => 12 - (intOf i).toNat)
          case atStart => exact ⟨0, by omega, rfl, by have := pre_1 true; congr 1; simp only [Int.natCast_zero, Int.zero_add]; omega, hD5, hB5, hbl, HC⟩
          case round =>
            obtain ⟨k, hkM, rfl, rfl, hDk, hBk, hlk, HCk⟩ := hrel
            have hck := HCk.out k (by omega)
            have hmb := mln_bd true (y := y) (m := k + 1) (by omega) (by omega) (by omega)
            have hpm := pre_mono true (m := k + 1) (n := M) (by omega) hkM
            have hp1 := pre_mono true (m := 1) (n := k + 1) (by omega) (by omega)
            rw [pre_1] at hp1
            rcases Int.lt_or_le ((k : Int) + 1) M with hk | hk
            · have hps := pre_step true y (m := k + 1) (by omega) (by omega)
              have hpm2 := pre_mono true (m := k + 1 + 1) (n := M) (by omega) (by omega)
              obtain ⟨m, hm⟩ : ∃ m, mln true y (k + 1) = m := ⟨_, rfl⟩
              rw [hm] at hck hps hmb
              obtain ⟨p, hp⟩ : ∃ p, pre true (k + 1) = p := ⟨_, rfl⟩
              rw [hp] at hps hpm hp1
              have hr3 : m ≤ rem - p := by omega
              have hp' : pre true ((k + 1 : Nat) + 1) = p + m := by rw [show ((k + 1 : Nat) : Int) + 1 = (k : Int) + 1 + 1 by omega]; exact hps
              have HP := Lib.hid hp'
              clear hp' hps hpm2 hpm hR
              rw [hp]
              clear hp
              have hDm := hDk.m
              have hDf := hDk.f 1
              go_wp2_with fail
              refine ⟨⟨k + 1, by omega, by go_num, by rw [HP.out]; congr 1; omega, hDk.setM _, hBk.setCell (by simp; omega) _, by simpa using hlk, Lib.hid fun j hj => ?_⟩, by simp [intOf]; omega⟩
              rw [World.cell?_setCell_other _ _ _ _ (fun e => by have := congrArg Addr.block e; dsimp only at this; omega)]
              exact HCk.out j hj
            · obtain rfl : (k : Int) + 1 = M := by omega
              have hdy : rem - pre true (k + 1) = D - 1 := by omega
              obtain ⟨m, hm⟩ : ∃ m, mln true y (k + 1) = m := ⟨_, rfl⟩
              rw [hm] at hck e2 hmb
              rw [hdy]
              clear hR hpm hdy hp1 HR
              have hDd := hDk.d
              have hDf := hDk.f 2
              have hDy := hDk.y
              have hDm := hDk.m
              obtain ⟨hcb, hfb⟩ := bcell hBk
              have hn1 : ¬ w.heap.size = w2.heap.size := by omega
              have hn2 : ¬ w2.heap.size = w.heap.size := by omega
              go_wp2_with fail
              refine bodyPost_ret (v := .tuple #[.agg #[.int .i64 y, .int .i64 (k + 1), .int .i64 D], .int .i64 0]) (by simp [results, Tryd.results90, go_sem, hcb]) rfl ⟨ret_dat HY.out.symm HMo.out.symm HDa.out.symm hE.out.symm, ?_⟩
              have hBz := bthen (ballo w daO) hBk
              exact (((hBz.setCell (by simp; omega) _).setCell (by simp) _).setCell (by simp) _).setCell (by simp) _
end Go.Proofs.YtpjnlcdmbkbfcaaDoor
