/- The walk of HoursMoved. -/
import Derived.Test.YtpjnlcdmbkbfcaaDoorMv
import Derived.Test.YtpjnlcdmbkbfcaaDoorBl
import Derived.Test.YtpjnlcdmbkbfcaaDoorHk
namespace Go.Proofs.YtpjnlcdmbkbfcaaDoor
open Go.ChangeShapes Go.WideShapes Go.ChangeAt Go.RowKit Go.BigFrame

theorem exact_mv (S : Sea) (by_ : Int) (vd vr vs : Value) (day : Int) (nt : Bool) (h p : Int) (x : Int) (w : World) (hI : SeaIn w vd vr vs (mvd S by_)) (hv : vld (mvd S by_) = true) (h1 : 0 ≤ day) (h2 : day ≤ 11000) (hk : okH h p = true) (hx : mom (mvd S by_) day nt h p = x) :
    Calls Tryd.prog 51 #[.agg #[.int .i64 S.L, vd, vr, vs], .int .i64 day, .agg #[.bool nt, .int .i64 h, .int .i64 p]] w fun e w' => e = .returned (.int .i64 x) ∧ Below w.heap.size w w' := exact_ok (mvd S by_) vd vr vs day nt h p x w hI hv h1 h2 hk hx
theorem Chk_c (S : Sea) (vd vr vs : Value) (c : Int) (w : World) (hI : SeaIn w vd vr vs S) (hc : chk S = c) : Calls Tryd.prog 26 #[.agg #[.int .i64 S.L, vd, vr, vs]] w fun e w' => e = .returned (.int .i64 c) ∧ Below w.heap.size w w' := by
  rw [← hc]; exact Check_any S vd vr vs w hI.d hI.r hI.s
set_option maxRecDepth 100000 in
set_option maxHeartbeats 16000000 in
theorem law_moved (S : Sea) (vd vr vs : Value) (day : Int) (nt : Bool) (h p : Int) (m by_ : Int) (w : World) (hI : SeaIn w vd vr vs S)
    (_ : -9223372036854775808 ≤ day) (_ : day ≤ 9223372036854775807) (m1 : -9223372036854775808 ≤ m) (m2 : m ≤ 9223372036854775807) (y1 : -9223372036854775808 ≤ by_) (y2 : by_ ≤ 9223372036854775807) :
    Calls Tryd.prog 12 #[.agg #[.int .i64 S.L, vd, vr, vs], .int .i64 day, .agg #[.bool nt, .int .i64 h, .int .i64 p], .int .i64 m, .int .i64 by_] w fun e w' => e = .returned (.bool true) ∧ Below w.heap.size w w' := by
  have hI0 := (hI.alloc (seaO S vd vr vs)).alloc (hrO nt h p)
  have hL0 := ((Bx.none w).cons [.int .i64 S.L, vd, vr, vs] 24).cons [.bool nt, .int .i64 h, .int .i64 p] 37
  simp only [World.size_alloc] at hL0
  have hB0 : Below w.heap.size w ((w.alloc (seaO S vd vr vs)).alloc (hrO nt h p)) := (by repeat (first | exact Below.refl _ _ | assumption | refine bthen ?_ (by assumption) | refine Below.alloc ?_ (by first | exact Nat.le_refl _ | (simp; done) | (simp; omega) | omega) _ | refine Below.setCell ?_ (by first | exact Nat.le_refl _ | (simp; done) | (simp; omega) | omega) _ | refine below_drewN ?_ _ | refine Below.drew ?_))
  have hC := True.intro
  rcases bool_ft (rgt S [day] (okH h p)) with hr | hr
  · have HR := Lib.hid hr
    clear hr
    go_enter Tryd.func12, Tryd.ntmps12
    go_wp2_with fail
    clear hC
    refine (sane_any _).mono ?_
    rintro e w1 ⟨rfl, hb⟩
    have hI1 := hI0.below hb
    have hL1 := hL0.below hb
    have hB1 := bnext hB0 hb
    have hC := hL1.facts
    simp only [AllC, RowC, Nat.zero_add, Nat.reduceAdd] at hC
    go_wp2_with fail
    clear hC
    refine (right_d S _ _ _ day nt h p _ _ hI1 HR.out).mono ?_
    rintro e w2 ⟨rfl, hb⟩
    have hI2 := hI1.below hb
    have hL2 := hL1.below hb
    have hB2 := bnext hB1 hb
    have hC := hL2.facts
    simp only [AllC, RowC, Nat.zero_add, Nat.reduceAdd] at hC
    go_wp2_with fail
    all_goals
      go_ret
      exact ⟨rfl, hB2⟩
  by_cases z1 : by_ < -1440
  · have HR := Lib.hid hr
    clear hr
    go_enter Tryd.func12, Tryd.ntmps12
    go_wp2_with fail
    clear hC
    refine (sane_any _).mono ?_
    rintro e w1 ⟨rfl, hb⟩
    have hI1 := hI0.below hb
    have hL1 := hL0.below hb
    have hB1 := bnext hB0 hb
    have hC := hL1.facts
    simp only [AllC, RowC, Nat.zero_add, Nat.reduceAdd] at hC
    go_wp2_with fail
    clear hC
    refine (right_d S _ _ _ day nt h p _ _ hI1 HR.out).mono ?_
    rintro e w2 ⟨rfl, hb⟩
    have hI2 := hI1.below hb
    have hL2 := hL1.below hb
    have hB2 := bnext hB1 hb
    have hC := hL2.facts
    simp only [AllC, RowC, Nat.zero_add, Nat.reduceAdd] at hC
    go_wp2_with fail
    go_ret
    exact ⟨rfl, hB2⟩
  by_cases z2 : 1440 < by_
  · have HR := Lib.hid hr
    clear hr
    go_enter Tryd.func12, Tryd.ntmps12
    go_wp2_with fail
    clear hC
    refine (sane_any _).mono ?_
    rintro e w1 ⟨rfl, hb⟩
    have hI1 := hI0.below hb
    have hL1 := hL0.below hb
    have hB1 := bnext hB0 hb
    have hC := hL1.facts
    simp only [AllC, RowC, Nat.zero_add, Nat.reduceAdd] at hC
    go_wp2_with fail
    clear hC
    refine (right_d S _ _ _ day nt h p _ _ hI1 HR.out).mono ?_
    rintro e w2 ⟨rfl, hb⟩
    have hI2 := hI1.below hb
    have hL2 := hL1.below hb
    have hB2 := bnext hB1 hb
    have hC := hL2.facts
    simp only [AllC, RowC, Nat.zero_add, Nat.reduceAdd] at hC
    go_wp2_with fail
    go_ret
    exact ⟨rfl, hB2⟩
  obtain ⟨hv, ⟨d1, d2⟩, hk⟩ := rgt_t hr
  obtain ⟨⟨k1, k2⟩, p1, p2⟩ := okH_bd hk
  have V := (vld_iff S).1 hv
  have hIq := hI
  obtain ⟨hd, hrr, hss⟩ := hIq
  have n1 := V.n1
  have n2 := V.n2
  obtain ⟨bd, fd, cd, rfl, _, ld, _⟩ := hd.pos (by omega)
  obtain ⟨br, fr, cr, rfl, _, lr, er⟩ := hrr.pos (by have := V.nr; omega)
  obtain ⟨bs, fs, cs, rfl, _, ls, es⟩ := hss.pos (by have := V.ns; omega)
  rw [V.nr] at hI hI0 hL0 hB0 er hrr ⊢
  rw [V.ns] at hI hI0 hL0 hB0 es hss ⊢
  have AR : Hid (∀ k, k < S.d.length → 60 ≤ el S.r k ∧ el S.r k ≤ 700) := fun k hk => allB_el V.ar (by rw [V.nr]; exact hk)
  have AS : Hid (∀ k, k < S.d.length → 740 ≤ el S.s k ∧ el S.s k ≤ 1380) := fun k hk => allB_el V.at_ (by rw [V.ns]; exact hk)
  have ER := Lib.hid er
  have ES := Lib.hid es
  obtain ⟨n, hn⟩ : ∃ n, S.d.length = n := ⟨_, rfl⟩
  have HN := Lib.hid hn
  rw [hn] at hI hI0 hL0 hB0 AR AS ER ES n1 n2 ⊢
  have HR := Lib.hid hr
  have HV := Lib.hid hv
  have HK := Lib.hid hk
  clear hr hv hk V hd hrr hss er es hn
  go_enter Tryd.func12, Tryd.ntmps12
  go_wp2_with fail
  clear hC
  refine (sane_any _).mono ?_
  rintro e w1 ⟨rfl, hb⟩
  have hI1 := hI0.below hb
  have hL1 := hL0.below hb
  have hB1 := bnext hB0 hb
  have hC := hL1.facts
  simp only [AllC, RowC, Nat.zero_add, Nat.reduceAdd] at hC
  go_wp2_with fail
  clear hC
  refine (right_d S _ _ _ day nt h p _ _ hI1 HR.out).mono ?_
  rintro e w2 ⟨rfl, hb⟩
  have hI2 := hI1.below hb
  have hL2 := hL1.below hb
  have hB2 := bnext hB1 hb
  have hC := hL2.facts
  simp only [AllC, RowC, Nat.zero_add, Nat.reduceAdd] at hC
  go_wp2_with fail
  go_loopw [48] (fun i wr => ∃ (k : Nat) (v1 v2 : Value), k ≤ n ∧ i = .int .i64 (k : Int) ∧ Two wr (w2.heap.size + 1) v1 (mpL S.r by_ k) v2 (mpL S.s by_ k) ∧ Box wr w2.heap.size [.int .i64 S.L, .slice (some ⟨bd, fd, none⟩) n cd, v1, v2] ∧ Hid (∀ j, wr.frozen? ⟨w2.heap.size, j, none⟩ = false) ∧ Below w2.heap.size w2 wr) (fun i _ => n - (intOf i).toNat)
  case atStart => exact ⟨0, _, _, by omega, rfl, Two.nil _ _, Box.new w2 [_, _, _, _] 24, Lib.hid (fun j => frozen_new_row w2 _ _ j), ballo w2 _⟩
  case round =>
    obtain ⟨k, v1, v2, hk, rfl, hT, hM, hfr, hB⟩ := hrel
    have hI3 := hI2.below hB
    have hL3 := (hL2.below hB).add hM
    have hB3 := bnext hB2 hB
    clear hC
    have hC := hL3.facts
    simp only [AllC, RowC, Nat.zero_add, Nat.reduceAdd] at hC
    by_cases hlt : k < n
    · obtain ⟨x1, x2⟩ := AR.out k hlt
      obtain ⟨x3, x4⟩ := AS.out k hlt
      have hz := hB.size
      have g1 : br < w2.heap.size := Nat.lt_of_lt_of_le lr (by have := hB2.size; omega)
      have g2 : bs < w2.heap.size := Nat.lt_of_lt_of_le ls (by have := hB2.size; omega)
      have g3 : w2.heap.size < wr.heap.size := hM.lt
      have g4 : w.heap.size < w2.heap.size := (hL2 (w.heap.size, [.int .i64 S.L, .slice (some ⟨bd, fd, none⟩) n cd, .slice (some ⟨br, fr, none⟩) n cr, .slice (some ⟨bs, fs, none⟩) n cs]) (by simp)).lt
      have e1 : wr.cell? ⟨br, fr + k, none⟩ = some (.int .i64 (el S.r k)) := ((hB3.cell (p := ⟨br, fr + k, none⟩) lr).trans (ER.out k hlt))
      have e2 : wr.cell? ⟨bs, fs + k, none⟩ = some (.int .i64 (el S.s k)) := ((hB3.cell (p := ⟨bs, fs + k, none⟩) ls).trans (ES.out k hlt))
      have HW : Hid (∀ b, wr.heap.size ≤ b → v1.ownBlock ≠ some b) := Lib.hid (fun b hb e => by have := (World.ownsRow.lt hT.1 b e).2; omega)
      have HT := Lib.hid (fun (z : World) (hz : Below wr.heap.size wr z) => hT.below hz)
      have HF := Lib.hid (fun (z : World) (hz : Below (w2.heap.size + 1) wr z) => (show (z.cell? ⟨w2.heap.size, 2, none⟩ = some v1 ∧ z.cell? ⟨w2.heap.size, 3, none⟩ = some v2) ∧ (z.cell? ⟨w.heap.size, 2, none⟩ = some (.slice (some ⟨br, fr, none⟩) n cr) ∧ z.cell? ⟨w.heap.size, 3, none⟩ = some (.slice (some ⟨bs, fs, none⟩) n cs)) ∧ (z.cell? ⟨br, fr + k, none⟩ = some (.int .i64 (el S.r k)) ∧ z.cell? ⟨bs, fs + k, none⟩ = some (.int .i64 (el S.s k))) ∧ (z.frozen? ⟨w2.heap.size, 2, none⟩ = false ∧ z.frozen? ⟨w2.heap.size, 3, none⟩ = false) ∧ (w2.heap.size < z.heap.size ∧ w.heap.size < z.heap.size ∧ br < z.heap.size ∧ bs < z.heap.size) from
        ⟨⟨(hz.cell (p := ⟨w2.heap.size, 2, none⟩) (by show w2.heap.size < w2.heap.size + 1; omega)).trans (hM.c 2 (by simp)), (hz.cell (p := ⟨w2.heap.size, 3, none⟩) (by show w2.heap.size < w2.heap.size + 1; omega)).trans (hM.c 3 (by simp))⟩,
         ⟨(hz.cell (p := ⟨w.heap.size, 2, none⟩) (by show w.heap.size < w2.heap.size + 1; omega)).trans ((hL3 (w.heap.size, [.int .i64 S.L, .slice (some ⟨bd, fd, none⟩) n cd, .slice (some ⟨br, fr, none⟩) n cr, .slice (some ⟨bs, fs, none⟩) n cs]) (by simp)).c 2 (by simp)), (hz.cell (p := ⟨w.heap.size, 3, none⟩) (by show w.heap.size < w2.heap.size + 1; omega)).trans ((hL3 (w.heap.size, [.int .i64 S.L, .slice (some ⟨bd, fd, none⟩) n cd, .slice (some ⟨br, fr, none⟩) n cr, .slice (some ⟨bs, fs, none⟩) n cs]) (by simp)).c 3 (by simp))⟩,
         ⟨(hz.cell (p := ⟨br, fr + k, none⟩) (by show br < w2.heap.size + 1; omega)).trans e1, (hz.cell (p := ⟨bs, fs + k, none⟩) (by show bs < w2.heap.size + 1; omega)).trans e2⟩,
         ⟨(hz.frozen (p := ⟨w2.heap.size, 2, none⟩) (by show w2.heap.size < w2.heap.size + 1; omega)).trans (hfr.out 2), (hz.frozen (p := ⟨w2.heap.size, 3, none⟩) (by show w2.heap.size < w2.heap.size + 1; omega)).trans (hfr.out 3)⟩,
         by have := hz.size; omega, by have := hz.size; omega, by have := hz.size; omega, by have := hz.size; omega⟩))
      obtain ⟨⟨a1, a2⟩, ⟨a3, a4⟩, ⟨a5, a6⟩, ⟨a7, a8⟩, a9, a10, a11, a12⟩ := HF.out wr (Below.refl _ _)
      have hmp1 := mpL_len S.r by_ k
      have hmp2 := mpL_len S.s by_ k
      have HP1 := Lib.hid hmp1
      have HP2 := Lib.hid hmp2
      have HM := Lib.hid hM
      have HL3 := Lib.hid hL3
      have mk1 : mpL S.r by_ (k + 1) = mpL S.r by_ k ++ [el S.r k + by_] := rfl
      have mk2 : mpL S.s by_ (k + 1) = mpL S.s by_ k ++ [el S.s k + by_] := rfl
      have MK1 := Lib.hid mk1
      have MK2 := Lib.hid mk2
      generalize el S.r k = ex at *
      generalize el S.s k = ey at *
      have hw1 : IntKind.i64.wrap (ex + by_) = ex + by_ := IntWalk.i64_in _ (by omega)
      have hw2 : IntKind.i64.wrap (ey + by_) = ey + by_ := IntWalk.i64_in _ (by omega)
      clear hC hmp1 hmp2 e1 e2 mk1 mk2 hT hM hL3
      as_aux_lemma =>
        go_wp2_with fail
        have HS := Lib.hid (fun (x : World) (hz : Below (w2.heap.size + 1) wr x) => (show x.cell? ⟨w2.heap.size, 2, none⟩ = some v1 ∧ x.cell? ⟨w2.heap.size, 3, none⟩ = some v2 ∧ x.cell? ⟨w.heap.size, 2, none⟩ = some (.slice (some ⟨br, fr, none⟩) n cr) ∧ x.cell? ⟨w.heap.size, 3, none⟩ = some (.slice (some ⟨bs, fs, none⟩) n cs) ∧ x.cell? ⟨br, fr + k, none⟩ = some (.int .i64 ex) ∧ x.cell? ⟨bs, fs + k, none⟩ = some (.int .i64 ey) from
          ⟨(HF.out x hz).1.1, (HF.out x hz).1.2, (HF.out x hz).2.1.1, (HF.out x hz).2.1.2, (HF.out x hz).2.2.1.1, (HF.out x hz).2.2.1.2⟩))
        have gb : w2.heap.size + 1 ≤ wr.heap.size := by omega
        refine WpK.begin (S := fun x => x.cell? ⟨w2.heap.size, 2, none⟩ = some v1 ∧ x.cell? ⟨w2.heap.size, 3, none⟩ = some v2 ∧ x.cell? ⟨w.heap.size, 2, none⟩ = some (.slice (some ⟨br, fr, none⟩) n cr) ∧ x.cell? ⟨w.heap.size, 3, none⟩ = some (.slice (some ⟨bs, fs, none⟩) n cs) ∧ x.cell? ⟨br, fr + k, none⟩ = some (.int .i64 ex) ∧ x.cell? ⟨bs, fs + k, none⟩ = some (.int .i64 ey)) (n := 23) (f := 26) (up := #[false, false, false, false, false, false, false, false, false, false, false, false, false, false, false, false, false, false, false, false, false, false, false, false, false, false]) (by kernel_rfl) (by kernel_rfl) (by kernel_rfl) ?_
        have hS0 : (fun x => x.cell? ⟨w2.heap.size, 2, none⟩ = some v1 ∧ x.cell? ⟨w2.heap.size, 3, none⟩ = some v2 ∧ x.cell? ⟨w.heap.size, 2, none⟩ = some (.slice (some ⟨br, fr, none⟩) n cr) ∧ x.cell? ⟨w.heap.size, 3, none⟩ = some (.slice (some ⟨bs, fs, none⟩) n cs) ∧ x.cell? ⟨br, fr + k, none⟩ = some (.int .i64 ex) ∧ x.cell? ⟨bs, fs + k, none⟩ = some (.int .i64 ey)) wr.drew := HS.out _ (Below.mono (B := wr.heap.size) (Below.drew (Below.refl _ _)) gb)
        refine WpK.take (i := 0) (v := ?_) ((toArray_at _ _).trans rfl) (by kernel_rfl) (by kernel_rfl) (by kernel_rfl) (by kernel_rfl) (by kernel_rfl) (fun _ _ _ h => h) (Or.inl ⟨by rfl, ?_⟩) hS0 ?_
        rotate_left
        · (intro x hx; (try dsimp only at hx); go_simp <;> with_reducible rfl)
        try simp only [Act.put, List.setIfInBounds_toArray, List.set_cons_zero, List.set_cons_succ]
        refine WpK.take (i := 1) (v := ?_) ((toArray_at _ _).trans rfl) (by kernel_rfl) (by kernel_rfl) (by kernel_rfl) (by kernel_rfl) (by kernel_rfl) (fun _ _ _ h => h) (Or.inl ⟨by rfl, ?_⟩) hS0 ?_
        rotate_left
        · (intro x hx; (try dsimp only at hx); go_simp <;> with_reducible rfl)
        try simp only [Act.put, List.setIfInBounds_toArray, List.set_cons_zero, List.set_cons_succ]
        refine WpK.take (i := 2) (v := ?_) ((toArray_at _ _).trans rfl) (by kernel_rfl) (by kernel_rfl) (by kernel_rfl) (by kernel_rfl) (by kernel_rfl) (fun _ _ _ h => h) (Or.inl ⟨by rfl, ?_⟩) hS0 ?_
        rotate_left
        · (intro x hx; (try dsimp only at hx); go_simp <;> with_reducible rfl)
        try simp only [Act.put, List.setIfInBounds_toArray, List.set_cons_zero, List.set_cons_succ]
        refine WpK.take (i := 3) (v := ?_) ((toArray_at _ _).trans rfl) (by kernel_rfl) (by kernel_rfl) (by kernel_rfl) (by kernel_rfl) (by kernel_rfl) (fun _ _ _ h => h) (Or.inl ⟨by rfl, ?_⟩) hS0 ?_
        rotate_left
        · (intro x hx; (try dsimp only at hx); go_simp <;> with_reducible rfl)
        try simp only [Act.put, List.setIfInBounds_toArray, List.set_cons_zero, List.set_cons_succ]
        refine WpK.take (i := 4) (v := ?_) ((toArray_at _ _).trans rfl) (by kernel_rfl) (by kernel_rfl) (by kernel_rfl) (by kernel_rfl) (by kernel_rfl) (fun _ _ _ h => h) (Or.inl ⟨by rfl, ?_⟩) hS0 ?_
        rotate_left
        · (intro x hx; (try dsimp only at hx); go_simp <;> with_reducible rfl)
        try simp only [Act.put, List.setIfInBounds_toArray, List.set_cons_zero, List.set_cons_succ]
        refine WpK.take (i := 5) (v := ?_) ((toArray_at _ _).trans rfl) (by kernel_rfl) (by kernel_rfl) (by kernel_rfl) (by kernel_rfl) (by kernel_rfl) (fun _ _ _ h => h) (Or.inl ⟨by rfl, ?_⟩) hS0 ?_
        rotate_left
        · (intro x hx; (try dsimp only at hx); go_simp <;> with_reducible rfl)
        try simp only [Act.put, List.setIfInBounds_toArray, List.set_cons_zero, List.set_cons_succ]
        refine WpK.take (i := 6) (v := ?_) ((toArray_at _ _).trans rfl) (by kernel_rfl) (by kernel_rfl) (by kernel_rfl) (by kernel_rfl) (by kernel_rfl) (fun _ _ _ h => h) (Or.inl ⟨by rfl, ?_⟩) hS0 ?_
        rotate_left
        · (intro x hx; (try dsimp only at hx); go_simp <;> with_reducible rfl)
        try simp only [Act.put, List.setIfInBounds_toArray, List.set_cons_zero, List.set_cons_succ]
        refine WpK.take (i := 7) (v := ?_) ((toArray_at _ _).trans rfl) (by kernel_rfl) (by kernel_rfl) (by kernel_rfl) (by kernel_rfl) (by kernel_rfl) (fun _ _ _ h => h) (Or.inl ⟨by rfl, ?_⟩) hS0 ?_
        rotate_left
        · (intro x hx; (try dsimp only at hx); go_simp <;> with_reducible rfl)
        try simp only [Act.put, List.setIfInBounds_toArray, List.set_cons_zero, List.set_cons_succ]
        refine WpK.take (i := 8) (v := ?_) ((toArray_at _ _).trans rfl) (by kernel_rfl) (by kernel_rfl) (by kernel_rfl) (by kernel_rfl) (by kernel_rfl) (fun _ _ _ h => h) (Or.inl ⟨by rfl, ?_⟩) hS0 ?_
        rotate_left
        · (intro x hx; (try dsimp only at hx); go_simp <;> with_reducible rfl)
        try simp only [Act.put, List.setIfInBounds_toArray, List.set_cons_zero, List.set_cons_succ]
        refine WpK.take (i := 11) (v := ?_) ((toArray_at _ _).trans rfl) (by kernel_rfl) (by kernel_rfl) (by kernel_rfl) (by kernel_rfl) (by kernel_rfl) (fun _ _ _ h => h) (Or.inl ⟨by rfl, ?_⟩) hS0 ?_
        rotate_left
        · (intro x hx; (try dsimp only at hx); go_simp <;> with_reducible rfl)
        try simp only [Act.put, List.setIfInBounds_toArray, List.set_cons_zero, List.set_cons_succ]
        refine WpK.take (i := 12) (v := ?_) ((toArray_at _ _).trans rfl) (by kernel_rfl) (by kernel_rfl) (by kernel_rfl) (by kernel_rfl) (by kernel_rfl) (fun _ _ _ h => h) (Or.inl ⟨by rfl, ?_⟩) hS0 ?_
        rotate_left
        · (intro x hx; (try dsimp only at hx); go_simp <;> with_reducible rfl)
        try simp only [Act.put, List.setIfInBounds_toArray, List.set_cons_zero, List.set_cons_succ]
        refine WpK.take (i := 13) (v := ?_) ((toArray_at _ _).trans rfl) (by kernel_rfl) (by kernel_rfl) (by kernel_rfl) (by kernel_rfl) (by kernel_rfl) (fun _ _ _ h => h) (Or.inl ⟨by rfl, ?_⟩) hS0 ?_
        rotate_left
        · (intro x hx; (try dsimp only at hx); go_simp <;> with_reducible rfl)
        try simp only [Act.put, List.setIfInBounds_toArray, List.set_cons_zero, List.set_cons_succ]
        refine WpK.take (i := 14) (v := ?_) ((toArray_at _ _).trans rfl) (by kernel_rfl) (by kernel_rfl) (by kernel_rfl) (by kernel_rfl) (by kernel_rfl) (fun _ _ _ h => h) (Or.inl ⟨by rfl, ?_⟩) hS0 ?_
        rotate_left
        · (intro x hx; (try dsimp only at hx); go_simp <;> with_reducible rfl)
        try simp only [Act.put, List.setIfInBounds_toArray, List.set_cons_zero, List.set_cons_succ]
        refine WpK.take (i := 15) (v := ?_) ((toArray_at _ _).trans rfl) (by kernel_rfl) (by kernel_rfl) (by kernel_rfl) (by kernel_rfl) (by kernel_rfl) (fun _ _ _ h => h) (Or.inl ⟨by rfl, ?_⟩) hS0 ?_
        rotate_left
        · (intro x hx; (try dsimp only at hx); go_simp <;> with_reducible rfl)
        try simp only [Act.put, List.setIfInBounds_toArray, List.set_cons_zero, List.set_cons_succ]
        refine WpK.take (i := 16) (v := ?_) ((toArray_at _ _).trans rfl) (by kernel_rfl) (by kernel_rfl) (by kernel_rfl) (by kernel_rfl) (by kernel_rfl) (fun _ _ _ h => h) (Or.inl ⟨by rfl, ?_⟩) hS0 ?_
        rotate_left
        · (intro x hx; (try dsimp only at hx); go_simp <;> with_reducible rfl)
        try simp only [Act.put, List.setIfInBounds_toArray, List.set_cons_zero, List.set_cons_succ]
        refine WpK.take (i := 17) (v := ?_) ((toArray_at _ _).trans rfl) (by kernel_rfl) (by kernel_rfl) (by kernel_rfl) (by kernel_rfl) (by kernel_rfl) (fun _ _ _ h => h) (Or.inl ⟨by rfl, ?_⟩) hS0 ?_
        rotate_left
        · (intro x hx; (try dsimp only at hx); go_simp <;> with_reducible rfl)
        try simp only [Act.put, List.setIfInBounds_toArray, List.set_cons_zero, List.set_cons_succ]
        refine WpK.take (i := 18) (v := ?_) ((toArray_at _ _).trans rfl) (by kernel_rfl) (by kernel_rfl) (by kernel_rfl) (by kernel_rfl) (by kernel_rfl) (fun _ _ _ h => h) (Or.inl ⟨by rfl, ?_⟩) hS0 ?_
        rotate_left
        · (intro x hx; (try dsimp only at hx); go_simp <;> with_reducible rfl)
        try simp only [Act.put, List.setIfInBounds_toArray, List.set_cons_zero, List.set_cons_succ]
        refine WpK.take (i := 19) (v := ?_) ((toArray_at _ _).trans rfl) (by kernel_rfl) (by kernel_rfl) (by kernel_rfl) (by kernel_rfl) (by kernel_rfl) (fun _ _ _ h => h) (Or.inl ⟨by rfl, ?_⟩) hS0 ?_
        rotate_left
        · (intro x hx; (try dsimp only at hx); go_simp <;> with_reducible rfl)
        try simp only [Act.put, List.setIfInBounds_toArray, List.set_cons_zero, List.set_cons_succ]
        clear hS0
        refine WpK.two (i := 9) (k := 20) (by kernel_rfl) ((toArray_at _ _).trans rfl) ((toArray_at _ _).trans rfl) ?_ ?_
        · skip
          intro K hK
          have HK := Lib.hid hK
          clear hK
          go_simp
          refine HK.out _ _ (fun _ => HS.out _ (Below.mono (B := wr.heap.size) (by (repeat (first | exact Below.refl _ _ | refine Below.alloc ?_ (by first | exact Nat.le_refl _ | (simp; done) | (simp; omega) | omega) _ | refine Below.drew ?_))) gb)) (fun _ => ?_)
          clear HK K
          try simp only [List.setIfInBounds_toArray, List.set_cons_zero, List.set_cons_succ]
          refine WpK.two (i := 10) (k := 20) (by kernel_rfl) ((toArray_at _ _).trans rfl) ((toArray_at _ _).trans rfl) ?_ ?_
          · skip
            intro K hK
            have HK := Lib.hid hK
            clear hK
            refine step_two ?_ (.tmp 52) (.tmp 60) ?_ (w2.heap.size + 1) v1 (mpL S.r by_ k) v2 (mpL S.s by_ k) ?_ (HT.out _ ?_) ⟨wr.heap.size, 0, none⟩ 1 (ex + by_) ?_ ?_ k HP1.out ?_ ?_ ?_
            · rfl
            · rfl
            · rfl
            · (repeat (first | exact Below.refl _ _ | refine Below.alloc ?_ (by first | exact Nat.le_refl _ | (simp; done) | (simp; omega) | omega) _ | refine Below.drew ?_))
            · rfl
            · simp [go_sem]
            · omega
            · (simp; omega)
            intro g1 t1 q1 hT1 hE1
            have hP1 : Below (w2.heap.size + 1) wr q1 := Below.trans (Below.mono (B := wr.heap.size) (by (repeat (first | exact Below.refl _ _ | refine Below.alloc ?_ (by first | exact Nat.le_refl _ | (simp; done) | (simp; omega) | omega) _ | refine Below.drew ?_))) gb) hE1
            obtain ⟨⟨b1, b2⟩, ⟨b3, b4⟩, ⟨b5, b6⟩, ⟨b7, b8⟩, b9, b10, b11, b12⟩ := HF.out q1 hP1
            refine HK.out _ _ (fun _ => HS.out _ hP1) (fun _ => ?_)
            clear HK K
            try simp only [Act.put, List.setIfInBounds_toArray, List.set_cons_zero, List.set_cons_succ]
            refine WpK.take (i := 22) (v := ?_) ((toArray_at _ _).trans rfl) (by kernel_rfl) (by kernel_rfl) (by kernel_rfl) (by kernel_rfl) (by kernel_rfl) (fun _ _ _ h => h) (Or.inl ⟨by rfl, ?_⟩) (HS.out _ hP1) ?_
            rotate_left
            · (intro x hx; (try dsimp only at hx); go_simp <;> with_reducible rfl)
            try simp only [Act.put, List.setIfInBounds_toArray, List.set_cons_zero, List.set_cons_succ]
            refine WpK.one (i := 20) (by kernel_rfl) ((toArray_at _ _).trans rfl) ?_
            intro K hK
            have HK := Lib.hid hK
            clear hK
            go_simp
            refine HK.out _ _ (fun _ => HS.out _ (Below.trans hP1 (Below.mono (B := q1.heap.size) (by (repeat (first | exact Below.refl _ _ | refine Below.alloc ?_ (by first | exact Nat.le_refl _ | (simp; done) | (simp; omega) | omega) _ | refine Below.drew ?_))) (Nat.le_trans gb hP1.size)))) (fun _ => ?_)
            clear HK K
            try simp only [List.setIfInBounds_toArray, List.set_cons_zero, List.set_cons_succ]
            refine WpK.one (i := 21) (by kernel_rfl) ((toArray_at _ _).trans rfl) ?_
            intro K hK
            have HK := Lib.hid hK
            clear hK
            refine step_two ?_ (.tmp 63) (.tmp 71) ?_ (w2.heap.size + 1) v2 (mpL S.s by_ k) (.slice (some ⟨g1, 0, none⟩) (k + 1) t1) (mpL S.r by_ k ++ [ex + by_]) ?_ (Two.swap (hT1.below ?_)) ⟨q1.heap.size, 0, none⟩ 1 (ey + by_) ?_ ?_ k HP2.out ?_ ?_ ?_
            · rfl
            · rfl
            · rfl
            · (repeat (first | exact Below.refl _ _ | refine Below.alloc ?_ (by first | exact Nat.le_refl _ | (simp; done) | (simp; omega) | omega) _ | refine Below.drew ?_))
            · rfl
            · simp [go_sem]
            · omega
            · (first | exact Nat.le_trans gb hP1.size | (have := hP1.size; simp; omega))
            intro g2 t2 q2 hT2 hE2
            have hP2 : Below (w2.heap.size + 1) wr q2 := Below.trans (Below.trans hP1 (Below.mono (B := q1.heap.size) (by (repeat (first | exact Below.refl _ _ | refine Below.alloc ?_ (by first | exact Nat.le_refl _ | (simp; done) | (simp; omega) | omega) _ | refine Below.drew ?_))) (Nat.le_trans gb hP1.size))) hE2
            obtain ⟨⟨c1, c2⟩, ⟨c3, c4⟩, ⟨c5, c6⟩, ⟨c7, c8⟩, c9, c10, c11, c12⟩ := HF.out q2 hP2
            refine HK.out _ _ (fun _ => HS.out _ hP2) (fun _ => ?_)
            clear HK K
            try simp only [Act.put, List.setIfInBounds_toArray, List.set_cons_zero, List.set_cons_succ]
            refine WpK.one (i := 23) (by kernel_rfl) ((toArray_at _ _).trans rfl) ?_
            intro K hK
            have HK := Lib.hid hK
            clear hK
            go_simp
            refine HK.out _ _ (fun h => absurd h (by decide)) (fun _ => ?_)
            clear HK K
            try simp only [List.setIfInBounds_toArray, List.set_cons_zero, List.set_cons_succ]
            refine WpK.one (i := 24) (by kernel_rfl) ((toArray_at _ _).trans rfl) ?_
            intro K hK
            have HK := Lib.hid hK
            clear hK
            go_simp
            refine HK.out _ _ (fun h => absurd h (by decide)) (fun _ => ?_)
            clear HK K
            try simp only [List.setIfInBounds_toArray, List.set_cons_zero, List.set_cons_succ]
            refine WpK.one (i := 25) (by kernel_rfl) ((toArray_at _ _).trans rfl) ?_
            intro K hK
            have HK := Lib.hid hK
            clear hK
            go_simp
            refine HK.out _ _ (fun h => absurd h (by decide)) (fun _ => ?_)
            clear HK K
            try simp only [List.setIfInBounds_toArray, List.set_cons_zero, List.set_cons_succ]
            refine WpK.done (by kernel_rfl) ?_
            obtain ⟨f1, f2, f3, f4⟩ := mv_end hB hP2 HM.out hfr.out hT2
            go_wp2_with fail
            exact ⟨⟨k + 1, .slice (some ⟨g1, 0, none⟩) (k + 1) t1, .slice (some ⟨g2, 0, none⟩) (k + 1) t2, by omega, by go_num, by rw [MK1.out, MK2.out]; exact f1, f2, f3, f4⟩, by simp [intOf]; omega⟩
          · skip
            intro K hK
            have HK := Lib.hid hK
            clear hK
            go_simp
            refine HK.out _ _ (fun _ => HS.out _ (Below.mono (B := wr.heap.size) (by (repeat (first | exact Below.refl _ _ | refine Below.alloc ?_ (by first | exact Nat.le_refl _ | (simp; done) | (simp; omega) | omega) _ | refine Below.drew ?_))) gb)) (fun _ => ?_)
            clear HK K
            try simp only [List.setIfInBounds_toArray, List.set_cons_zero, List.set_cons_succ]
            refine WpK.one (i := 10) (by kernel_rfl) ((toArray_at _ _).trans rfl) ?_
            intro K hK
            have HK := Lib.hid hK
            clear hK
            refine step_two_k ?_ (.tmp 52) (.tmp 60) ?_ (w2.heap.size + 1) v1 (mpL S.r by_ k) v2 (mpL S.s by_ k) ?_ (HT.out _ ?_) ⟨wr.heap.size, 0, none⟩ 1 (ex + by_) ?_ ?_ k HP1.out ?_ ?_ (wr.heap.size + 1) (.int .i64 (ey + by_)) ?_ (HW.out _ ?_) ?_
            · rfl
            · rfl
            · rfl
            · (repeat (first | exact Below.refl _ _ | refine Below.alloc ?_ (by first | exact Nat.le_refl _ | (simp; done) | (simp; omega) | omega) _ | refine Below.drew ?_))
            · rfl
            · simp [go_sem]
            · omega
            · (simp; omega)
            · simp [go_sem]
            · first | exact Nat.le_refl _ | exact Nat.le_succ _
            intro g1 t1 q1 hT1 hE1 hy2
            have hP1 : Below (w2.heap.size + 1) wr q1 := Below.trans (Below.mono (B := wr.heap.size) (by (repeat (first | exact Below.refl _ _ | refine Below.alloc ?_ (by first | exact Nat.le_refl _ | (simp; done) | (simp; omega) | omega) _ | refine Below.drew ?_))) gb) hE1
            obtain ⟨⟨b1, b2⟩, ⟨b3, b4⟩, ⟨b5, b6⟩, ⟨b7, b8⟩, b9, b10, b11, b12⟩ := HF.out q1 hP1
            refine HK.out _ _ (fun _ => HS.out _ hP1) (fun _ => ?_)
            clear HK K
            try simp only [Act.put, List.setIfInBounds_toArray, List.set_cons_zero, List.set_cons_succ]
            refine WpK.take (i := 22) (v := ?_) ((toArray_at _ _).trans rfl) (by kernel_rfl) (by kernel_rfl) (by kernel_rfl) (by kernel_rfl) (by kernel_rfl) (fun _ _ _ h => h) (Or.inl ⟨by rfl, ?_⟩) (HS.out _ hP1) ?_
            rotate_left
            · (intro x hx; (try dsimp only at hx); go_simp <;> with_reducible rfl)
            try simp only [Act.put, List.setIfInBounds_toArray, List.set_cons_zero, List.set_cons_succ]
            refine WpK.one (i := 21) (by kernel_rfl) ((toArray_at _ _).trans rfl) ?_
            intro K hK
            have HK := Lib.hid hK
            clear hK
            refine step_two ?_ (.tmp 63) (.tmp 71) ?_ (w2.heap.size + 1) v2 (mpL S.s by_ k) (.slice (some ⟨g1, 0, none⟩) (k + 1) t1) (mpL S.r by_ k ++ [ex + by_]) ?_ (Two.swap (hT1.below ?_)) ⟨wr.heap.size + 1, 0, none⟩ 1 (ey + by_) ?_ ?_ k HP2.out ?_ ?_ ?_
            · rfl
            · rfl
            · rfl
            · (repeat (first | exact Below.refl _ _ | refine Below.alloc ?_ (by first | exact Nat.le_refl _ | (simp; done) | (simp; omega) | omega) _ | refine Below.drew ?_))
            · rfl
            · exact hy2
            · omega
            · (first | exact Nat.le_trans gb hP1.size | (have := hP1.size; simp; omega))
            intro g2 t2 q2 hT2 hE2
            have hP2 : Below (w2.heap.size + 1) wr q2 := Below.trans (Below.trans hP1 (Below.mono (B := q1.heap.size) (by (repeat (first | exact Below.refl _ _ | refine Below.alloc ?_ (by first | exact Nat.le_refl _ | (simp; done) | (simp; omega) | omega) _ | refine Below.drew ?_))) (Nat.le_trans gb hP1.size))) hE2
            obtain ⟨⟨c1, c2⟩, ⟨c3, c4⟩, ⟨c5, c6⟩, ⟨c7, c8⟩, c9, c10, c11, c12⟩ := HF.out q2 hP2
            refine HK.out _ _ (fun _ => HS.out _ hP2) (fun _ => ?_)
            clear HK K
            try simp only [Act.put, List.setIfInBounds_toArray, List.set_cons_zero, List.set_cons_succ]
            refine WpK.one (i := 23) (by kernel_rfl) ((toArray_at _ _).trans rfl) ?_
            intro K hK
            have HK := Lib.hid hK
            clear hK
            go_simp
            refine HK.out _ _ (fun h => absurd h (by decide)) (fun _ => ?_)
            clear HK K
            try simp only [List.setIfInBounds_toArray, List.set_cons_zero, List.set_cons_succ]
            refine WpK.one (i := 24) (by kernel_rfl) ((toArray_at _ _).trans rfl) ?_
            intro K hK
            have HK := Lib.hid hK
            clear hK
            go_simp
            refine HK.out _ _ (fun h => absurd h (by decide)) (fun _ => ?_)
            clear HK K
            try simp only [List.setIfInBounds_toArray, List.set_cons_zero, List.set_cons_succ]
            refine WpK.one (i := 25) (by kernel_rfl) ((toArray_at _ _).trans rfl) ?_
            intro K hK
            have HK := Lib.hid hK
            clear hK
            go_simp
            refine HK.out _ _ (fun h => absurd h (by decide)) (fun _ => ?_)
            clear HK K
            try simp only [List.setIfInBounds_toArray, List.set_cons_zero, List.set_cons_succ]
            refine WpK.done (by kernel_rfl) ?_
            obtain ⟨f1, f2, f3, f4⟩ := mv_end hB hP2 HM.out hfr.out hT2
            go_wp2_with fail
            exact ⟨⟨k + 1, .slice (some ⟨g1, 0, none⟩) (k + 1) t1, .slice (some ⟨g2, 0, none⟩) (k + 1) t2, by omega, by go_num, by rw [MK1.out, MK2.out]; exact f1, f2, f3, f4⟩, by simp [intOf]; omega⟩
        · skip
          intro K hK
          have HK := Lib.hid hK
          clear hK
          go_simp
          refine HK.out _ _ (fun _ => HS.out _ (Below.mono (B := wr.heap.size) (by (repeat (first | exact Below.refl _ _ | refine Below.alloc ?_ (by first | exact Nat.le_refl _ | (simp; done) | (simp; omega) | omega) _ | refine Below.drew ?_))) gb)) (fun _ => ?_)
          clear HK K
          try simp only [List.setIfInBounds_toArray, List.set_cons_zero, List.set_cons_succ]
          refine WpK.one (i := 9) (by kernel_rfl) ((toArray_at _ _).trans rfl) ?_
          intro K hK
          have HK := Lib.hid hK
          clear hK
          go_simp
          refine HK.out _ _ (fun _ => HS.out _ (Below.mono (B := wr.heap.size) (by (repeat (first | exact Below.refl _ _ | refine Below.alloc ?_ (by first | exact Nat.le_refl _ | (simp; done) | (simp; omega) | omega) _ | refine Below.drew ?_))) gb)) (fun _ => ?_)
          clear HK K
          try simp only [List.setIfInBounds_toArray, List.set_cons_zero, List.set_cons_succ]
          refine WpK.one (i := 10) (by kernel_rfl) ((toArray_at _ _).trans rfl) ?_
          intro K hK
          have HK := Lib.hid hK
          clear hK
          refine step_two_k ?_ (.tmp 52) (.tmp 60) ?_ (w2.heap.size + 1) v1 (mpL S.r by_ k) v2 (mpL S.s by_ k) ?_ (HT.out _ ?_) ⟨wr.heap.size + 1, 0, none⟩ 1 (ex + by_) ?_ ?_ k HP1.out ?_ ?_ (wr.heap.size) (.int .i64 (ey + by_)) ?_ (HW.out _ ?_) ?_
          · rfl
          · rfl
          · rfl
          · (repeat (first | exact Below.refl _ _ | refine Below.alloc ?_ (by first | exact Nat.le_refl _ | (simp; done) | (simp; omega) | omega) _ | refine Below.drew ?_))
          · rfl
          · simp [go_sem]
          · omega
          · (simp; omega)
          · simp [go_sem]
          · first | exact Nat.le_refl _ | exact Nat.le_succ _
          intro g1 t1 q1 hT1 hE1 hy2
          have hP1 : Below (w2.heap.size + 1) wr q1 := Below.trans (Below.mono (B := wr.heap.size) (by (repeat (first | exact Below.refl _ _ | refine Below.alloc ?_ (by first | exact Nat.le_refl _ | (simp; done) | (simp; omega) | omega) _ | refine Below.drew ?_))) gb) hE1
          obtain ⟨⟨b1, b2⟩, ⟨b3, b4⟩, ⟨b5, b6⟩, ⟨b7, b8⟩, b9, b10, b11, b12⟩ := HF.out q1 hP1
          refine HK.out _ _ (fun _ => HS.out _ hP1) (fun _ => ?_)
          clear HK K
          try simp only [Act.put, List.setIfInBounds_toArray, List.set_cons_zero, List.set_cons_succ]
          refine WpK.take (i := 22) (v := ?_) ((toArray_at _ _).trans rfl) (by kernel_rfl) (by kernel_rfl) (by kernel_rfl) (by kernel_rfl) (by kernel_rfl) (fun _ _ _ h => h) (Or.inl ⟨by rfl, ?_⟩) (HS.out _ hP1) ?_
          rotate_left
          · (intro x hx; (try dsimp only at hx); go_simp <;> with_reducible rfl)
          try simp only [Act.put, List.setIfInBounds_toArray, List.set_cons_zero, List.set_cons_succ]
          refine WpK.one (i := 21) (by kernel_rfl) ((toArray_at _ _).trans rfl) ?_
          intro K hK
          have HK := Lib.hid hK
          clear hK
          refine step_two ?_ (.tmp 63) (.tmp 71) ?_ (w2.heap.size + 1) v2 (mpL S.s by_ k) (.slice (some ⟨g1, 0, none⟩) (k + 1) t1) (mpL S.r by_ k ++ [ex + by_]) ?_ (Two.swap (hT1.below ?_)) ⟨wr.heap.size, 0, none⟩ 1 (ey + by_) ?_ ?_ k HP2.out ?_ ?_ ?_
          · rfl
          · rfl
          · rfl
          · (repeat (first | exact Below.refl _ _ | refine Below.alloc ?_ (by first | exact Nat.le_refl _ | (simp; done) | (simp; omega) | omega) _ | refine Below.drew ?_))
          · rfl
          · exact hy2
          · omega
          · (first | exact Nat.le_trans gb hP1.size | (have := hP1.size; simp; omega))
          intro g2 t2 q2 hT2 hE2
          have hP2 : Below (w2.heap.size + 1) wr q2 := Below.trans (Below.trans hP1 (Below.mono (B := q1.heap.size) (by (repeat (first | exact Below.refl _ _ | refine Below.alloc ?_ (by first | exact Nat.le_refl _ | (simp; done) | (simp; omega) | omega) _ | refine Below.drew ?_))) (Nat.le_trans gb hP1.size))) hE2
          obtain ⟨⟨c1, c2⟩, ⟨c3, c4⟩, ⟨c5, c6⟩, ⟨c7, c8⟩, c9, c10, c11, c12⟩ := HF.out q2 hP2
          refine HK.out _ _ (fun _ => HS.out _ hP2) (fun _ => ?_)
          clear HK K
          try simp only [Act.put, List.setIfInBounds_toArray, List.set_cons_zero, List.set_cons_succ]
          refine WpK.one (i := 23) (by kernel_rfl) ((toArray_at _ _).trans rfl) ?_
          intro K hK
          have HK := Lib.hid hK
          clear hK
          go_simp
          refine HK.out _ _ (fun h => absurd h (by decide)) (fun _ => ?_)
          clear HK K
          try simp only [List.setIfInBounds_toArray, List.set_cons_zero, List.set_cons_succ]
          refine WpK.one (i := 24) (by kernel_rfl) ((toArray_at _ _).trans rfl) ?_
          intro K hK
          have HK := Lib.hid hK
          clear hK
          go_simp
          refine HK.out _ _ (fun h => absurd h (by decide)) (fun _ => ?_)
          clear HK K
          try simp only [List.setIfInBounds_toArray, List.set_cons_zero, List.set_cons_succ]
          refine WpK.one (i := 25) (by kernel_rfl) ((toArray_at _ _).trans rfl) ?_
          intro K hK
          have HK := Lib.hid hK
          clear hK
          go_simp
          refine HK.out _ _ (fun h => absurd h (by decide)) (fun _ => ?_)
          clear HK K
          try simp only [List.setIfInBounds_toArray, List.set_cons_zero, List.set_cons_succ]
          refine WpK.done (by kernel_rfl) ?_
          obtain ⟨f1, f2, f3, f4⟩ := mv_end hB hP2 HM.out hfr.out hT2
          go_wp2_with fail
          exact ⟨⟨k + 1, .slice (some ⟨g1, 0, none⟩) (k + 1) t1, .slice (some ⟨g2, 0, none⟩) (k + 1) t2, by omega, by go_num, by rw [MK1.out, MK2.out]; exact f1, f2, f3, f4⟩, by simp [intOf]; omega⟩
    · obtain rfl : k = n := by omega
      as_aux_lemma =>
        have JM := sea_mvd (by_ := by_) HV.out hI3.d (show Two wr (w2.heap.size + 1) v1 (mpL S.r by_ S.d.length) v2 (mpL S.s by_ S.d.length) by rw [HN.out]; exact hT)
        have QM := mom_bd HV.out d1 (by omega) nt k1 k2 p1 p2
        have mv := mom_mvd HV.out by_ day nt h p
        have lv := las_mvd HV.out by_ day nt
        have tl := fun (hm : 0 ≤ m) => tix_lo HV.out hm
        obtain ⟨A, hA⟩ : ∃ x, mom S day nt h p = x := ⟨_, rfl⟩
        obtain ⟨x, hx⟩ : ∃ x, low1 (las S day nt) 12 = x := ⟨_, rfl⟩
        obtain ⟨y, hy⟩ : ∃ x, low2 (las S day nt) 12 = x := ⟨_, rfl⟩
        rw [hA] at QM mv
        obtain ⟨q1, q2⟩ := QM
        have HA := Lib.hid hA
        have X := Lib.hid hx
        have Y := Lib.hid hy
        have MV := Lib.hid mv
        have X2 := Lib.hid (show low1 (las (mvd S by_) day nt) 12 = x by rw [lv]; exact hx)
        have Y2 := Lib.hid (show low2 (las (mvd S by_) day nt) 12 = y by rw [lv]; exact hy)
        have HJ := Lib.hid JM
        have HT := Lib.hid hT
        have HM := Lib.hid hM
        clear hA hx hy mv lv JM hT hM hfr tl
        rcases bool_ft (vld (mvd S by_)) with hv2 | hv2
        · have CH := Lib.hid (show chk (mvd S by_) = 50 by unfold chk; rw [hv2]; rfl)
          clear hv2
          go_wp2_with fail
          clear hC
          refine (Chk_c (mvd S by_) _ _ _ 50 _ HJ.out CH.out).mono ?_
          rintro e w4 ⟨rfl, hb⟩
          have hB4 := bnext hB3 hb
          go_wp2_with fail
          go_ret
          exact ⟨rfl, hB4⟩
        · have CH := Lib.hid (show chk (mvd S by_) = 0 by unfold chk; rw [hv2]; rfl)
          have V2 := Lib.hid hv2
          clear hv2
          have hJ3 := HJ.out
          go_wp2_with fail
          clear hC
          refine (Chk_c (mvd S by_) _ _ _ 0 _ HJ.out CH.out).mono ?_
          rintro e w4 ⟨rfl, hb⟩
          have hI4 := hI3.below hb
          have hJ4 := hJ3.below hb
          have hL4 := hL3.below hb
          have hB4 := bnext hB3 hb
          have hC := hL4.facts
          simp only [AllC, RowC, Nat.zero_add, Nat.reduceAdd] at hC
          go_wp2_with fail
          have cE : ∀ i : More w4, _ := fun i => more_call (exact_ok S _ _ _ day nt h p A i.x (hI4.below i.h) HV.out d1 d2 HK.out HA.out)
          have cF : ∀ i : More w4, _ := fun i => more_call (exact_mv S by_ _ _ _ day nt h p (A + 720 * by_) i.x (hJ4.below i.h) V2.out d1 d2 HK.out MV.out)
          have CE := Lib.hid cE; clear cE
          have CF := Lib.hid cF; clear cF
          have mc := fun (i : More w4) => (bcell i.h).1
          refine wp_region_more (by kernel_rfl) (by kernel_rfl) ?_
          iterate 8 (try (first | go_big_quiet_step ((first | with_reducible exact CE.out _ | with_reducible exact CF.out _)) | quiet_step ((first | with_reducible exact CE.out _ | with_reducible exact CF.out _))))
          iterate 8 (try (first | go_big_quiet_step ((first | with_reducible exact CE.out _ | with_reducible exact CF.out _)) | quiet_step ((first | with_reducible exact CE.out _ | with_reducible exact CF.out _))))
          iterate 8 (try (first | go_big_quiet_step ((first | with_reducible exact CE.out _ | with_reducible exact CF.out _)) | quiet_step ((first | with_reducible exact CE.out _ | with_reducible exact CF.out _))))
          iterate 8 (try (first | go_big_quiet_step ((first | with_reducible exact CE.out _ | with_reducible exact CF.out _)) | quiet_step ((first | with_reducible exact CE.out _ | with_reducible exact CF.out _))))
          iterate 8 (try (first | go_big_quiet_step ((first | with_reducible exact CE.out _ | with_reducible exact CF.out _)) | quiet_step ((first | with_reducible exact CE.out _ | with_reducible exact CF.out _))))
          refine wpQuiet_nil ?_
          rintro ⟨wm, hbm⟩
          dsimp only
          have hI5 := hI4.below hbm
          have hJ5 := hJ4.below hbm
          have hL5 := hL4.below hbm
          have hB5 := bnext hB4 hbm
          clear mc CE CF hbm hC
          have hC := hL5.facts
          simp only [AllC, RowC, Nat.zero_add, Nat.reduceAdd] at hC
          rename World => w5
          go_wp2_with fail
          clear hC
          refine (Length_ok S _ _ _ day nt x y _ hI5 HV.out d1 d2 X.out Y.out).mono ?_
          rintro e w6 ⟨rfl, hb⟩
          have hI6 := hI5.below hb
          have hJ6 := hJ5.below hb
          have hL6 := hL5.below hb
          have hB6 := bnext hB5 hb
          have hC := hL6.facts
          simp only [AllC, RowC, Nat.zero_add, Nat.reduceAdd] at hC
          go_wp2_with fail
          clear hC
          refine (Length_ok (mvd S by_) _ _ _ day nt x y _ (hJ6.alloc _) V2.out d1 d2 X2.out Y2.out).mono ?_
          rintro e w7 ⟨rfl, hb⟩
          have hI7 := (hI6.alloc _).below hb
          have hJ7 := (hJ6.alloc _).below hb
          have hL7 := (hL6.cons _ _).below hb
          have hB7 := bnextA hB6 hb
          have hC := hL7.facts
          simp only [AllC, RowC, Nat.zero_add, Nat.reduceAdd] at hC
          by_cases c1 : m < 0
          · go_wp2_with fail
            all_goals
              go_ret
              exact ⟨rfl, (by repeat (first | exact Below.refl _ _ | assumption | refine bthen ?_ (by assumption) | refine Below.alloc ?_ (by first | exact Nat.le_refl _ | (simp; done) | (simp; omega) | omega) _ | refine Below.setCell ?_ (by first | exact Nat.le_refl _ | (simp; done) | (simp; omega) | omega) _ | refine below_drewN ?_ _ | refine Below.drew ?_))⟩
          by_cases c2 : 15840000 < m
          · go_wp2_with fail
            all_goals
              go_ret
              exact ⟨rfl, (by repeat (first | exact Below.refl _ _ | assumption | refine bthen ?_ (by assumption) | refine Below.alloc ?_ (by first | exact Nat.le_refl _ | (simp; done) | (simp; omega) | omega) _ | refine Below.setCell ?_ (by first | exact Nat.le_refl _ | (simp; done) | (simp; omega) | omega) _ | refine below_drewN ?_ _ | refine Below.drew ?_))⟩
          by_cases c3 : m + by_ < 0
          · go_wp2_with fail
            all_goals
              go_ret
              exact ⟨rfl, (by repeat (first | exact Below.refl _ _ | assumption | refine bthen ?_ (by assumption) | refine Below.alloc ?_ (by first | exact Nat.le_refl _ | (simp; done) | (simp; omega) | omega) _ | refine Below.setCell ?_ (by first | exact Nat.le_refl _ | (simp; done) | (simp; omega) | omega) _ | refine below_drewN ?_ _ | refine Below.drew ?_))⟩
          by_cases c4 : 15840000 < m + by_
          · go_wp2_with fail
            all_goals
              go_ret
              exact ⟨rfl, (by repeat (first | exact Below.refl _ _ | assumption | refine bthen ?_ (by assumption) | refine Below.alloc ?_ (by first | exact Nat.le_refl _ | (simp; done) | (simp; omega) | omega) _ | refine Below.setCell ?_ (by first | exact Nat.le_refl _ | (simp; done) | (simp; omega) | omega) _ | refine below_drewN ?_ _ | refine Below.drew ?_))⟩
          obtain ⟨r1, r2, r3⟩ := told_of HV.out V2.out (tix_mvd HV.out V2.out m).symm
          by_cases q : tD S m < 0
          · have Q1 := Lib.hid q
            have Q2 := Lib.hid (show tD (mvd S by_) (m + by_) < 0 by rw [← r1]; exact q)
            clear q r1 r2 r3
            go_wp2_with fail
            clear hC
            refine (Told_no S _ _ _ m _ (hI7.alloc _) HV.out (by omega) (by omega) Q1.out).mono ?_
            rintro e w8 ⟨rfl, hb⟩
            have hI8 := (hI7.alloc _).below hb
            have hJ8 := (hJ7.alloc _).below hb
            have hL8 := (hL7.cons _ _).below hb
            have hB8 := bnextA hB7 hb
            have hC := hL8.facts
            simp only [AllC, RowC, Nat.zero_add, Nat.reduceAdd] at hC
            go_wp2_with fail
            clear hC
            refine (Told_no (mvd S by_) _ _ _ (m + by_) _ (hJ8.alloc _) V2.out (by omega) (by omega) Q2.out).mono ?_
            rintro e w9 ⟨rfl, hb⟩
            have hI9 := (hI8.alloc _).below hb
            have hJ9 := (hJ8.alloc _).below hb
            have hL9 := (hL8.cons _ _).below hb
            have hB9 := bnextA hB8 hb
            have hC := hL9.facts
            simp only [AllC, RowC, Nat.zero_add, Nat.reduceAdd] at hC
            go_wp2_with fail
            all_goals
              go_ret
              exact ⟨ret_bool (by simp), (by repeat (first | exact Below.refl _ _ | assumption | refine bthen ?_ (by assumption) | refine Below.alloc ?_ (by first | exact Nat.le_refl _ | (simp; done) | (simp; omega) | omega) _ | refine Below.setCell ?_ (by first | exact Nat.le_refl _ | (simp; done) | (simp; omega) | omega) _ | refine below_drewN ?_ _ | refine Below.drew ?_))⟩
          · obtain ⟨d, hd⟩ : ∃ x, tD S m = x := ⟨_, rfl⟩
            obtain ⟨tn, htn⟩ : ∃ x, tN S m = x := ⟨_, rfl⟩
            obtain ⟨tp, htp⟩ : ∃ x, tP S m = x := ⟨_, rfl⟩
            obtain ⟨th, hth⟩ : ∃ x, tp / 60 = x := ⟨_, rfl⟩
            obtain ⟨tq, htq⟩ : ∃ x, tp % 60 = x := ⟨_, rfl⟩
            rw [hd] at q r1
            rw [htn] at r2
            rw [htp] at r3
            have D1 := Lib.hid hd
            have D2 := Lib.hid htn
            have D3 := Lib.hid (show tP S m / 60 = th by rw [htp, hth])
            have D4 := Lib.hid (show tP S m % 60 = tq by rw [htp, htq])
            have E1 := Lib.hid r1.symm
            have E2 := Lib.hid r2.symm
            have E3 := Lib.hid (show tP (mvd S by_) (m + by_) / 60 = th by rw [← r3, hth])
            have E4 := Lib.hid (show tP (mvd S by_) (m + by_) % 60 = tq by rw [← r3, htq])
            have qq : 0 ≤ d := by omega
            clear hd htn htp hth htq r1 r2 r3 q
            go_wp2_with fail
            clear hC
            refine (Told_ok S _ _ _ m d tn th tq _ (hI7.alloc _) HV.out (by omega) (by omega) qq D1.out D2.out D3.out D4.out).mono ?_
            rintro e w8 ⟨rfl, hb⟩
            have hI8 := (hI7.alloc _).below hb
            have hJ8 := (hJ7.alloc _).below hb
            have hL8 := (hL7.cons _ _).below hb
            have hB8 := bnextA hB7 hb
            have hC := hL8.facts
            simp only [AllC, RowC, Nat.zero_add, Nat.reduceAdd] at hC
            go_wp2_with fail
            clear hC
            refine (Told_ok (mvd S by_) _ _ _ (m + by_) d tn th tq _ (hJ8.alloc _) V2.out (by omega) (by omega) qq E1.out E2.out E3.out E4.out).mono ?_
            rintro e w9 ⟨rfl, hb⟩
            have hI9 := (hI8.alloc _).below hb
            have hJ9 := (hJ8.alloc _).below hb
            have hL9 := (hL8.cons _ _).below hb
            have hB9 := bnextA hB8 hb
            have hC := hL9.facts
            simp only [AllC, RowC, Nat.zero_add, Nat.reduceAdd] at hC
            go_wp2_with fail
            all_goals
              go_ret
              exact ⟨ret_bool (by simp), (by repeat (first | exact Below.refl _ _ | assumption | refine bthen ?_ (by assumption) | refine Below.alloc ?_ (by first | exact Nat.le_refl _ | (simp; done) | (simp; omega) | omega) _ | refine Below.setCell ?_ (by first | exact Nat.le_refl _ | (simp; done) | (simp; omega) | omega) _ | refine below_drewN ?_ _ | refine Below.drew ?_))⟩
end Go.Proofs.YtpjnlcdmbkbfcaaDoor
