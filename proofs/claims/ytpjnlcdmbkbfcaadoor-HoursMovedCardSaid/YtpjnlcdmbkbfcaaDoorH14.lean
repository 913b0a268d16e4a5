/- Walks of Bells on both sides. -/
import Derived.Test.YtpjnlcdmbkbfcaaDoorH13
import Derived.Test.YtpjnlcdmbkbfcaaDoorApp
import Derived.Deep.RegionHeld3
import Derived.Deep.DrawnRows
namespace Go.Proofs.YtpjnlcdmbkbfcaaDoor
open Go.ChangeShapes Go.WideShapes Go.ChangeAt Go.RowKit Go.BigFrame

/-- The first k bells. -/
def blL (S : Sea) (day : Int) : Nat → List Int
  | 0 => []
  | k + 1 => blL S day k ++ [fst S day (decide (12 ≤ k)) ((k % 12 : Nat) : Int) 0]
theorem blL_len (S : Sea) (day : Int) (k : Nat) : (blL S day k).length = k := by
  induction k with
  | zero => rfl
  | succ k ih => simp [blL, ih]
theorem blL_el (S : Sea) (day : Int) (k j : Nat) (h : j < k) : (blL S day k)[j]?.getD 0 = fst S day (decide (12 ≤ j)) ((j % 12 : Nat) : Int) 0 := by
  induction k with
  | zero => omega
  | succ k ih =>
    simp only [blL]
    by_cases hj : j < k
    · rw [List.getElem?_append_left (by rw [blL_len]; exact hj)]; exact ih hj
    · obtain rfl : j = k := by omega
      rw [List.getElem?_append_right (by rw [blL_len]; omega), blL_len]
      simp
def BlPost (S : Sea) (day : Int) (w : World) (e : Ending) (w' : World) : Prop :=
  ∃ v, e = .returned (.tuple #[v, .int .i64 (askE S (inB day 0 11000))]) ∧ Own w' w.heap.size v (if vld S && inB day 0 11000 then blL S day 24 else []) ∧ Below w.heap.size w w'
theorem blPost_no {S : Sea} {day : Int} {w w' : World} {c : Int} (he : askE S (inB day 0 11000) = c) (hn : (vld S && inB day 0 11000) = false) (hb : Below w.heap.size w w') : BlPost S day w (.returned (.tuple #[.slice none 0 0, .int .i64 c])) w' :=
  ⟨_, by rw [he], by rw [if_neg (by rw [hn]; decide)]; exact Own.nil _ _, hb⟩
theorem blPost_yes {S : Sea} {day : Int} {w w' : World} {v : Value} (he : askE S (inB day 0 11000) = 0) (hv : vld S = true) (ha : inB day 0 11000 = true) (ho : Own w' w.heap.size v (blL S day 24)) (hb : Below w.heap.size w w') : BlPost S day w (.returned (.tuple #[v, .int .i64 0])) w' :=
  ⟨_, by rw [he], by rw [hv, ha]; exact ho, hb⟩

/-- The index of the outer loop, by its round. -/
def Ix3 (k : Nat) (i : Value) : Prop := (k = 0 ∧ i = .int .i64 0) ∨ (k = 1 ∧ i = .int .i64 1) ∨ (k = 2 ∧ i = .int .i64 2)
set_option maxHeartbeats 1000000 in
theorem Bells_any (S : Sea) (vd vr vs : Value) (day : Int) (w : World) (hI : SeaIn w vd vr vs S) :
    Calls Tryd.prog 57 #[.agg #[.int .i64 S.L, vd, vr, vs], .int .i64 day] w (BlPost S day w) := by
  have hI1 := (hI.alloc (seaO S vd vr vs)).alloc (Obj.cells #[.int .i64 day] 3)
  rcases askE_cases S (inB day 0 11000) with ⟨hv, ha, he⟩ | ⟨c, he, hc, hn⟩
  · obtain ⟨d1, d2⟩ := inB_t ha
    have HV := Lib.hid hv
    have HA := Lib.hid ha
    clear hv ha
    have i0 : ∀ w, (Instr.index 108 (.agg #[.bool false, .bool true]) (.int .i64 0)).run Tryd.prog w = .ok (.bool false) w := fun _ => by kernel_rfl
    have i1 : ∀ w, (Instr.index 108 (.agg #[.bool false, .bool true]) (.int .i64 1)).run Tryd.prog w = .ok (.bool true) w := fun _ => by kernel_rfl
    go_enter Tryd.func57, Tryd.ntmps57
    go_wp2_with fail
    refine (asked1c S _ _ _ _ _ day _ 0 he hI1 (by simp) (by simp [go_sem])).mono ?_
    rintro e w1 ⟨rfl, hb1⟩
    obtain ⟨hc1, hf1⟩ := bcell hb1
    go_wp2_with fail
    have hw1 : w.heap.size < w1.heap.size := by have := hb1.size; simp at this; omega
    go_loopw [7, 9, 10, 19, 22] (fun v _ _ i _ wr => ∃ k : Nat, Ix3 k i ∧ Own wr w1.heap.size v (blL S day (12 * k)) ∧ Below w1.heap.size w1 wr) (fun _ _ _ i _ _ => (2 - intOf i).toNat)
    case atStart => exact ⟨0, .inl ⟨rfl, rfl⟩, Own.nil _ _, Below.refl _ _⟩
    case round =>
      obtain ⟨k, hk, hO, hB⟩ := hrel
      rcases hk with ⟨rfl, rfl⟩ | ⟨rfl, rfl⟩ | ⟨rfl, rfl⟩
      · go_wp2_with fail
        go_loopw [7, 10, 22] (fun v _ j wr2 => ∃ m : Nat, m ≤ 12 ∧ j = .int .i64 (m : Int) ∧ Own wr2 w1.heap.size v (blL S day (0 + m)) ∧ Below w1.heap.size w1 wr2) (fun _ _ j _ => (12 - intOf j).toNat)
        case atStart => exact ⟨0, by omega, rfl, hO, hB⟩
        case round =>
          obtain ⟨m, hm, rfl, hO2, hB2⟩ := hrel
          have hB3 := bthen hb1 hB2
          obtain ⟨hc3, hf3⟩ := bcell hB3
          by_cases hlt : m < 12
          · have hf : Hid (fst S day false (m : Int) 0 = fst S day (decide (12 ≤ 0 + m)) (((0 + m) % 12 : Nat) : Int) 0) := Lib.hid (by
              have e1 : decide (12 ≤ 0 + m) = false := by simp <;> omega
              have e2 : (0 + m) % 12 = m := by omega
              rw [e1, e2])
            have hs2 := hB2.size
            go_wp2_with fail
            refine (first_any S _ _ _ day false (m : Int) 0 _ HV.out (hI1.below hB3) (by omega) (by omega) (okH_mk (by omega) (by omega) (by omega) (by omega))).mono ?_
            rintro e w5 ⟨rfl, hb5⟩
            have hs5 := hb5.size
            have hO5 := (hO2.below hb5).below (ballo w5 (Obj.cells #[.int .i64 (fst S day false (m : Int) 0)] 3))
            go_wp2_with (at_builtin; refine wp_append_int rfl _ _ rfl w1.heap.size _ _ rfl hO5 ⟨w5.heap.size, 0, none⟩ 1 (fst S day false (m : Int) 0) rfl ?_ ?_ ?_ ?_)
            · simp [go_sem]
            · rw [blL_len]; omega
            · simp; omega
            intro v' w6 hO6 hB6
            have hB7 : Below w1.heap.size w1 w6 := ((hB2.trans (hb5.mono hs2)).alloc (by omega) _).trans hB6
            clear hB6
            go_wp2_with fail
            exact ⟨⟨m + 1, by omega, by go_num, by rw [show 0 + (m + 1) = (0 + m) + 1 by omega, blL, ← hf.out]; first | exact hO6 | (rw [Nat.zero_add]; exact hO6), hB7⟩, by simp [intOf]; omega⟩
          · obtain rfl : m = 12 := by omega
            go_wp2_with fail
            exact ⟨⟨0 + 1, .inr (.inl ⟨rfl, rfl⟩), hO2, hB2⟩, by simp [intOf]⟩
      · go_wp2_with fail
        go_loopw [7, 10, 22] (fun v _ j wr2 => ∃ m : Nat, m ≤ 12 ∧ j = .int .i64 (m : Int) ∧ Own wr2 w1.heap.size v (blL S day (12 + m)) ∧ Below w1.heap.size w1 wr2) (fun _ _ j _ => (12 - intOf j).toNat)
        case atStart => exact ⟨0, by omega, rfl, hO, hB⟩
        case round =>
          obtain ⟨m, hm, rfl, hO2, hB2⟩ := hrel
          have hB3 := bthen hb1 hB2
          obtain ⟨hc3, hf3⟩ := bcell hB3
          by_cases hlt : m < 12
          · have hf : Hid (fst S day true (m : Int) 0 = fst S day (decide (12 ≤ 12 + m)) (((12 + m) % 12 : Nat) : Int) 0) := Lib.hid (by
              have e1 : decide (12 ≤ 12 + m) = true := by simp <;> omega
              have e2 : (12 + m) % 12 = m := by omega
              rw [e1, e2])
            have hs2 := hB2.size
            go_wp2_with fail
            refine (first_any S _ _ _ day true (m : Int) 0 _ HV.out (hI1.below hB3) (by omega) (by omega) (okH_mk (by omega) (by omega) (by omega) (by omega))).mono ?_
            rintro e w5 ⟨rfl, hb5⟩
            have hs5 := hb5.size
            have hO5 := (hO2.below hb5).below (ballo w5 (Obj.cells #[.int .i64 (fst S day true (m : Int) 0)] 3))
            go_wp2_with (at_builtin; refine wp_append_int rfl _ _ rfl w1.heap.size _ _ rfl hO5 ⟨w5.heap.size, 0, none⟩ 1 (fst S day true (m : Int) 0) rfl ?_ ?_ ?_ ?_)
            · simp [go_sem]
            · rw [blL_len]; omega
            · simp; omega
            intro v' w6 hO6 hB6
            have hB7 : Below w1.heap.size w1 w6 := ((hB2.trans (hb5.mono hs2)).alloc (by omega) _).trans hB6
            clear hB6
            go_wp2_with fail
            exact ⟨⟨m + 1, by omega, by go_num, by rw [show 12 + (m + 1) = (12 + m) + 1 by omega, blL, ← hf.out]; first | exact hO6 | (rw [Nat.zero_add]; exact hO6), hB7⟩, by simp [intOf]; omega⟩
          · obtain rfl : m = 12 := by omega
            go_wp2_with fail
            exact ⟨⟨1 + 1, .inr (.inr ⟨rfl, rfl⟩), hO2, hB2⟩, by simp [intOf]⟩
      · go_wp2_with fail
        go_ret2
        exact blPost_yes he HV.out HA.out (hO.mono (by omega)) (bthen (bafter (bafter hb1)) hB)
  · go_enter Tryd.func57, Tryd.ntmps57
    go_wp2_with fail
    refine (asked1c S _ _ _ _ _ day _ c he hI1 (by simp) (by simp [go_sem])).mono ?_
    rintro e w1 ⟨rfl, hb1⟩
    obtain ⟨hc1, hf1⟩ := bcell hb1
    go_wp2_with fail
    go_ret2
    exact blPost_no he hn (bafter (bafter hb1))

theorem rhour_c (n : Int) (b : Bool) (h p : Int) (w : World) (h0 : 0 ≤ n) (h1 : n < 1440) (e1 : decide (720 ≤ n) = b) (e2 : n / 60 % 12 = h) (e3 : n % 60 = p) : Calls Tryd.prog 84 #[.int .i64 n] w fun e w' => e = .returned (.agg #[.bool b, .int .i64 h, .int .i64 p]) ∧ Below w.heap.size w w' := by
  rw [← e1, ← e2, ← e3]; exact rhour_any n w h0 h1
attribute [local go_sem ↓] Go.wp_at_zero Go.wp_at_succ
set_option maxHeartbeats 2000000 in
set_option maxRecDepth 100000 in
theorem rBells_any (S : Sea) (vd vr vs : Value) (day : Int) (w : World) (hI : SeaIn w vd vr vs S) :
    Calls Tryd.prog 58 #[.agg #[.int .i64 S.L, vd, vr, vs], .int .i64 day] w (BlPost S day w) := by
  have hI1 := hI.alloc (seaO S vd vr vs)
  rcases askE_cases S (inB day 0 11000) with ⟨hv, ha, he⟩ | ⟨c, he, hc, hn⟩
  · obtain ⟨d1, d2⟩ := inB_t ha
    have HV := Lib.hid hv
    have HA := Lib.hid ha
    clear hv ha
    go_enter Tryd.func58, Tryd.ntmps58
    go_wp2_with fail
    refine (rready0c S _ _ _ day _ 0 he hI1).mono ?_
    rintro e w1 ⟨rfl, hb1⟩
    obtain ⟨hc1, hf1⟩ := bcell hb1
    go_wp2_with fail
    have hw1 : w.heap.size < w1.heap.size := by have := hb1.size; simp at this; omega
    go_loopw [7, 8] (fun v i wr => ∃ k : Nat, k ≤ 24 ∧ i = .int .i64 (k : Int) ∧ Own wr w1.heap.size v (blL S day k) ∧ Below w1.heap.size w1 wr) (fun _ i _ => (24 - intOf i).toNat)
    case atStart => exact ⟨0, by omega, rfl, Own.nil _ _, Below.refl _ _⟩
    case round =>
      obtain ⟨k, hk, rfl, hO, hB⟩ := hrel
      have hB3 := bthen hb1 hB
      have hs := hB.size
      by_cases hlt : k < 24
      · obtain ⟨nb, hnb⟩ : ∃ b, decide (12 ≤ k) = b := ⟨_, rfl⟩
        obtain ⟨hh, hhh⟩ : ∃ h, ((k % 12 : Nat) : Int) = h := ⟨_, rfl⟩
        have h1 : 0 ≤ hh := by omega
        have h2 : hh ≤ 11 := by omega
        have e1 := Lib.hid (show decide (720 ≤ 60 * (k : Int)) = nb by rw [← hnb]; congr 1; simp only [eq_iff_iff]; omega)
        have e2 := Lib.hid (show 60 * (k : Int) / 60 % 12 = hh by omega)
        have e3 := Lib.hid (show 60 * (k : Int) % 60 = 0 by omega)
        have hblk : blL S day (k + 1) = blL S day k ++ [fst S day nb hh 0] := by simp only [blL]; rw [hnb, hhh]
        have HBK := Lib.hid hblk
        clear hnb hhh hblk
        have SK : ∀ x : World, Below w1.heap.size w1 x → x.cell? ⟨w.heap.size, 0, none⟩ = some (.int .i64 S.L) ∧ x.cell? ⟨w.heap.size, 1, none⟩ = some vd ∧ x.cell? ⟨w.heap.size, 2, none⟩ = some vr ∧ x.cell? ⟨w.heap.size, 3, none⟩ = some vs := fun x hx => by
          have h := (bcell (bthen hb1 hx)).1
          exact ⟨by rw [h _ _ (by simp)]; simp [go_sem], by rw [h _ _ (by simp)]; simp [go_sem], by rw [h _ _ (by simp)]; simp [go_sem], by rw [h _ _ (by simp)]; simp [go_sem]⟩
        have HKW : Hid (∀ {x : World}, Below wr.heap.size wr x → Below w1.heap.size w1 x) := fun h => hB.trans (h.mono hs)
        have KB : ∀ {x y : World}, Below wr.heap.size wr x → Below x.heap.size x y → Below wr.heap.size wr y := fun h k => bthen h k
        have mb := mom_bd HV.out d1 (by omega) nb h1 h2 (p := 0) (by omega) (by omega)
        have HSK := Lib.hid SK
        have HKB : Hid (∀ {x y : World}, Below wr.heap.size wr x → Below x.heap.size x y → Below wr.heap.size wr y) := KB
        have HSI := Lib.hid (fun (x : World) (hx : Below wr.heap.size wr x) => (hI1.below hB3).below hx)
        have HOW := Lib.hid (fun (x : World) (hx : Below wr.heap.size wr x) => hO.below hx)
        have hbl := blL_len S day k
        have HBL := Lib.hid hbl
        clear SK KB hbl
        go_wp2_with fail
        have hw60 : IntKind.i64.wrap (60 * (k : Int)) = 60 * (k : Int) := IntWalk.i64_in _ (by omega)
        have hn0 : 0 ≤ 60 * (k : Int) := by omega
        have hn1 : 60 * (k : Int) < 1440 := by omega
        go_region_held3 (fun x => x.cell? ⟨w.heap.size, 0, none⟩ = some (.int .i64 S.L) ∧ x.cell? ⟨w.heap.size, 1, none⟩ = some vd ∧ x.cell? ⟨w.heap.size, 2, none⟩ = some vr ∧ x.cell? ⟨w.heap.size, 3, none⟩ = some vs)
          (first | exact HSK.out _ (by first | exact hB.drew | exact HKW.out (by first | assumption | exact hbz.alloc hbz.size _) | exact (HKW.out hbA).trans hB4) | (go_split_ands; exact HSK.out _ (by first | exact hB.drew | exact HKW.out (by first | assumption | exact hbz.alloc hbz.size _) | exact (HKW.out hbA).trans hB4)))
          (first | (go_at_call 84; (with_reducible refine (rhour_c (60 * (k : Int)) nb hh 0 _ hn0 hn1 e1.out e2.out e3.out).mono ?_); rintro e x1 ⟨rfl, hbx⟩; have hby := HKB.out (Below.drew (Below.refl _ _)) hbx; clear hbx) | (go_at_call 86; (with_reducible refine (rMoment_any S vd vr vs day nb hh 0 _ HV.out (HSI.out _ hby) (by omega) (by omega) (okH_mk h1 h2 (by omega) (by omega))).mono ?_); rintro e x2 ⟨rfl, hbx⟩; have hbz := HKB.out hby hbx; clear hbx) | (go_at_call 87; (with_reducible refine (rup_any _ _ mb.1 (by omega)).mono ?_); rintro e x3 ⟨rfl, rfl⟩) | (have hbA := hbz.alloc (B := wr.heap.size) hbz.size (Obj.cells #[.int .i64 ((mom S day nb hh 0 + 719) / 720)] 3); refine step_append_int (by rfl) _ _ (by rfl) w1.heap.size u7 (blL S day k) (by rfl) (HOW.out _ hbA) ⟨x2.heap.size, 0, none⟩ 1 ((mom S day nb hh 0 + 719) / 720) (by rfl) (by simp) (by rw [HBL.out]; omega) (by have := hbz.size; simp; omega) ?_; intro v' x4 hO4 hB4))
        go_wp2_with fail
        have hB7 := (HKW.out hbA).trans hB4
        exact ⟨⟨k + 1, by omega, by go_num, by rw [HBK.out]; exact hO4, hB7⟩, by simp [intOf]; omega⟩
      · obtain rfl : k = 24 := by omega
        go_wp2_with fail
        go_ret2
        exact blPost_yes he HV.out HA.out (hO.mono (by omega)) (bthen (bafter hb1) hB)
  · go_enter Tryd.func58, Tryd.ntmps58
    go_wp2_with fail
    refine (rready0c S _ _ _ day _ c he hI1).mono ?_
    rintro e w1 ⟨rfl, hb1⟩
    obtain ⟨hc1, hf1⟩ := bcell hb1
    go_wp2_with fail
    go_ret2
    exact blPost_no he hn (bafter hb1)
end Go.Proofs.YtpjnlcdmbkbfcaaDoor
