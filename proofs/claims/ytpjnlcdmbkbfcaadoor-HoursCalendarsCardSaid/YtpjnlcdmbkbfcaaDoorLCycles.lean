/- The walk of HoursCycles. -/
import Derived.Test.YtpjnlcdmbkbfcaaDoorLDates
import Derived.Deep.RegionHeld3
import Derived.Deep.DrawnRows
namespace Go.Proofs.YtpjnlcdmbkbfcaaDoor
open Go.ChangeShapes Go.WideShapes Go.ChangeAt Go.RowKit Go.BigFrame

theorem cyc (mk : Bool) {day many : Int} (h0 : 0 ≤ day) (h1 : day ≤ 3000000) (hm : 0 ≤ many) : ∃ y m d, dat mk day = (y, m, d) ∧ datE mk day = 0 ∧ (1 ≤ y ∧ y ≤ 9999) ∧ ∃ y' m' d' c, dat mk (day + cyD mk * many) = (y', m', d') ∧ datE mk (day + cyD mk * many) = c ∧
    (y + cyY mk * many ≤ 9999 ∧ y' = y + cyY mk * many ∧ m = m' ∧ d = d' ∧ c = 0 ∨ 9999 < y + cyY mk * many ∧ c = 1) := by
  have hM := dMax_lt mk
  obtain ⟨y, m, d, e⟩ : ∃ y m d, dat mk day = (y, m, d) := ⟨_, _, _, rfl⟩
  obtain ⟨k, rfl⟩ : ∃ k : Nat, many = (k : Int) := ⟨many.toNat, by omega⟩
  obtain ⟨a, b⟩ := dat_cycle h0 (by omega) e k
  obtain ⟨hk, _⟩ := dat_bd h0 (by omega) e
  obtain ⟨⟨y1, y2⟩, _⟩ := okD_iff.1 hk
  have hD : 0 ≤ cyD mk * k := Int.mul_nonneg (by cases mk <;> decide) hm
  obtain ⟨y', m', d', e'⟩ : ∃ y m d, dat mk (day + cyD mk * k) = (y, m, d) := ⟨_, _, _, rfl⟩
  refine ⟨y, m, d, e, by unfold datE; rw [if_pos ⟨h0, by omega⟩], ⟨y1, y2⟩, y', m', d', _, e', rfl, ?_⟩
  by_cases hy : y + cyY mk * k ≤ 9999
  · obtain ⟨a1, a2⟩ := a hy
    rw [a1] at e'
    injection e' with q1 q2
    injection q2 with q2 q3
    exact .inl ⟨hy, q1.symm, q2, q3, by unfold datE; rw [if_pos ⟨by omega, a2⟩]⟩
  · have := b (by omega)
    exact .inr ⟨by omega, by unfold datE; rw [if_neg (by omega)]⟩
theorem Court_c (day y m d c : Int) (w : World) (h : dat false day = (y, m, d)) (hc : datE false day = c) : Calls Tryd.prog 34 #[.int .i64 day] w fun e w' => e = .returned (.tuple #[.agg #[.int .i64 y, .int .i64 m, .int .i64 d], .int .i64 c]) ∧ Below w.heap.size w w' := by
  refine (Court_any day w).mono ?_
  rintro e w' ⟨rfl, hb⟩
  refine ⟨?_, hb⟩
  rw [h, hc]
theorem Market_c (day y m d c : Int) (w : World) (h : dat true day = (y, m, d)) (hc : datE true day = c) : Calls Tryd.prog 35 #[.int .i64 day] w fun e w' => e = .returned (.tuple #[.agg #[.int .i64 y, .int .i64 m, .int .i64 d], .int .i64 c]) ∧ Below w.heap.size w w' := by
  refine (Market_any day w).mono ?_
  rintro e w' ⟨rfl, hb⟩
  refine ⟨?_, hb⟩
  rw [h, hc]
def Ix3' (i : Value) : Prop := i = .int .i64 0 ∨ i = .int .i64 1 ∨ i = .int .i64 2
theorem c2_no {day many : Int} (h : ¬ (0 ≤ day ∧ day ≤ 3000000 ∧ 0 ≤ many ∧ many ≤ 400)) : day < 0 ∨ ¬ day < 0 ∧ (3000000 < day ∨ ¬ 3000000 < day ∧ (many < 0 ∨ ¬ many < 0 ∧ 400 < many)) := by omega
set_option maxRecDepth 100000 in
set_option maxHeartbeats 4000000 in
theorem law_cycles (day many : Int) (w : World) (_ : -9223372036854775808 ≤ day) (_ : day ≤ 9223372036854775807) (_ : -9223372036854775808 ≤ many) (_ : many ≤ 9223372036854775807) :
    Calls Tryd.prog 5 #[.int .i64 day, .int .i64 many] w fun e w' => e = .returned (.bool true) ∧ Below w.heap.size w w' := by
  by_cases hr : 0 ≤ day ∧ day ≤ 3000000 ∧ 0 ≤ many ∧ many ≤ 400
  · obtain ⟨d1, d2, m1, m2⟩ := hr
    go_enter Tryd.func5, Tryd.ntmps5
    go_wp2_with fail
    refine (sane_any _).mono ?_
    rintro e w1 ⟨rfl, hb1⟩
    go_wp2_with fail
    have hw1 := hb1.size
    go_loopw [5, 6, 31] (fun _ _ i wr => Ix3' i ∧ Below (w1.heap.size + 1) (w1.alloc (.cells #[.func (.func 34) #[] #[], .func (.func 35) #[] #[]] 47)) wr) (fun _ _ i _ => (2 - intOf i).toNat)
    case atStart => exact ⟨.inl rfl, Below.refl _ _⟩
    case round =>
      obtain ⟨hk, hB⟩ := hrel
      have hz := hB.size
      simp only [World.size_alloc] at hz
      have c0 : wr.cell? ⟨w1.heap.size, 0, none⟩ = some (.func (.func 34) #[] #[]) := by
        rw [hB.cell (p := ⟨w1.heap.size, 0, none⟩) (by simp)]; simp [go_sem]
      have c1 : wr.cell? ⟨w1.heap.size, 1, none⟩ = some (.func (.func 35) #[] #[]) := by
        rw [hB.cell (p := ⟨w1.heap.size, 1, none⟩) (by simp)]; simp [go_sem]
      have hBw : Below w.heap.size w wr := (bthen hb1 (ballo _ _)).trans (hB.mono (by omega))
      rcases hk with rfl | rfl | rfl
      · obtain ⟨y, m, d, e1, e2, hy, y', m', d', c, e3, e4, hor⟩ := cyc false d1 d2 m1
        simp only [cyD, cyY, Bool.false_eq_true, if_false] at e3 e4 hor
        have E1 := Lib.hid e1
        have E2 := Lib.hid e2
        have E3 := Lib.hid e3
        have E4 := Lib.hid e4
        clear e1 e2 e3 e4
        rcases hor with ⟨hle, rfl, rfl, rfl, rfl⟩ | ⟨hgt, rfl⟩
        · go_wp2_with fail
          go_region
          all_goals
            go_wp2_with fail
            refine (Court_c day _ _ _ _ _ E1.out E2.out).mono ?_
            rintro e w3 ⟨rfl, hb3⟩
            have hB3 : Below (w1.heap.size + 1) wr w3 := by
              refine Below.trans ?_ (hb3.mono (by simp; omega))
              repeat (first | exact Below.refl _ _ | refine Below.alloc ?_ (by first | omega | (simp; omega)) _ | refine below_drewN ?_ _ | refine Below.drew ?_)
            have hs3 := hB3.size
            clear hb3
            go_wp2_with fail
            refine (Court_c (day + 46751 * many) _ _ _ _ _ E3.out E4.out).mono ?_
            rintro e w4 ⟨rfl, hb4⟩
            obtain ⟨hc4, hf4⟩ := bcell hb4
            have hB4 : Below (w1.heap.size + 1) wr w4 := (hB3.trans ((ballo w3 _).mono (by omega))).trans (hb4.mono (by simp; omega))
            have hs4 := hb4.size
            simp only [World.size_alloc] at hs4
            have hlt4 : w3.heap.size < w4.heap.size := hs4
            clear hb4 hs4
            have ca0 := hc4 w3.heap.size 0 (by simp)
            have ca1 := hc4 w3.heap.size 1 (by simp)
            have ca2 := hc4 w3.heap.size 2 (by simp)
            have cf0 := hf4 w3.heap.size 0 (by simp)
            rw [frozen_new_row] at cf0
            simp [go_sem] at ca0 ca1 ca2
            clear hc4 hf4
            go_wp2_with fail
            refine ⟨⟨.inr (.inl rfl), hB.trans ?_⟩, by simp [intOf]⟩
            repeat (first | exact hB4 | refine Below.alloc ?_ (by first | omega | (simp; omega)) _ | refine Below.setCell ?_ (by first | omega | (simp; omega)) _)
        · go_wp2_with fail
          go_region
          all_goals
            go_wp2_with fail
            refine (Court_c day _ _ _ _ _ E1.out E2.out).mono ?_
            rintro e w3 ⟨rfl, hb3⟩
            have hB3 : Below (w1.heap.size + 1) wr w3 := by
              refine Below.trans ?_ (hb3.mono (by simp; omega))
              repeat (first | exact Below.refl _ _ | refine Below.alloc ?_ (by first | omega | (simp; omega)) _ | refine below_drewN ?_ _ | refine Below.drew ?_)
            have hs3 := hB3.size
            clear hb3
            go_wp2_with fail
            refine (Court_c (day + 46751 * many) _ _ _ _ _ E3.out E4.out).mono ?_
            rintro e w4 ⟨rfl, hb4⟩
            obtain ⟨hc4, hf4⟩ := bcell hb4
            have hB4 : Below (w1.heap.size + 1) wr w4 := (hB3.trans ((ballo w3 _).mono (by omega))).trans (hb4.mono (by simp; omega))
            have hs4 := hb4.size
            simp only [World.size_alloc] at hs4
            have hlt4 : w3.heap.size < w4.heap.size := hs4
            clear hb4 hs4
            have ca0 := hc4 w3.heap.size 0 (by simp)
            have ca1 := hc4 w3.heap.size 1 (by simp)
            have ca2 := hc4 w3.heap.size 2 (by simp)
            have cf0 := hf4 w3.heap.size 0 (by simp)
            rw [frozen_new_row] at cf0
            simp [go_sem] at ca0 ca1 ca2
            clear hc4 hf4
            go_wp2_with fail
            refine ⟨⟨.inr (.inl rfl), hB.trans ?_⟩, by simp [intOf]⟩
            repeat (first | exact hB4 | refine Below.alloc ?_ (by first | omega | (simp; omega)) _ | refine Below.setCell ?_ (by first | omega | (simp; omega)) _)
      · obtain ⟨y, m, d, e1, e2, hy, y', m', d', c, e3, e4, hor⟩ := cyc true d1 d2 m1
        simp only [cyD, cyY, if_true] at e3 e4 hor
        have E1 := Lib.hid e1
        have E2 := Lib.hid e2
        have E3 := Lib.hid e3
        have E4 := Lib.hid e4
        clear e1 e2 e3 e4
        rcases hor with ⟨hle, rfl, rfl, rfl, rfl⟩ | ⟨hgt, rfl⟩
        · go_wp2_with fail
          go_region
          all_goals
            go_wp2_with fail
            refine (Market_c day _ _ _ _ _ E1.out E2.out).mono ?_
            rintro e w3 ⟨rfl, hb3⟩
            have hB3 : Below (w1.heap.size + 1) wr w3 := by
              refine Below.trans ?_ (hb3.mono (by simp; omega))
              repeat (first | exact Below.refl _ _ | refine Below.alloc ?_ (by first | omega | (simp; omega)) _ | refine below_drewN ?_ _ | refine Below.drew ?_)
            have hs3 := hB3.size
            clear hb3
            go_wp2_with fail
            refine (Market_c (day + 10631 * many) _ _ _ _ _ E3.out E4.out).mono ?_
            rintro e w4 ⟨rfl, hb4⟩
            obtain ⟨hc4, hf4⟩ := bcell hb4
            have hB4 : Below (w1.heap.size + 1) wr w4 := (hB3.trans ((ballo w3 _).mono (by omega))).trans (hb4.mono (by simp; omega))
            have hs4 := hb4.size
            simp only [World.size_alloc] at hs4
            have hlt4 : w3.heap.size < w4.heap.size := hs4
            clear hb4 hs4
            have ca0 := hc4 w3.heap.size 0 (by simp)
            have ca1 := hc4 w3.heap.size 1 (by simp)
            have ca2 := hc4 w3.heap.size 2 (by simp)
            have cf0 := hf4 w3.heap.size 0 (by simp)
            rw [frozen_new_row] at cf0
            simp [go_sem] at ca0 ca1 ca2
            clear hc4 hf4
            go_wp2_with fail
            refine ⟨⟨.inr (.inr rfl), hB.trans ?_⟩, by simp [intOf]⟩
            repeat (first | exact hB4 | refine Below.alloc ?_ (by first | omega | (simp; omega)) _ | refine Below.setCell ?_ (by first | omega | (simp; omega)) _)
        · go_wp2_with fail
          go_region
          all_goals
            go_wp2_with fail
            refine (Market_c day _ _ _ _ _ E1.out E2.out).mono ?_
            rintro e w3 ⟨rfl, hb3⟩
            have hB3 : Below (w1.heap.size + 1) wr w3 := by
              refine Below.trans ?_ (hb3.mono (by simp; omega))
              repeat (first | exact Below.refl _ _ | refine Below.alloc ?_ (by first | omega | (simp; omega)) _ | refine below_drewN ?_ _ | refine Below.drew ?_)
            have hs3 := hB3.size
            clear hb3
            go_wp2_with fail
            refine (Market_c (day + 10631 * many) _ _ _ _ _ E3.out E4.out).mono ?_
            rintro e w4 ⟨rfl, hb4⟩
            obtain ⟨hc4, hf4⟩ := bcell hb4
            have hB4 : Below (w1.heap.size + 1) wr w4 := (hB3.trans ((ballo w3 _).mono (by omega))).trans (hb4.mono (by simp; omega))
            have hs4 := hb4.size
            simp only [World.size_alloc] at hs4
            have hlt4 : w3.heap.size < w4.heap.size := hs4
            clear hb4 hs4
            have ca0 := hc4 w3.heap.size 0 (by simp)
            have ca1 := hc4 w3.heap.size 1 (by simp)
            have ca2 := hc4 w3.heap.size 2 (by simp)
            have cf0 := hf4 w3.heap.size 0 (by simp)
            rw [frozen_new_row] at cf0
            simp [go_sem] at ca0 ca1 ca2
            clear hc4 hf4
            go_wp2_with fail
            refine ⟨⟨.inr (.inr rfl), hB.trans ?_⟩, by simp [intOf]⟩
            repeat (first | exact hB4 | refine Below.alloc ?_ (by first | omega | (simp; omega)) _ | refine Below.setCell ?_ (by first | omega | (simp; omega)) _)
      · go_wp2_with fail
        go_ret
        exact ⟨rfl, hBw⟩
  · rcases c2_no hr with h | ⟨h0, h | ⟨h1, h | ⟨h2, h⟩⟩⟩
    all_goals
      clear hr
      go_enter Tryd.func5, Tryd.ntmps5
      go_wp2_with fail
      refine (sane_any _).mono ?_
      rintro e w1 ⟨rfl, hb1⟩
      go_wp2_with fail
      go_ret
      exact ⟨rfl, hb1⟩
end Go.Proofs.YtpjnlcdmbkbfcaaDoor
