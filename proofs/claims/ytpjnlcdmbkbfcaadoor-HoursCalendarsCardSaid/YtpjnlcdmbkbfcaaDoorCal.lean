/- Dates and days, plain; the calendars' contracts with their values named. -/
import Derived.Test.YtpjnlcdmbkbfcaaDoorLCycles
namespace Go.Proofs.YtpjnlcdmbkbfcaaDoor
open Go.ChangeShapes Go.WideShapes Go.ChangeAt Go.RowKit Go.BigFrame
theorem CourtDay_c (y m d n c : Int) (w : World) (hn : numV false y m d = n) (hc : numE false y m d = c) : Calls Tryd.prog 37 #[.agg #[.int .i64 y, .int .i64 m, .int .i64 d]] w fun e w' => e = .returned (.tuple #[.int .i64 n, .int .i64 c]) ∧ Below w.heap.size w w' := by
  refine (CourtDay_any y m d w).mono ?_
  rintro e w' ⟨rfl, hb⟩
  refine ⟨?_, hb⟩
  rw [hn, hc]
theorem MarketDay_c (y m d n c : Int) (w : World) (hn : numV true y m d = n) (hc : numE true y m d = c) : Calls Tryd.prog 40 #[.agg #[.int .i64 y, .int .i64 m, .int .i64 d]] w fun e w' => e = .returned (.tuple #[.int .i64 n, .int .i64 c]) ∧ Below w.heap.size w w' := by
  refine (MarketDay_any y m d w).mono ?_
  rintro e w' ⟨rfl, hb⟩
  refine ⟨?_, hb⟩
  rw [hn, hc]
theorem num_y2 {mk : Bool} {y m d n : Int} (h : okD mk y m d = true) (hn : num mk y m d = n) : numV mk y m d = n ∧ numE mk y m d = 0 ∧ dat mk n = (y, m, d) ∧ datE mk n = 0 := by
  obtain ⟨a, b⟩ := num_bd h
  refine ⟨by unfold numV; rw [if_pos h]; exact hn, by unfold numE; rw [if_pos h], dat_eq h hn, ?_⟩
  unfold datE
  rw [← hn, if_pos ⟨a, b⟩]
theorem num_not {mk : Bool} {y m d : Int} (h : okD mk y m d = false) : numV mk y m d = 0 ∧ numE mk y m d = 1 := by
  constructor
  · unfold numV; rw [if_neg (by rw [h]; decide)]
  · unfold numE; rw [if_neg (by rw [h]; decide)]
theorem sta_9000 (mk : Bool) : 3000000 < sta mk 9000 := by cases mk <;> decide
theorem cal_in (mk : Bool) {day : Int} (h0 : 0 ≤ day) (h1 : day ≤ 3000000) : ∃ y m d s, (dat mk day = (y, m, d) ∧ datE mk day = 0) ∧ (numV mk y m d = day ∧ numE mk y m d = 0) ∧ (1 ≤ y ∧ y ≤ 9000) ∧ (1 ≤ m ∧ m ≤ nmo mk) ∧ (1 ≤ d ∧ d ≤ 30) ∧
    (0 ≤ s ∧ s ≤ 4000000) ∧ (numV mk y 1 1 = s ∧ numE mk y 1 1 = 0) ∧ (numV mk (y + cyY mk) 1 1 = s + cyD mk ∧ numE mk (y + cyY mk) 1 1 = 0) ∧
    ∃ y2 m2 d2, (dat mk (day + 1) = (y2, m2, d2) ∧ datE mk (day + 1) = 0) ∧ (y2 = y ∧ m2 = m ∧ d2 = d + 1 ∨ y2 = y ∧ m2 = m + 1 ∧ d2 = 1 ∨ y2 = y + 1 ∧ m2 = 1 ∧ d2 = 1 ∧ m = nmo mk) := by
  have hM := dMax_lt mk
  obtain ⟨y, m, d, e⟩ : ∃ y m d, dat mk day = (y, m, d) := ⟨_, _, _, rfl⟩
  obtain ⟨hk, hnum⟩ := dat_bd h0 (by omega) e
  obtain ⟨⟨y1, y2⟩, ⟨a1, a2⟩, c1, c2⟩ := okD_iff.1 hk
  have hml := mln_bd mk y1 a1 a2
  have hnx := dat_next h0 (by omega) e
  obtain ⟨v1, v2, _, v4⟩ := num_y2 hk hnum
  have hy : y ≤ 9000 := by
    by_cases hq : 9000 < y
    · have s1 := sta_mono mk (y := 9000) (z := y) (by omega) (by omega)
      have s2 := (num_in hk).2.1
      have s3 := sta_9000 mk
      omega
    · omega
  have hcy : 0 ≤ cyY mk ∧ cyY mk ≤ 128 := by cases mk <;> decide
  have hn12 := nmo_pos mk
  have k1 : okD mk y 1 1 = true := okD_iff.2 ⟨⟨y1, y2⟩, ⟨by omega, by omega⟩, by omega, mln_pos y1 (by omega) (by omega)⟩
  have k2 : okD mk (y + cyY mk) 1 1 = true := okD_iff.2 ⟨⟨by omega, by omega⟩, ⟨by omega, by omega⟩, by omega, mln_pos (by omega) (by omega) (by omega)⟩
  have n1 : num mk y 1 1 = sta mk y := by unfold num; rw [pre_1]; omega
  have n2 : num mk (y + cyY mk) 1 1 = sta mk y + cyD mk := by unfold num; rw [pre_1, sta_cycle]; omega
  have sb := sta_bd mk y1
  have sb2 : sta mk y ≤ 3000000 := by
    have s2 := (num_in hk).2.1
    omega
  obtain ⟨y', m', d', e'⟩ : ∃ y m d, dat mk (day + 1) = (y, m, d) := ⟨_, _, _, rfl⟩
  refine ⟨y, m, d, sta mk y, ⟨e, by unfold datE; rw [if_pos ⟨h0, by omega⟩]⟩, ⟨v1, v2⟩, ⟨y1, hy⟩, ⟨a1, a2⟩, ⟨c1, by omega⟩, ⟨sb.1, by omega⟩, ⟨(num_y2 k1 n1).1, (num_y2 k1 n1).2.1⟩, ⟨(num_y2 k2 n2).1, (num_y2 k2 n2).2.1⟩, y', m', d', ⟨e', by unfold datE; rw [if_pos ⟨by omega, by omega⟩]⟩, ?_⟩
  rw [e'] at hnx
  split at hnx
  · injection hnx with q1 q2
    injection q2 with q2 q3
    exact .inl ⟨q1, q2, q3⟩
  · split at hnx
    · injection hnx with q1 q2
      injection q2 with q2 q3
      exact .inr (.inl ⟨q1, q2, q3⟩)
    · injection hnx with q1 q2
      injection q2 with q2 q3
      exact .inr (.inr ⟨q1, q2, q3, by omega⟩)
theorem num_cases (mk : Bool) (y m d : Int) : ∃ nv ne, numV mk y m d = nv ∧ numE mk y m d = ne ∧ (ne = 1 ∨ ne = 0 ∧ dat mk nv = (y, m, d) ∧ datE mk nv = 0) := by
  cases hd : okD mk y m d
  · obtain ⟨a, b⟩ := num_not hd
    exact ⟨0, 1, a, b, .inl rfl⟩
  · obtain ⟨a, b, c, e⟩ := num_y2 hd rfl
    exact ⟨_, 0, a, b, .inr ⟨rfl, c, e⟩⟩
theorem cal_in_Court {day : Int} (h0 : 0 ≤ day) (h1 : day ≤ 3000000) : ∃ y m d s, (dat false day = (y, m, d) ∧ datE false day = 0) ∧ (numV false y m d = day ∧ numE false y m d = 0) ∧ (1 ≤ y ∧ y ≤ 9000) ∧ (1 ≤ m ∧ m ≤ 13) ∧ (1 ≤ d ∧ d ≤ 30) ∧
    (0 ≤ s ∧ s ≤ 4000000) ∧ (numV false y 1 1 = s ∧ numE false y 1 1 = 0) ∧ (numV false (y + 128) 1 1 = s + 46751 ∧ numE false (y + 128) 1 1 = 0) ∧
    ∃ y2 m2 d2, (dat false (day + 1) = (y2, m2, d2) ∧ datE false (day + 1) = 0) ∧ (y2 = y ∧ m2 = m ∧ d2 = d + 1 ∨ y2 = y ∧ m2 = m + 1 ∧ d2 = 1 ∨ y2 = y + 1 ∧ m2 = 1 ∧ d2 = 1 ∧ m = 13) := cal_in false h0 h1
theorem cal_in_Market {day : Int} (h0 : 0 ≤ day) (h1 : day ≤ 3000000) : ∃ y m d s, (dat true day = (y, m, d) ∧ datE true day = 0) ∧ (numV true y m d = day ∧ numE true y m d = 0) ∧ (1 ≤ y ∧ y ≤ 9000) ∧ (1 ≤ m ∧ m ≤ 12) ∧ (1 ≤ d ∧ d ≤ 30) ∧
    (0 ≤ s ∧ s ≤ 4000000) ∧ (numV true y 1 1 = s ∧ numE true y 1 1 = 0) ∧ (numV true (y + 30) 1 1 = s + 10631 ∧ numE true (y + 30) 1 1 = 0) ∧
    ∃ y2 m2 d2, (dat true (day + 1) = (y2, m2, d2) ∧ datE true (day + 1) = 0) ∧ (y2 = y ∧ m2 = m ∧ d2 = d + 1 ∨ y2 = y ∧ m2 = m + 1 ∧ d2 = 1 ∨ y2 = y + 1 ∧ m2 = 1 ∧ d2 = 1 ∧ m = 12) := cal_in true h0 h1
theorem cal_out (mk : Bool) (day : Int) : ∃ y m d c, dat mk day = (y, m, d) ∧ datE mk day = c ∧ (day < 0 → c = 1) :=
  ⟨_, _, _, _, rfl, rfl, fun h => by unfold datE; rw [if_neg (by omega)]⟩
theorem Bx.putc {w : World} {L : List (Nat × List Value)} {b : Nat} {A : List Value} (h : Bx w L) (hb : Box w b A) : Bx w ((b, A) :: L) := fun p hp => by
  rcases List.mem_cons.1 hp with rfl | h1
  · exact hb
  · exact h p h1
end Go.Proofs.YtpjnlcdmbkbfcaaDoor
