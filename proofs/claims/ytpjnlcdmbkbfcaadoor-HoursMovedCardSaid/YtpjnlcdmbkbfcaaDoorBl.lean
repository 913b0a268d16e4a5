/- Bells of a valid season, plain: each bell, the next one, what is told at it and a minute ahead of it. -/
import Derived.Test.YtpjnlcdmbkbfcaaDoorGd
namespace Go.Proofs.YtpjnlcdmbkbfcaaDoor
open Go.ChangeShapes Go.WideShapes Go.ChangeAt Go.RowKit Go.BigFrame

/-- The j-th bell of a day, counted on into the next day. -/
def bx (S : Sea) (day : Int) (j : Nat) : Int := (gm S (1440 * day + 60 * (j : Int)) + 719) / 720
theorem ordr_bx (day : Int) {j : Nat} (hj : j < 24) : ordr day (decide (12 ≤ j)) ((j % 12 : Nat) : Int) 0 = 1440 * day + 60 * (j : Int) := by
  unfold ordr
  by_cases h : 12 ≤ j
  · simp only [h, decide_true, if_true]; omega
  · simp only [h, decide_false, Bool.false_eq_true, if_false]; omega
theorem fst_bx (S : Sea) (day : Int) {j : Nat} (hj : j < 24) : fst S day (decide (12 ≤ j)) ((j % 12 : Nat) : Int) 0 = bx S day j := by
  unfold fst bx
  rw [gm_ordr S _ _ (okH_mk (by omega) (by omega) (by decide) (by decide)), ordr_bx day hj]
theorem fst_bx24 (S : Sea) (day : Int) : fst S (day + 1) false 0 0 = bx S day 24 := by
  have := fst_bx S (day + 1) (j := 0) (by decide)
  have e : fst S (day + 1) false 0 0 = bx S (day + 1) 0 := this
  rw [e]
  unfold bx
  rw [show 1440 * (day + 1) + 60 * ((0 : Nat) : Int) = 1440 * day + 60 * ((24 : Nat) : Int) by omega]
theorem bells_el (S : Sea) (day : Int) (x : Int) (hx : x = bx S day 24) (j : Nat) (hj : j ≤ 24) : (blL S day 24 ++ [x])[j]?.getD 0 = bx S day j := by
  by_cases h : j < 24
  · rw [List.getElem?_append_left (by rw [blL_len]; exact h), blL_el S day 24 j h, fst_bx S day h]
  · obtain rfl : j = 24 := by omega
    rw [List.getElem?_append_right (by rw [blL_len]; omega), blL_len, hx]
    rfl
theorem gm_bx (S : Sea) (hv : vld S = true) {day : Int} (h0 : 0 ≤ day) {j : Nat} : 0 < gm S (1440 * day + 60 * (j : Int)) := by
  have h1 := gm_far hv (a := 0) (b := 1440 * day + 60 * (j : Int)) (by omega)
  have h2 : gm S 0 = 720 * lnR S 0 := by
    have : gN 0 = false := by decide
    unfold gm
    rw [this]
    simp [spanA]
    omega
  have := lnR_bd hv 0
  omega
theorem gm_top (S : Sea) (hv : vld S = true) {day : Int} {j : Nat} (hj : j ≤ 24) : gm S (1440 * day + 60 * (j : Int)) ≤ 720 * (1440 * day + 2880) := by
  have h1 := gm_far hv (a := 1440 * day + 60 * (j : Int)) (b := 1440 * (day + 1)) (by omega)
  have h2 : gm S (1440 * (day + 1)) = 720 * (1440 * (day + 1) + lnR S (day + 1)) := by
    have e : gN (1440 * (day + 1)) = false := by unfold gN; rw [decide_eq_false]; omega
    have e1 : 1440 * (day + 1) / 1440 = day + 1 := by omega
    have e2 : 1440 * (day + 1) % 720 = 0 := by omega
    unfold gm
    rw [e, e1, e2]
    simp only [spanA, Bool.false_eq_true, if_false]
    omega
  have := lnR_bd hv (day + 1)
  omega
theorem bx_next (S : Sea) (day : Int) : bx S (day + 1) 0 = bx S day 24 := by
  unfold bx
  rw [show 1440 * (day + 1) + 60 * ((0 : Nat) : Int) = 1440 * day + 60 * ((24 : Nat) : Int) by omega]
theorem Own.room {w : World} {base : Nat} {v : Value} {l : List Int} (h : Own w base v l) (h0 : 0 < l.length) : ∃ g c, v = .slice (some ⟨g, 0, none⟩) l.length c ∧ (l.length ≤ c ∧ c ≤ 9223372036854775807) ∧ (base ≤ g ∧ g < w.heap.size) ∧ ∀ j, j < l.length → w.cell? ⟨g, j, none⟩ = some (.int .i64 (l[j]?.getD 0)) := by
  rcases h.parts with ⟨rfl, _⟩ | ⟨g, c, rfl, hbg, hlt, hm, hc⟩
  · simp at h0
  · rcases h.2 with ⟨h1, _⟩ | ⟨g', cap, cur, hv, _, _, hn, hcm, _⟩
    · cases h1
    · injection hv with _ _ e
      subst e
      exact ⟨g, _, rfl, ⟨hn, by unfold maxLen at hcm; omega⟩, ⟨hbg, hlt⟩, hc⟩
/-- The row of a day's bells, the next day's first behind them. -/
def Bl25 (w : World) (g n : Nat) (S : Sea) (day : Int) : Prop := g < w.heap.size ∧ ∀ j, j < n → w.cell? ⟨g, j, none⟩ = some (.int .i64 (bx S day j))
theorem Bl25.below {w w' : World} {g n : Nat} {S : Sea} {day : Int} (h : Bl25 w g n S day) (hb : Below w.heap.size w w') : Bl25 w' g n S day :=
  ⟨Nat.lt_of_lt_of_le h.1 hb.size, fun j hj => (hb.cell (p := ⟨g, j, none⟩) h.1).trans (h.2 j hj)⟩
theorem bells_own {w : World} {base : Nat} {v : Value} {S : Sea} {day x : Int} (h : Own w base v (blL S day 24 ++ [x])) (hx : x = bx S day 24) : ∃ g c, v = .slice (some ⟨g, 0, none⟩) 25 c ∧ (25 ≤ c ∧ c ≤ 9223372036854775807) ∧ base ≤ g ∧ Bl25 w g 25 S day := by
  have hl : (blL S day 24 ++ [x]).length = 25 := by rw [List.length_append, blL_len]; rfl
  obtain ⟨g, c, hv, hc, ⟨hb, hg⟩, hcell⟩ := h.room (by omega)
  rw [hl] at hv hc hcell
  exact ⟨g, c, hv, hc, hb, hg, fun j hj => by rw [hcell j hj, bells_el S day x hx j (by omega)]⟩
theorem Bells_ok (S : Sea) (vd vr vs : Value) (day : Int) (w : World) (hI : SeaIn w vd vr vs S) (hv : vld S = true) (h1 : 0 ≤ day) (h2 : day ≤ 11000) :
    Calls Tryd.prog 57 #[.agg #[.int .i64 S.L, vd, vr, vs], .int .i64 day] w fun e w' => ∃ g c, e = .returned (.tuple #[.slice (some ⟨g, 0, none⟩) 24 c, .int .i64 0]) ∧ Own w' w.heap.size (.slice (some ⟨g, 0, none⟩) 24 c) (blL S day 24) ∧ Bl25 w' g 24 S day ∧ Below w.heap.size w w' := by
  refine (Bells_any S vd vr vs day w hI).mono ?_
  rintro e w' ⟨v, rfl, hO, hb⟩
  rw [if_pos (by rw [hv, inB_mk h1 h2]; rfl)] at hO
  have hl : (blL S day 24).length = 24 := blL_len S day 24
  obtain ⟨g, c, rfl, _, ⟨_, hg⟩, hcell⟩ := hO.room (by omega)
  rw [hl] at hO hcell ⊢
  exact ⟨g, c, by rw [askE_ok hv (inB_mk h1 h2)], hO, ⟨hg, fun j hj => by rw [hcell j hj, blL_el S day 24 j hj, fst_bx S day hj]⟩, hb⟩
theorem rOrd_c (day : Int) (nt : Bool) (h p x : Int) (w : World) (hd : -1000000 ≤ day) (hd' : day ≤ 1000000) (h1 : 0 ≤ h) (h1' : h ≤ 11) (h2 : 0 ≤ p) (h2' : p ≤ 59) (hx : ordr day nt h p = x) :
    Calls Tryd.prog 50 #[.int .i64 day, .agg #[.bool nt, .int .i64 h, .int .i64 p]] w fun e w' => e = .returned (.int .i64 x) ∧ Below w.heap.size w w' := by rw [← hx]; exact rOrder_any day nt h p w hd hd' h1 h1' h2 h2'
/-- One round of the statement's loop. -/
theorem bell_round (S : Sea) (hv : vld S = true) {day : Int} (h0 : 0 ≤ day) (h1 : day ≤ 10998) {k : Nat} (hk : k < 24) :
    (1 ≤ bx S day k ∧ bx S day k ≤ 15840000) ∧ bx S day k < bx S day (k + 1) ∧
    (tD S (bx S day k) = day ∧ tN S (bx S day k) = decide (12 ≤ k) ∧ tP S (bx S day k) / 60 = ((k % 12 : Nat) : Int)) ∧
    tix S (bx S day k - 1) < 1440 * day + 60 * (k : Int) ∧ (tD S (bx S day k - 1) < 0 → day = 0 ∧ k = 0) ∧ tD S (bx S day k - 1) ≤ 11000 := by
  have p1 := gm_bx S hv h0 (j := k)
  have p2 := gm_top S hv (day := day) (j := k) (by omega)
  have p3 := fst_next hv (1440 * day + 60 * (k : Int))
  have p4 := bell_told hv (1440 * day + 60 * (k : Int))
  have p5 := bell_ahead hv (1440 * day + 60 * (k : Int))
  have e : bx S day k = (gm S (1440 * day + 60 * (k : Int)) + 719) / 720 := rfl
  have e' : bx S day (k + 1) = (gm S (1440 * day + 60 * (k : Int) + 60) + 719) / 720 := by
    unfold bx
    rw [show 1440 * day + 60 * ((k + 1 : Nat) : Int) = 1440 * day + 60 * (k : Int) + 60 by omega]
  rw [← e] at p3 p4 p5
  rw [← e'] at p3
  obtain ⟨q1, q2, q3, q4⟩ := tix_parts hv (bx S day k)
  obtain ⟨r1, r2, r3, r4⟩ := tix_parts hv (bx S day k - 1)
  have t := tD_of hv (bx S day k - 1)
  refine ⟨⟨by omega, by omega⟩, p3, ⟨by omega, ?_, by omega⟩, p5, fun h => ?_, by omega⟩
  · rw [← q2]
    unfold gN
    congr 1
    simp only [eq_iff_iff]
    omega
  · by_cases hz : day = 0 ∧ k = 0
    · exact hz
    · exfalso
      have f := fst_next hv (1440 * day + 60 * (k : Int) - 60)
      rw [show 1440 * day + 60 * (k : Int) - 60 + 60 = 1440 * day + 60 * (k : Int) by omega, ← e] at f
      have g := (tix_iff hv (bx S day k - 1) (1440 * day + 60 * (k : Int) - 60)).1 (by omega)
      omega
theorem Box.put3 {w : World} {b : Nat} {x y z : Value} (h : Box w b [x, y, z]) (x' y' z' : Value) : Box (((w.setCell ⟨b, 0, none⟩ x').setCell ⟨b, 1, none⟩ y').setCell ⟨b, 2, none⟩ z') b [x', y', z'] := by
  have h0 : w.cell? ⟨b, 0, none⟩ = some x := h.c 0 (by simp)
  have h1 : w.cell? ⟨b, 1, none⟩ = some y := h.c 1 (by simp)
  have h2 : w.cell? ⟨b, 2, none⟩ = some z := h.c 2 (by simp)
  have a0 : (w.setCell ⟨b, 0, none⟩ x').cell? ⟨b, 0, none⟩ = some x' := World.cell?_setCell_same' _ _ _ (by rw [h0]; rfl)
  have a1 : (w.setCell ⟨b, 0, none⟩ x').cell? ⟨b, 1, none⟩ = some y := (World.cell?_setCell_other _ _ _ _ (fun e => by cases e)).trans h1
  have a2 : (w.setCell ⟨b, 0, none⟩ x').cell? ⟨b, 2, none⟩ = some z := (World.cell?_setCell_other _ _ _ _ (fun e => by cases e)).trans h2
  have b0 : ((w.setCell ⟨b, 0, none⟩ x').setCell ⟨b, 1, none⟩ y').cell? ⟨b, 0, none⟩ = some x' := (World.cell?_setCell_other _ _ _ _ (fun e => by cases e)).trans a0
  have b1 : ((w.setCell ⟨b, 0, none⟩ x').setCell ⟨b, 1, none⟩ y').cell? ⟨b, 1, none⟩ = some y' := World.cell?_setCell_same' _ _ _ (by rw [a1]; rfl)
  have b2 : ((w.setCell ⟨b, 0, none⟩ x').setCell ⟨b, 1, none⟩ y').cell? ⟨b, 2, none⟩ = some z := (World.cell?_setCell_other _ _ _ _ (fun e => by cases e)).trans a2
  refine ⟨by simpa using h.lt, fun j hj => ?_⟩
  obtain rfl | rfl | rfl : j = 0 ∨ j = 1 ∨ j = 2 := by simp at hj; omega
  · exact (World.cell?_setCell_other _ _ _ _ (fun e => by cases e)).trans b0
  · exact (World.cell?_setCell_other _ _ _ _ (fun e => by cases e)).trans b1
  · exact World.cell?_setCell_same' _ _ _ (by rw [b2]; rfl)
theorem Bx.add {w : World} {L : List (Nat × List Value)} {b : Nat} {A : List Value} (h : Bx w L) (hb : Box w b A) : Bx w ((b, A) :: L) := fun p hp => by
  rcases List.mem_cons.1 hp with rfl | h1
  · exact hb
  · exact h p h1
end Go.Proofs.YtpjnlcdmbkbfcaaDoor
