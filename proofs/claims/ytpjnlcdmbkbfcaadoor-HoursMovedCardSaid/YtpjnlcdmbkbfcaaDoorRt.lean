/- Contracts of the law package's own helpers right and exact. -/
import Derived.Test.YtpjnlcdmbkbfcaaDoorLMoments
namespace Go.Proofs.YtpjnlcdmbkbfcaaDoor
open Go.ChangeShapes Go.WideShapes Go.ChangeAt Go.RowKit Go.BigFrame

theorem rfun_any (nt : Bool) (h p : Int) (w : World) : Calls Tryd.prog 100 #[.agg #[.bool nt, .int .i64 h, .int .i64 p]] w fun e w' => e = .returned (.bool (!okH h p)) ∧ Below w.heap.size w w' := by
  go_enter Tryd.func100, Tryd.ntmps100
  go_wp2_with fail
  refine (rHour_any nt h p _).mono ?_
  rintro e w1 ⟨rfl, hb⟩
  go_wp2_with fail
  go_ret
  exact ⟨rfl, bafter hb⟩

theorem idx0_any (w : World) : Calls Tryd.prog 112 #[.slice none 0 0, .func (.func 100) #[] #[]] w fun e w' => e = .returned (.int .i64 (-1)) ∧ Below w.heap.size w w' := by
  go_enter Tryd.func112, Tryd.ntmps112
  go_wp2_with fail
  go_loopw [8] (fun i wr => i = .int .i64 0 ∧ wr = w) (fun i _ => (1 - intOf i).toNat)
  case atStart => exact ⟨rfl, rfl⟩
  case round =>
    obtain ⟨rfl, rfl⟩ := hrel
    go_wp2_with fail
    go_ret
    exact ⟨rfl, Below.refl _ _⟩
theorem idx1_any (b : Nat) (nt : Bool) (h p : Int) (w : World) (hB : Box w b [.bool nt, .int .i64 h, .int .i64 p]) : Calls Tryd.prog 112 #[.slice (some ⟨b, 0, none⟩) 1 1, .func (.func 100) #[] #[]] w fun e w' => e = .returned (.int .i64 (if okH h p then -1 else 0)) ∧ Below w.heap.size w w' := by
  have c0 := hB.c 0 (by simp)
  have c1 := hB.c 1 (by simp)
  have c2 := hB.c 2 (by simp)
  have hz := hB.lt
  simp only [List.getElem?_cons_zero, List.getElem?_cons_succ, Option.getD_some] at c0 c1 c2
  rcases bool_ft (okH h p) with hk | hk
  · have HK := Lib.hid hk
    rw [hk]
    clear hk
    go_enter Tryd.func112, Tryd.ntmps112
    go_wp2_with fail
    go_loopw [8] (fun i wr => i = .int .i64 0 ∧ wr = w) (fun i _ => (1 - intOf i).toNat)
    case atStart => exact ⟨rfl, rfl⟩
    case round =>
      obtain ⟨rfl, rfl⟩ := hrel
      go_wp2_with fail
      refine (rfun_any nt h p _).mono ?_
      rintro e w1 ⟨rfl, hb⟩
      rw [HK.out]
      go_wp2_with fail
      go_ret
      exact ⟨rfl, hb⟩
  · have HK := Lib.hid hk
    rw [hk]
    clear hk
    go_enter Tryd.func112, Tryd.ntmps112
    go_wp2_with fail
    go_loopw [8] (fun i wr => i = .int .i64 0 ∧ wr = w ∨ i = .int .i64 1 ∧ Below w.heap.size w wr) (fun i _ => (1 - intOf i).toNat)
    case atStart => exact .inl ⟨rfl, rfl⟩
    case round =>
      rcases hrel with ⟨rfl, rfl⟩ | ⟨rfl, hb⟩
      · go_wp2_with fail
        refine (rfun_any nt h p _).mono ?_
        rintro e w1 ⟨rfl, hb⟩
        rw [HK.out]
        go_wp2_with fail
        exact ⟨.inr ⟨rfl, hb⟩, by simp [intOf]⟩
      · go_wp2_with fail
        go_ret
        exact ⟨rfl, hb⟩
theorem c0_any (w : World) : Calls Tryd.prog 99 #[.slice none 0 0, .func (.func 100) #[] #[]] w fun e w' => e = .returned (.bool false) ∧ Below w.heap.size w w' := by
  go_enter Tryd.func99, Tryd.ntmps99
  go_wp2_with fail
  refine (idx0_any _).mono ?_
  rintro e w1 ⟨rfl, hb⟩
  go_wp2_with fail
  go_ret
  exact ⟨rfl, hb⟩
theorem c1_any (b : Nat) (nt : Bool) (h p : Int) (k : Bool) (hk : okH h p = k) (w : World) (hB : Box w b [.bool nt, .int .i64 h, .int .i64 p]) : Calls Tryd.prog 99 #[.slice (some ⟨b, 0, none⟩) 1 1, .func (.func 100) #[] #[]] w fun e w' => e = .returned (.bool !k) ∧ Below w.heap.size w w' := by
  go_enter Tryd.func99, Tryd.ntmps99
  go_wp2_with fail
  refine (idx1_any b nt h p _ hB).mono ?_
  rintro e w1 ⟨rfl, hb⟩
  rw [hk]
  cases k
  all_goals
    go_wp2_with fail
    go_ret
    exact ⟨rfl, hb⟩
/-- A slice of no hour, or of one. -/
def Hrs (w : World) (v : Value) (ok : Bool) : Prop := v = .slice none 0 0 ∧ ok = true ∨ ∃ b nt h p, v = .slice (some ⟨b, 0, none⟩) 1 1 ∧ Box w b [.bool nt, .int .i64 h, .int .i64 p] ∧ okH h p = ok
theorem Hrs.below {w w' : World} {v : Value} {ok : Bool} (h : Hrs w v ok) (hb : Below w.heap.size w w') : Hrs w' v ok := by
  rcases h with h | ⟨b, nt, h, p, h1, h2, h3⟩
  · exact .inl h
  · exact .inr ⟨b, nt, h, p, h1, h2.below hb, h3⟩
theorem cF_any (v : Value) (ok : Bool) (w : World) (h : Hrs w v ok) : Calls Tryd.prog 99 #[v, .func (.func 100) #[] #[]] w fun e w' => e = .returned (.bool !ok) ∧ Below w.heap.size w w' := by
  rcases h with ⟨rfl, rfl⟩ | ⟨b, nt, h, p, rfl, h2, h3⟩
  · exact c0_any w
  · exact c1_any b nt h p ok h3 w h2
theorem few_ok {S : Sea} (h : vld S = true) : (decide (S.d.length ≤ 30) && decide (S.r.length ≤ 30) && decide (S.s.length ≤ 30)) = true := by
  have v := (vld_iff S).1 h
  have h1 := v.n2
  have h2 := v.nr
  have h3 := v.ns
  simp; omega
def daysB (l : List Int) : Bool := l.all fun n => inB n 0 11000
theorem daysB_no {l : List Int} {k : Nat} (hk : k < l.length) (h : inB (el l k) 0 11000 = false) : daysB l = false := by
  rw [daysB, List.all_eq_false]
  refine ⟨l[k], List.getElem_mem hk, ?_⟩
  simp only [el, List.getElem?_eq_getElem hk, Option.getD_some] at h
  rw [h]; decide
theorem daysB_of {l : List Int} (h : ∀ j, j < l.length → inB (el l j) 0 11000 = true) : daysB l = true := by
  rw [daysB, List.all_eq_true]
  intro x hx
  obtain ⟨k, hk, rfl⟩ := List.getElem_of_mem hx
  have := h k hk
  simpa only [el, List.getElem?_eq_getElem hk, Option.getD_some] using this
def rgt (S : Sea) (l : List Int) (ok : Bool) : Bool := vld S && daysB l && ok
set_option maxRecDepth 100000 in
set_option maxHeartbeats 4000000 in
theorem right_any (S : Sea) (vd vr vs v hv : Value) (l : List Int) (ok : Bool) (w : World) (hI : SeaIn w vd vr vs S) (hl : Ints w v l) (hn : l.length ≤ 24) (hh : Hrs w hv ok) :
    Calls Tryd.prog 46 #[.agg #[.int .i64 S.L, vd, vr, vs], v, hv] w fun e w' => e = .returned (.bool (rgt S l ok)) ∧ Below w.heap.size w w' := by
  have hI0 := hI.alloc (seaO S vd vr vs)
  have hL0 := (Bx.none w).cons [.int .i64 S.L, vd, vr, vs] 24
  have hB0 : Below w.heap.size w (w.alloc (seaO S vd vr vs)) := ballo _ _
  have hC := True.intro
  rcases bool_ft (decide (S.d.length ≤ 30) && decide (S.r.length ≤ 30) && decide (S.s.length ≤ 30)) with hfw | hfw
  · have hR : rgt S l ok = false := by
      rcases bool_ft (vld S) with hv1 | hv1
      · simp [rgt, hv1]
      · rw [few_ok hv1] at hfw; cases hfw
    have HF := Lib.hid hfw
    rw [hR]
    clear hR hfw
    go_enter Tryd.func46, Tryd.ntmps46
    go_wp2_with fail
    clear hC
    refine (few_c S vd vr vs _ _ hI0 HF.out).mono ?_
    rintro e w1 ⟨rfl, hb⟩
    have hI1 := hI0.below hb
    have hL1 := hL0.below hb
    have hB1 := bnext hB0 hb
    have hC := hL1.facts
    simp only [AllC, RowC, Nat.zero_add, Nat.reduceAdd] at hC
    go_wp2_with fail
    go_ret
    exact ⟨rfl, hB1⟩
  · rcases bool_ft (vld S) with hv1 | hv1
    · have hR : rgt S l ok = false := by simp [rgt, hv1]
      have HF := Lib.hid hfw
      have HV := Lib.hid (chk_no hv1)
      rw [hR]
      clear hR hfw hv1
      go_enter Tryd.func46, Tryd.ntmps46
      go_wp2_with fail
      clear hC
      refine (few_c S vd vr vs _ _ hI0 HF.out).mono ?_
      rintro e w1 ⟨rfl, hb⟩
      have hI1 := hI0.below hb
      have hL1 := hL0.below hb
      have hB1 := bnext hB0 hb
      have hC := hL1.facts
      simp only [AllC, RowC, Nat.zero_add, Nat.reduceAdd] at hC
      go_wp2_with fail
      clear hC
      refine (Check_c S vd vr vs _ _ hI1 HV.out).mono ?_
      rintro e w2 ⟨rfl, hb⟩
      have hI2 := hI1.below hb
      have hL2 := hL1.below hb
      have hB2 := bnext hB1 hb
      have hC := hL2.facts
      simp only [AllC, RowC, Nat.zero_add, Nat.reduceAdd] at hC
      go_wp2_with fail
      go_ret
      exact ⟨rfl, hB2⟩
    · have hR : rgt S l ok = (daysB l && ok) := by simp [rgt, hv1]
      have HF := Lib.hid hfw
      have HV := Lib.hid (chk_ok hv1)
      have v5 := (vld_iff S).1 hv1
      obtain ⟨od, nd, cd, rfl, ld, md⟩ := hI.d.parts
      obtain ⟨or_, nr, cr, rfl, lr, mr⟩ := hI.r.parts
      obtain ⟨os, ns, cs, rfl, ls, ms⟩ := hI.s.parts
      obtain ⟨o, n, c, rfl, le, me⟩ := hl.parts
      have hn1 : n ≤ 24 := by rw [← le.out]; exact hn
      have k1 : 1 ≤ nd := by rw [← ld.out]; exact v5.n1
      have k2 : nr = nd := by rw [← ld.out, ← lr.out]; exact v5.nr
      have k3 : ns = nd := by rw [← ld.out, ← ls.out]; exact v5.ns
      have k4 : ¬ S.L < 1 := by have := v5.L1; omega
      subst k2
      subst k3
      have k5 : ((ns : Int) == 0) = false := by simp; omega
      have k6 : ¬ ((((ns : Int) == 0) = true) ∨ S.L < 1) := by rw [k5]; simp; omega
      have k7 : ¬ ns = 0 := by omega
      rw [hR]
      clear hR hfw hv1 v5 md mr ms me hn
      go_enter Tryd.func46, Tryd.ntmps46
      go_wp2_with fail
      clear hC
      refine (few_c S _ _ _ _ _ hI0 HF.out).mono ?_
      rintro e w1 ⟨rfl, hb⟩
      have hI1 := hI0.below hb
      have hL1 := hL0.below hb
      have hB1 := bnext hB0 hb
      have hC := hL1.facts
      simp only [AllC, RowC, Nat.zero_add, Nat.reduceAdd] at hC
      go_wp2_with fail
      clear hC
      refine (Check_c S _ _ _ _ _ hI1 HV.out).mono ?_
      rintro e w2 ⟨rfl, hb⟩
      have hI2 := hI1.below hb
      have hL2 := hL1.below hb
      have hB2 := bnext hB1 hb
      have hC := hL2.facts
      simp only [AllC, RowC, Nat.zero_add, Nat.reduceAdd] at hC
      go_wp2_with fail
      have hl2 := hl.below hB2
      have hh2 := hh.below hB2
      go_loopw [8, 48] (fun _ i wr => ∃ k : Nat, k ≤ n ∧ i = .int .i64 (k : Int) ∧ wr = w2 ∧ Hid (∀ j, j < k → inB (el l j) 0 11000 = true)) (fun _ i _ => n - (intOf i).toNat)
      case atStart => exact ⟨0, Nat.zero_le _, rfl, rfl, fun j hj => absurd hj (by omega)⟩
      case round =>
        obtain ⟨k, hk, rfl, rfl, hall⟩ := hrel
        by_cases h0 : k < n
        · obtain ⟨b, off, rfl, hb0, hc⟩ := hl2.cells (by omega)
          have cc := hc k h0
          clear hc hC
          obtain ⟨x, hx⟩ : ∃ x, l[k]?.getD 0 = x := ⟨_, rfl⟩
          rw [hx] at cc
          have HX := Lib.hid hx; clear hx
          by_cases hx1 : x < 0
          · go_wp2_with fail
            go_ret
            exact ⟨ret_bool (by rw [daysB_no (k := k) (by rw [le.out]; exact h0) (by simp [el, HX.out, inB]; omega)]; rfl), hB2⟩
          · by_cases hx2 : 11000 < x
            · go_wp2_with fail
              go_ret
              exact ⟨ret_bool (by rw [daysB_no (k := k) (by rw [le.out]; exact h0) (by simp [el, HX.out, inB]; omega)]; rfl), hB2⟩
            · go_wp2_with fail
              exact ⟨⟨k + 1, by omega, by go_num, by first | rfl | trivial, fun j hj => by
                rcases Nat.lt_or_ge j k with h | h
                · exact hall.out j h
                · obtain rfl : j = k := by omega
                  simp [el, HX.out, inB]; omega⟩, by simp [intOf]; omega⟩
        · obtain rfl : k = n := by omega
          go_wp2_with fail
          refine (cF_any _ _ _ hh2).mono ?_
          rintro e w3 ⟨rfl, hb⟩
          go_wp2_with fail
          go_ret
          exact ⟨ret_bool (by rw [daysB_of (fun j hj => hall.out j (by rw [← le.out]; exact hj))]; simp), bthen hB2 hb⟩
end Go.Proofs.YtpjnlcdmbkbfcaaDoor
