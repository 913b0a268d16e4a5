/- Walks of Months and Feast: loops over days. -/
import Derived.Test.YtpjnlcdmbkbfcaaDoorC4
namespace Go.Proofs.YtpjnlcdmbkbfcaaDoor
open Go.ChangeShapes Go.WideShapes Go.ChangeAt Go.RowKit Go.BigFrame Go.Shelf
attribute [local go_sem] Oper.semAt_some

/-- How many of the days that have come have f. -/
def cntL (f : Int → Bool) (a : Int) (N : Nat) (pre : List Nat) : Int := pre.foldl (fun n j => n + (if f (dy a N j) then 1 else 0)) 0
theorem cntL_snoc (f : Int → Bool) (a : Int) (N : Nat) (pre : List Nat) (j : Nat) : cntL f a N (pre ++ [j]) = cntL f a N pre + (if f (dy a N j) then 1 else 0) := by unfold cntL; rw [List.foldl_append]; rfl
theorem cntL_range (f : Int → Bool) (a : Int) (N : Nat) : ∀ k, k ≤ N → cntL f a N (List.range k) = cnt f a k := by
  intro k
  induction k with
  | zero => intro _; rfl
  | succ k ih =>
    intro h
    rw [List.range_succ, cntL_snoc, ih (by omega), dy_lt (by omega)]
    rfl
theorem fold_bd (f : Nat → Int) (h : ∀ j, 0 ≤ f j ∧ f j ≤ 1) (pre : List Nat) : ∀ l : Int, l ≤ pre.foldl (fun n j => n + f j) l ∧ pre.foldl (fun n j => n + f j) l ≤ l + pre.length := by
  induction pre with
  | nil => intro l; simp
  | cons j pre ih =>
    intro l
    have := h j
    have := ih (l + f j)
    simp only [List.foldl_cons, List.length_cons]
    omega
theorem cntL_bd (f : Int → Bool) (a : Int) (N : Nat) (pre : List Nat) : 0 ≤ cntL f a N pre ∧ cntL f a N pre ≤ pre.length := by
  have := fold_bd (fun j => if f (dy a N j) then 1 else 0) (fun j => by split <;> omega) pre 0
  unfold cntL
  omega

set_option maxHeartbeats 1000000 in
theorem Months_any (year : Int) (w : World) : Calls Tryd.prog 44 #[.int .i64 year] w fun e w' => e = .returned (.tuple #[.int .i64 (moV year), .int .i64 (moE year)]) ∧ Below w.heap.size w w' := by
  rcases bool_ft (inB year 1 9000) with hy | hy
  · have hf := inB_f hy
    have HV := Lib.hid (show moV year = 0 by unfold moV; rw [if_neg (by omega)])
    have HE := Lib.hid (show moE year = 1 by unfold moE; rw [if_neg (by omega)])
    go_enter Tryd.func44, Tryd.ntmps44
    go_wp2_with fail
    refine (within_c year 1 9000 _ _ hy).mono ?_
    rintro e w2 ⟨rfl, rfl⟩
    go_wp2_with fail
    go_ret2
    exact ⟨ret_two HV.out.symm HE.out.symm, (by repeat (first | exact Below.refl _ _ | assumption | refine bthen ?_ (by assumption) | refine Below.alloc ?_ (by first | exact Nat.le_refl _ | (simp; done) | (simp; omega) | omega) _ | refine Below.setCell ?_ (by first | exact Nat.le_refl _ | (simp; done) | (simp; omega) | omega) _ | refine below_drewN ?_ _ | refine Below.drew ?_))⟩
  · obtain ⟨y1, y2⟩ := inB_t hy
    have HV := Lib.hid (show moV year = cnt (bgn true) (sta false year) (moK year) by unfold moV; rw [if_pos (by omega)])
    have HE := Lib.hid (show moE year = 0 by unfold moE; rw [if_pos (by omega)])
    have s0 := sta_bd false y1
    have s1 := sta_step false year
    have s3 := sta_bd false (y := year + 1) (by omega)
    have s2 := lpy_bd false year y1
    have hcom : com false = 365 := rfl
    rw [hcom] at s1
    have hN : (sta false (year + 1) - 1 + 1 - sta false year).toNat = moK year := by unfold moK; congr 1; omega
    have hN0 : (moK year : Int) ≤ 366 := by unfold moK; omega
    refine (callsIn_wide (n := 5)).1 ?_
    refine callsIn_of_wp_marks Tryd.func44 rfl trivial ?_ rfl
    simp only [Tryd.ntmps44, List.size_toArray, List.length_cons, List.length_nil, Nat.reduceAdd, Nat.reduceSub, Array.replicate_succ, Array.replicate_zero, List.push_toArray, List.append_toArray, List.nil_append, List.cons_append]
    gi_wp2_with fail
    refine ⟨trivial, callsIn_wide.2 ((within_c year 1 9000 _ _ hy).mono ?_)⟩
    rintro e w1 ⟨rfl, rfl⟩
    gi_wp2_with fail
    refine ⟨trivial, callsIn_wide.2 ((start_c year _ (by omega) (by omega)).mono ?_)⟩
    rintro e w1 ⟨rfl, hb1⟩
    gi_wp2_with fail
    refine ⟨trivial, callsIn_wide.2 ((start_c (year + 1) _ (by omega) (by omega)).mono ?_)⟩
    rintro e w2 ⟨rfl, hb2⟩
    replace hb2 := bthen hb1 hb2
    have hH : Held w2 w.heap.size (.int .i64 0) := Held.below ⟨by simp [go_sem], by simp [go_sem]⟩ hb2 (by simp)
    have hz := hH.lt
    generalize hgA : sta false year = A at *
    generalize hgZ : sta false (year + 1) = Z at *
    clear s1
    gi_wp2_with fail
    refine ⟨trivial, callsIn_wide.2 ((days_any _ _ _).mono ?_)⟩
    rintro e w3 ⟨rfl, rfl⟩
    gi_wp2_with fail
    generalize hK : moK year = N at *
    refine wpIn_days w2.heap.size (w2.heap.size + 1) A (Z - 1) N (q := 5) (by simp [Act.eval]) (by omega) (by omega) (by omega) hN (by simp; omega) (by simp) (by simp [go_sem]) (by simp [go_sem])
      (fun pre W => (Held W w.heap.size (.int .i64 (cntL (bgn true) A N pre)) ∧ Held W (w2.heap.size + 1) (.int .i64 (Z - 1))) ∧ Below w.heap.size w W)
      (fun _ _ _ => False)
      (OwnFrom.and (OwnFrom.and (held_own _ _ (fun pre => .int .i64 (cntL (bgn true) A N pre))) (held_own _ _ (fun _ => .int .i64 (Z - 1)))) (ownFrom_below (Nat.le_refl _) (by simp; omega)))
      (fun _ _ _ _ _ hs _ _ => hs) ⟨⟨(hH.below (ballo _ _) hH.lt).below (ballo _ _) (by simp; omega), ⟨by simp [go_sem], by simp [go_sem]⟩⟩, (((bthen (ballo w _) hb2).alloc (by omega) _).alloc (by simp; omega) _)⟩ ?assign ?body ?done ?stop
    case assign =>
      intro l j W K hK
      simp only [List.setIfInBounds_toArray, List.set_cons_succ, List.set_cons_zero] at hK ⊢
      gi_wp2
      exact hK
    case body =>
      rintro l pre j W ⟨⟨hA, hT⟩, hB⟩ hlen
      simp only [List.setIfInBounds_toArray, List.set_cons_succ, List.set_cons_zero]
      have bd := cntL_bd (bgn true) A N pre
      have SA := Lib.hid (cntL_snoc (bgn true) A N pre j)
      generalize cntL (bgn true) A N pre = c at *
      generalize dy A N j = D at *
      rcases bool_ft (bgn true D) with hb | hb
      · gi_wp2_with fail
        refine ⟨trivial, CallsIn.inRound l (callsIn_wide.2 ((begins_m D _).mono ?_))⟩
        rintro e wm ⟨rfl, hbm⟩
        rw [hb]
        gi_wp2_with fail
        exact ⟨others_of_below hbm, Kpb.below hbm hT.lt, ⟨by rw [SA.out, hb]; simpa using hA.below hbm hA.lt, hT.below hbm hT.lt⟩, hB.trans (hbm.mono hB.size)⟩
      · gi_wp2_with fail
        refine ⟨trivial, CallsIn.inRound l (callsIn_wide.2 ((begins_m D _).mono ?_))⟩
        rintro e wm ⟨rfl, hbm⟩
        rw [hb]
        have hAm := hA.below hbm hA.lt
        have hA1 := hAm.1
        have hA2 := hAm.2
        gi_wp2_with fail
        exact ⟨(others_of_below hbm).trans (KeepsOthers.setCell _ _ _), (Kpb.below hbm hT.lt).setCell (by dsimp only; omega) _, ⟨by rw [SA.out, hb]; exact hAm.set _, (hT.below hbm hT.lt).other (by dsimp only; omega) _⟩, (hB.trans (hbm.mono hB.size)).setCell (Nat.le_refl _) _⟩
    case done =>
      rintro D W hD ⟨⟨hA, hT⟩, hB⟩ hK
      rw [cntL_range _ _ _ _ (Nat.le_refl _)] at hA
      have hA1 := hA.1
      gi_wp2_with fail
      refine ⟨by simp, .inl ⟨_, _, rfl, run_takeDeferred hK, ?_⟩⟩
      refine ⟨.tuple #[.int .i64 (cnt (bgn true) A N), .int .i64 0], by simp [results, Tryd.results44, go_sem], ret_two (by rw [HV.out]) HE.out.symm, ?_⟩
      exact hB.trans (belowK_b (w := w) (Nat.le_refl _) W D _ _ (by simp at hD; omega) hK rfl rfl)
    case stop =>
      rintro D c k W _ _ h _
      exact h.elim

theorem cell_putObj {w : World} {D b : Nat} {o : Obj} (h : ¬ b = D) (off : Nat) : (w.putObj D o).cell? ⟨b, off, none⟩ = w.cell? ⟨b, off, none⟩ := by
  simp only [World.cell?, World.putObj_heap_other h]
/-- What Feast's loop knows behind some rounds, and where it has left. -/
def noL (a : Int) (N : Nat) (pre : List Nat) : Prop := ∀ j, j ∈ pre → both (dy a N j) = false
def laL (a : Int) (N : Nat) (pre : List Nat) : Int := dy a N (pre.getLast?.getD 0)
theorem laL_snoc (a : Int) (N : Nat) (pre : List Nat) (j : Nat) : laL a N (pre ++ [j]) = dy a N j := by simp [laL]
theorem noL_snoc {a : Int} {N : Nat} {pre : List Nat} {j : Nat} (h : noL a N pre) (hj : both (dy a N j) = false) : noL a N (pre ++ [j]) := by
  intro i hi
  rcases List.mem_append.1 hi with h1 | h1
  · exact h i h1
  · simp at h1; subst h1; exact hj
theorem noL_all {a : Int} {N : Nat} (h : noL a N (List.range N)) {k : Nat} (hk : k ≤ N) : ∀ i, a ≤ i → i < a + k → both i = false := by
  intro i h1 h2
  have := h (i - a).toNat (List.mem_range.2 (by omega))
  rw [dy_lt (by omega), show a + ((i - a).toNat : Int) = i by omega] at this
  exact this
theorem fea_at {day n : Int} (h1 : day ≤ n) (h2 : n ≤ 3500000) (h3 : both n = true) (h4 : ∀ i, day ≤ i → i < n → both i = false) : fea day = some n := by
  unfold fea
  exact fnd_at h1 (by omega) h3 h4
theorem fea_no {day : Int} (h4 : ∀ i, day ≤ i → i ≤ 3500000 → both i = false) : fea day = none := by
  unfold fea
  exact fnd_none (fun i h1 h2 => h4 i h1 (by omega))

set_option maxHeartbeats 1000000 in
theorem Feast_any (day : Int) (w : World) : Calls Tryd.prog 42 #[.int .i64 day] w fun e w' => e = .returned (.tuple #[.int .i64 (feaV day), .int .i64 (feaE 4 day)]) ∧ Below w.heap.size w w' := by
  rcases bool_ft (inB day 0 3000000) with hy | hy
  · have hf := inB_f hy
    have HV := Lib.hid (show feaV day = 0 by unfold feaV; rw [if_neg (by omega)])
    have HE := Lib.hid (show feaE 4 day = 1 by unfold feaE; rw [if_neg (by omega)])
    go_enter Tryd.func42, Tryd.ntmps42
    go_wp2_with fail
    refine (within_c day 0 3000000 _ _ hy).mono ?_
    rintro e w2 ⟨rfl, rfl⟩
    go_wp2_with fail
    refine bodyPost_ret (v := .tuple #[.int .i64 0, .int .i64 1]) (by simp [results, Tryd.results42, go_sem]) rfl ⟨ret_two HV.out.symm HE.out.symm, ?_⟩
    exact (by repeat (first | exact Below.refl _ _ | assumption | refine bthen ?_ (by assumption) | refine Below.alloc ?_ (by first | exact Nat.le_refl _ | (simp; done) | (simp; omega) | omega) _ | refine Below.setCell ?_ (by first | exact Nat.le_refl _ | (simp; done) | (simp; omega) | omega) _ | refine below_drewN ?_ _ | refine Below.drew ?_))
  · obtain ⟨y1, y2⟩ := inB_t hy
    have HV := Lib.hid (show feaV day = (fea day).getD 0 by unfold feaV; rw [if_pos (by omega)])
    have HE := Lib.hid (show feaE 4 day = if (fea day).isSome then 0 else 4 by unfold feaE; rw [if_pos (by omega)])
    obtain ⟨N, hN⟩ : ∃ N, (3500000 + 1 - day).toNat = N := ⟨_, rfl⟩
    refine (callsIn_wide (n := 5)).1 ?_
    refine callsIn_of_wp_marks Tryd.func42 rfl trivial ?_ rfl
    simp only [Tryd.ntmps42, List.size_toArray, List.length_cons, List.length_nil, Nat.reduceAdd, Nat.reduceSub, Array.replicate_succ, Array.replicate_zero, List.push_toArray, List.append_toArray, List.nil_append, List.cons_append]
    gi_wp2_with fail
    refine ⟨trivial, callsIn_wide.2 ((within_c day 0 3000000 _ _ hy).mono ?_)⟩
    rintro e w1 ⟨rfl, rfl⟩
    gi_wp2_with fail
    refine ⟨trivial, callsIn_wide.2 ((days_any _ _ _).mono ?_)⟩
    rintro e w3 ⟨rfl, rfl⟩
    gi_wp2_with fail
    refine wpIn_days (w.heap.size + 1 + 1) (w.heap.size + 1 + 1 + 1) day 3500000 N (q := 4) (by simp [Act.eval]) (by omega) (by omega) (by omega) hN (by simp) (by simp) (by simp [go_sem]) (by simp [go_sem])
      (fun pre W => (noL day N pre ∧ Held W w.heap.size (.int .i64 0) ∧ Held W (w.heap.size + 1) (.int .i64 0) ∧ Held W (w.heap.size + 1 + 1 + 1) (.int .i64 3500000)) ∧ Below w.heap.size w W)
      (fun c pre W => ((c = .ret ∧ noL day N pre.dropLast ∧ both (laL day N pre) = true) ∧ Held W w.heap.size (.int .i64 (laL day N pre)) ∧ Held W (w.heap.size + 1) (.int .i64 0)) ∧ Below w.heap.size w W)
      (OwnFrom.and (OwnFrom.and (ownFrom_pure _ _) (OwnFrom.and (held_own _ _ (fun _ => .int .i64 0)) (OwnFrom.and (held_own _ _ (fun _ => .int .i64 0)) (held_own _ _ (fun _ => .int .i64 3500000))))) (ownFrom_below (Nat.le_refl _) (by simp; omega)))
      (fun c => OwnFrom.and (OwnFrom.and (ownFrom_pure _ _) (OwnFrom.and (held_own _ _ (fun pre => .int .i64 (laL day N pre))) (held_own _ _ (fun _ => .int .i64 0)))) (ownFrom_below (Nat.le_refl _) (by simp; omega)))
      ⟨⟨fun j hj => (by cases hj), ⟨by simp [go_sem], by simp [go_sem]⟩, ⟨by simp [go_sem], by simp [go_sem]⟩, ⟨by simp [go_sem], by simp [go_sem]⟩⟩, (by repeat (first | exact Below.refl _ _ | assumption | refine bthen ?_ (by assumption) | refine Below.alloc ?_ (by first | exact Nat.le_refl _ | (simp; done) | (simp; omega) | omega) _ | refine Below.setCell ?_ (by first | exact Nat.le_refl _ | (simp; done) | (simp; omega) | omega) _ | refine below_drewN ?_ _ | refine Below.drew ?_))⟩ ?assign ?body ?done ?stop
    case assign =>
      intro l j W K hK
      simp only [List.setIfInBounds_toArray, List.set_cons_succ, List.set_cons_zero] at hK ⊢
      gi_wp2
      exact hK
    case body =>
      rintro l pre j W ⟨⟨hno, hA, hE0, hT⟩, hB⟩ hlen
      simp only [List.setIfInBounds_toArray, List.set_cons_succ, List.set_cons_zero]
      have LS := Lib.hid (laL_snoc day N pre j)
      have NS := Lib.hid (fun hj => noL_snoc (j := j) hno hj)
      have DL : (pre ++ [j]).dropLast = pre := by simp
      generalize dy day N j = D at *
      rcases bool_ft (bgn false D) with hb | hb
      · have HNO := NS.out (by unfold both; rw [hb]; rfl)
        gi_wp2_with fail
        refine ⟨trivial, CallsIn.inRound l (callsIn_wide.2 ((begins_c D _).mono ?_))⟩
        rintro e wm ⟨rfl, hbm⟩
        rw [hb]
        gi_wp2_with fail
        refine ⟨trivial, ?_⟩
        gi_wp2_with fail
        exact ⟨others_of_below hbm, Kpb.below hbm hT.lt, ⟨HNO, hA.below hbm hA.lt, hE0.below hbm hE0.lt, hT.below hbm hT.lt⟩, hB.trans (hbm.mono hB.size)⟩
      · rcases bool_ft (bgn true D) with hb2 | hb2
        · have HNO := NS.out (by unfold both; rw [hb, hb2]; rfl)
          gi_wp2_with fail
          refine ⟨trivial, CallsIn.inRound l (callsIn_wide.2 ((begins_c D _).mono ?_))⟩
          rintro e wm ⟨rfl, hbm⟩
          rw [hb]
          gi_wp2_with fail
          refine ⟨trivial, CallsIn.inRound l (callsIn_wide.2 ((begins_m D _).mono ?_))⟩
          rintro e wn ⟨rfl, hbn⟩
          rw [hb2]
          replace hbm := bthen hbm hbn
          gi_wp2_with fail
          exact ⟨others_of_below hbm, Kpb.below hbm hT.lt, ⟨HNO, hA.below hbm hA.lt, hE0.below hbm hE0.lt, hT.below hbm hT.lt⟩, hB.trans (hbm.mono hB.size)⟩
        · have HYES : both D = true := by unfold both; rw [hb, hb2]; rfl
          gi_wp2_with fail
          refine ⟨trivial, CallsIn.inRound l (callsIn_wide.2 ((begins_c D _).mono ?_))⟩
          rintro e wm ⟨rfl, hbm⟩
          rw [hb]
          gi_wp2_with fail
          refine ⟨trivial, CallsIn.inRound l (callsIn_wide.2 ((begins_m D _).mono ?_))⟩
          rintro e wn ⟨rfl, hbn⟩
          rw [hb2]
          replace hbm := bthen hbm hbn
          have hAm := hA.below hbm hA.lt
          have hEm := hE0.below hbm hE0.lt
          have hA1 := hAm.1
          have hA2 := hAm.2
          have hE1 := hEm.1
          have hE2 := hEm.2
          gi_wp2_with fail
          refine ⟨((others_of_below hbm).trans (KeepsOthers.setCell _ _ _)).trans (KeepsOthers.setCell _ _ _), ⟨⟨rfl, by rw [DL]; exact hno, by rw [LS.out]; exact HYES⟩, by rw [LS.out]; exact (hAm.set _).other (by simp) _, (hEm.other (by simp) _).set _⟩, ((hB.trans (hbm.mono hB.size)).setCell (by simp) _).setCell (by simp) _⟩
    case done =>
      rintro D W hD ⟨⟨hno, hA, hE0, hT⟩, hB⟩ hK
      have hfe := fea_no (day := day) (fun i h1 h2 => noL_all hno (k := N) (Nat.le_refl _) i h1 (by omega))
      rw [hfe] at HV HE
      have hA1 := hA.1
      have hA2 := hA.2
      have hE1 := hE0.1
      have hE2 := hE0.2
      gi_wp2_with fail
      have hD1 : ¬ w.heap.size = D := by simp at hD; omega
      have hD2 : ¬ w.heap.size + 1 = D := by simp at hD; omega
      have hK' : ((W.setCell ⟨w.heap.size, 0, none⟩ (.int .i64 0)).setCell ⟨w.heap.size + 1, 0, none⟩ (.int .i64 4)).heap[D]? = some (.deferred (some [])) :=
        (Below.heap_setCell _ _ _ _ (Ne.symm hD2)).trans ((Below.heap_setCell _ _ _ _ (Ne.symm hD1)).trans hK)
      refine ⟨by simp, .inl ⟨_, _, rfl, run_takeDeferred hK', ?_⟩⟩
      refine ⟨.tuple #[.int .i64 0, .int .i64 4], ?_, ret_two (by rw [HV.out]; rfl) (by rw [HE.out]; rfl), ?_⟩
      · have p1 : (((W.setCell ⟨w.heap.size, 0, none⟩ (.int .i64 0)).setCell ⟨w.heap.size + 1, 0, none⟩ (.int .i64 4)).putObj D (Obj.deferred none)).cell? ⟨w.heap.size, 0, none⟩ = some (.int .i64 0) :=
          (cell_putObj hD1 0).trans ((hA.set (.int .i64 0)).other (by simp) _).1
        have p2 : (((W.setCell ⟨w.heap.size, 0, none⟩ (.int .i64 0)).setCell ⟨w.heap.size + 1, 0, none⟩ (.int .i64 4)).putObj D (Obj.deferred none)).cell? ⟨w.heap.size + 1, 0, none⟩ = some (.int .i64 4) :=
          (cell_putObj hD2 0).trans ((hE0.other (by simp) _).set _).1
        generalize ((W.setCell ⟨w.heap.size, 0, none⟩ (.int .i64 0)).setCell ⟨w.heap.size + 1, 0, none⟩ (.int .i64 4)).putObj D (Obj.deferred none) = Wx at *
        simp [results, Tryd.results42, go_sem, p1, p2]
      · exact ((hB.setCell (Nat.le_refl _) _).setCell (by simp) _).trans (belowK_b (w := w) (Nat.le_refl _) _ D _ _ (by simp at hD; omega) hK' rfl rfl)
    case stop =>
      rintro D c k W hD hk ⟨⟨⟨rfl, hno, hbo⟩, hA, hE0⟩, hB⟩ hK
      rw [List.range_succ] at hno hbo hA
      rw [laL_snoc, dy_lt hk] at hbo hA
      rw [List.dropLast_concat] at hno
      have hfe := fea_at (day := day) (n := day + k) (by omega) (by omega) hbo (fun i h1 h2 => by
        have := hno (i - day).toNat (List.mem_range.2 (by omega))
        rw [dy_lt (by omega), show day + ((i - day).toNat : Int) = i by omega] at this
        exact this)
      rw [hfe] at HV HE
      have hA1 := hA.1
      have hE1 := hE0.1
      gi_wp2_with fail
      refine ⟨by simp, .inl ⟨_, _, rfl, run_takeDeferred hK, ?_⟩⟩
      refine ⟨.tuple #[.int .i64 (day + k), .int .i64 0], ?_, ret_two (by rw [HV.out]; rfl) (by rw [HE.out]; rfl), ?_⟩
      · have hD1 : ¬ w.heap.size = D := by simp at hD; omega
        have hD2 : ¬ w.heap.size + 1 = D := by simp at hD; omega
        have p1 := (cell_putObj (w := W) (o := Obj.deferred none) hD1 0).trans hA.1
        have p2 := (cell_putObj (w := W) (o := Obj.deferred none) hD2 0).trans hE0.1
        generalize W.putObj D (Obj.deferred none) = Wx at *
        simp [results, Tryd.results42, go_sem, p1, p2]
      · exact hB.trans (belowK_b (w := w) (Nat.le_refl _) W D _ _ (by simp at hD; omega) hK rfl rfl)
end Go.Proofs.YtpjnlcdmbkbfcaaDoor
