/- Contracts of hours, as the laws without a reference use them: a valid season, days and hours that are some. -/
import Derived.Test.YtpjnlcdmbkbfcaaDoorRx
namespace Go.Proofs.YtpjnlcdmbkbfcaaDoor
open Go.ChangeShapes Go.WideShapes Go.ChangeAt Go.RowKit Go.BigFrame

theorem ints_new (w : World) (x : Int) (T : TypeId) : Ints (w.alloc (.cells #[.int .i64 x] T)) (.slice (some ⟨w.heap.size, 0, none⟩) 1 1) [x] := by
  refine .inr ⟨w.heap.size, 0, 1, rfl, by simp, by simp, by simp, fun j hj => ?_⟩
  obtain rfl : j = 0 := by simp at hj; omega
  simp [go_sem]
theorem ints_new2 (w : World) (x y : Int) (T : TypeId) : Ints (w.alloc (.cells #[.int .i64 x, .int .i64 y] T)) (.slice (some ⟨w.heap.size, 0, none⟩) 2 2) [x, y] := by
  refine .inr ⟨w.heap.size, 0, 2, rfl, by simp, by simp, by simp, fun j hj => ?_⟩
  obtain rfl | rfl : j = 0 ∨ j = 1 := by simp at hj; omega
  all_goals simp [go_sem]
theorem hrs_new (w : World) (nt : Bool) (h p : Int) (T : TypeId) : Hrs (w.alloc (.cells #[.bool nt, .int .i64 h, .int .i64 p] T)) (.slice (some ⟨w.heap.size, 0, none⟩) 1 1) (okH h p) :=
  .inr ⟨_, nt, h, p, rfl, Box.new w _ T, rfl⟩
theorem rgt_t {S : Sea} {d : Int} {k : Bool} (h : rgt S [d] k = true) : vld S = true ∧ (0 ≤ d ∧ d ≤ 11000) ∧ k = true := by
  simp only [rgt, daysB, List.all_cons, List.all_nil, Bool.and_true, Bool.and_eq_true] at h
  exact ⟨h.1.1, inB_t h.1.2, h.2⟩
theorem rgt_t2 {S : Sea} {d d2 : Int} {k : Bool} (h : rgt S [d, d2] k = true) : vld S = true ∧ (0 ≤ d ∧ d ≤ 11000) ∧ (0 ≤ d2 ∧ d2 ≤ 11000) ∧ k = true := by
  simp only [rgt, daysB, List.all_cons, List.all_nil, Bool.and_true, Bool.and_eq_true] at h
  exact ⟨h.1.1, inB_t h.1.2.1, inB_t h.1.2.2, h.2⟩
theorem right_d (S : Sea) (vd vr vs : Value) (day : Int) (nt : Bool) (h p : Int) (r : Bool) (w : World) (hI : SeaIn w vd vr vs S) (hr : rgt S [day] (okH h p) = r) :
    Calls Tryd.prog 46 #[.agg #[.int .i64 S.L, vd, vr, vs], .slice (some ⟨w.heap.size, 0, none⟩) 1 1, .slice (some ⟨w.heap.size + 1, 0, none⟩) 1 1] ((w.alloc (.cells #[.int .i64 day] 3)).alloc (hrO nt h p)) fun e w' => e = .returned (.bool r) ∧ Below w.heap.size w w' := by
  rw [← hr]
  refine (right_any S vd vr vs _ _ [day] (okH h p) _ ((hI.alloc _).alloc _) ((ints_new w day _).alloc _) (by simp) ?_).mono ?_
  · have := hrs_new (w.alloc (.cells #[.int .i64 day] 3)) nt h p 37
    rw [World.size_alloc] at this
    exact this
  · rintro e w' ⟨rfl, hb⟩
    exact ⟨rfl, bafter (bafter hb)⟩
theorem right_2 (S : Sea) (vd vr vs : Value) (day day2 : Int) (nt : Bool) (h p : Int) (r : Bool) (w : World) (hI : SeaIn w vd vr vs S) (hr : rgt S [day, day2] (okH h p) = r) :
    Calls Tryd.prog 46 #[.agg #[.int .i64 S.L, vd, vr, vs], .slice (some ⟨w.heap.size, 0, none⟩) 2 2, .slice (some ⟨w.heap.size + 1, 0, none⟩) 1 1] ((w.alloc (.cells #[.int .i64 day, .int .i64 day2] 3)).alloc (hrO nt h p)) fun e w' => e = .returned (.bool r) ∧ Below w.heap.size w w' := by
  rw [← hr]
  refine (right_any S vd vr vs _ _ [day, day2] (okH h p) _ ((hI.alloc _).alloc _) ((ints_new2 w day day2 _).alloc _) (by simp) ?_).mono ?_
  · have := hrs_new (w.alloc (.cells #[.int .i64 day, .int .i64 day2] 3)) nt h p 37
    rw [World.size_alloc] at this
    exact this
  · rintro e w' ⟨rfl, hb⟩
    exact ⟨rfl, bafter (bafter hb)⟩
theorem right_d0 (S : Sea) (vd vr vs : Value) (day : Int) (r : Bool) (w : World) (hI : SeaIn w vd vr vs S) (hr : rgt S [day] true = r) :
    Calls Tryd.prog 46 #[.agg #[.int .i64 S.L, vd, vr, vs], .slice (some ⟨w.heap.size, 0, none⟩) 1 1, .slice none 0 0] (w.alloc (.cells #[.int .i64 day] 3)) fun e w' => e = .returned (.bool r) ∧ Below w.heap.size w w' := by
  rw [← hr]
  refine (right_any S vd vr vs _ _ [day] true _ (hI.alloc _) (ints_new w day _) (by simp) (.inl ⟨rfl, rfl⟩)).mono ?_
  rintro e w' ⟨rfl, hb⟩
  exact ⟨rfl, bafter hb⟩
theorem right_20 (S : Sea) (vd vr vs : Value) (day day2 : Int) (r : Bool) (w : World) (hI : SeaIn w vd vr vs S) (hr : rgt S [day, day2] true = r) :
    Calls Tryd.prog 46 #[.agg #[.int .i64 S.L, vd, vr, vs], .slice (some ⟨w.heap.size, 0, none⟩) 2 2, .slice none 0 0] (w.alloc (.cells #[.int .i64 day, .int .i64 day2] 3)) fun e w' => e = .returned (.bool r) ∧ Below w.heap.size w w' := by
  rw [← hr]
  refine (right_any S vd vr vs _ _ [day, day2] true _ (hI.alloc _) (ints_new2 w day day2 _) (by simp) (.inl ⟨rfl, rfl⟩)).mono ?_
  rintro e w' ⟨rfl, hb⟩
  exact ⟨rfl, bafter hb⟩

theorem aok {day h p : Int} (h1 : 0 ≤ day) (h2 : day ≤ 11000) (hk : okH h p = true) : (inB day 0 11000 && okH h p) = true := by rw [hk, inB_mk h1 h2]; rfl
theorem Rise_ok (S : Sea) (vd vr vs : Value) (day x : Int) (w : World) (hI : SeaIn w vd vr vs S) (hv : vld S = true) (h1 : 0 ≤ day) (h2 : day ≤ 11000) (hx : lnR S day = x) :
    Calls Tryd.prog 20 #[.agg #[.int .i64 S.L, vd, vr, vs], .int .i64 day] w fun e w' => e = .returned (.tuple #[.int .i64 x, .int .i64 0]) ∧ Below w.heap.size w w' := by
  have := Rise_any S vd vr vs day w hI
  rw [gd_ok _ hv (inB_mk h1 h2), askE_ok hv (inB_mk h1 h2), hx] at this
  exact this
theorem Set_ok (S : Sea) (vd vr vs : Value) (day x : Int) (w : World) (hI : SeaIn w vd vr vs S) (hv : vld S = true) (h1 : 0 ≤ day) (h2 : day ≤ 11000) (hx : lnS S day = x) :
    Calls Tryd.prog 22 #[.agg #[.int .i64 S.L, vd, vr, vs], .int .i64 day] w fun e w' => e = .returned (.tuple #[.int .i64 x, .int .i64 0]) ∧ Below w.heap.size w w' := by
  have := Set_any S vd vr vs day w hI
  rw [gd_ok _ hv (inB_mk h1 h2), askE_ok hv (inB_mk h1 h2), hx] at this
  exact this
theorem Length_ok (S : Sea) (vd vr vs : Value) (day : Int) (nt : Bool) (x y : Int) (w : World) (hI : SeaIn w vd vr vs S) (hv : vld S = true) (h1 : 0 ≤ day) (h2 : day ≤ 11000) (hx : low1 (las S day nt) 12 = x) (hy : low2 (las S day nt) 12 = y) :
    Calls Tryd.prog 24 #[.agg #[.int .i64 S.L, vd, vr, vs], .int .i64 day, .bool nt] w fun e w' => e = .returned (.tuple #[.agg #[.int .i64 x, .int .i64 y], .int .i64 0]) ∧ Below w.heap.size w w' := by
  have := Length_any S vd vr vs day nt w hI
  rw [gd_ok _ hv (inB_mk h1 h2), gd_ok _ hv (inB_mk h1 h2), askE_ok hv (inB_mk h1 h2), hx, hy] at this
  exact this
theorem First_ok (S : Sea) (vd vr vs : Value) (day : Int) (nt : Bool) (h p x : Int) (w : World) (hI : SeaIn w vd vr vs S) (hv : vld S = true) (h1 : 0 ≤ day) (h2 : day ≤ 11000) (hk : okH h p = true) (hx : fst S day nt h p = x) :
    Calls Tryd.prog 47 #[.agg #[.int .i64 S.L, vd, vr, vs], .int .i64 day, .agg #[.bool nt, .int .i64 h, .int .i64 p]] w fun e w' => e = .returned (.tuple #[.int .i64 x, .int .i64 0]) ∧ Below w.heap.size w w' := by
  have := First_any S vd vr vs day nt h p w hI
  rw [gd_ok _ hv (aok h1 h2 hk), askE_ok hv (aok h1 h2 hk), hx] at this
  exact this
theorem Told_ok (S : Sea) (vd vr vs : Value) (m d : Int) (nt : Bool) (h p : Int) (w : World) (hI : SeaIn w vd vr vs S) (hv : vld S = true) (h1 : 0 ≤ m) (h2 : m ≤ 15840000) (hd : 0 ≤ d) (e1 : tD S m = d) (e2 : tN S m = nt) (e3 : tP S m / 60 = h) (e4 : tP S m % 60 = p) :
    Calls Tryd.prog 48 #[.agg #[.int .i64 S.L, vd, vr, vs], .int .i64 m] w fun e w' => e = .returned (.tuple #[.int .i64 d, .agg #[.bool nt, .int .i64 h, .int .i64 p], .int .i64 0]) ∧ Below w.heap.size w w' := by
  refine (Told_any S vd vr vs m w hI).mono ?_
  rintro e w' ⟨rfl, hb⟩
  refine ⟨?_, hb⟩
  rw [show tlE S m = 0 by simp [tlE, hv, inB_mk h1 h2, e1]; omega, show tlG S m = true by simp [tlG, hv, inB_mk h1 h2, e1]; omega, e1, e2, e3, e4]
  rfl
theorem Told_no (S : Sea) (vd vr vs : Value) (m : Int) (w : World) (hI : SeaIn w vd vr vs S) (hv : vld S = true) (h1 : 0 ≤ m) (h2 : m ≤ 15840000) (hd : tD S m < 0) :
    Calls Tryd.prog 48 #[.agg #[.int .i64 S.L, vd, vr, vs], .int .i64 m] w fun e w' => e = .returned (.tuple #[.int .i64 0, .agg #[.bool false, .int .i64 0, .int .i64 0], .int .i64 4]) ∧ Below w.heap.size w w' := by
  refine (Told_any S vd vr vs m w hI).mono ?_
  rintro e w' ⟨rfl, hb⟩
  refine ⟨?_, hb⟩
  rw [show tlE S m = 4 by simp [tlE, hv, inB_mk h1 h2, hd], show tlG S m = false by simp [tlG, hv, inB_mk h1 h2]; omega]
  rfl
theorem Later_ok (S : Sea) (vd vr vs : Value) (day : Int) (nt : Bool) (h p n : Int) (d2 : Int) (nt2 : Bool) (h2 p2 : Int) (w : World) (hI : SeaIn w vd vr vs S) (hv : vld S = true) (k1 : 0 ≤ day) (k2 : day ≤ 11000) (hk : okH h p = true)
    (n1 : -300000 ≤ n) (n2 : n ≤ 300000) (q1 : 0 ≤ d2) (q2 : d2 ≤ 11000) (hk2 : okH h2 p2 = true) (he : ordr d2 nt2 h2 p2 = ordr day nt h p + 60 * n) :
    Calls Tryd.prog 28 #[.agg #[.int .i64 S.L, vd, vr, vs], .int .i64 day, .agg #[.bool nt, .int .i64 h, .int .i64 p], .int .i64 n] w fun e w' => e = .returned (.tuple #[.int .i64 d2, .agg #[.bool nt2, .int .i64 h2, .int .i64 p2], .int .i64 0]) ∧ Below w.heap.size w w' := by
  obtain ⟨e1, e2, _, e4, e5⟩ := ordr_parts d2 nt2 hk2
  refine (Later_any S vd vr vs day nt h p n w hI).mono ?_
  rintro e w' ⟨rfl, hb⟩
  refine ⟨?_, hb⟩
  rw [ltN, ← he, e1, e2, e4, e5, show ltG S (inB day 0 11000 && okH h p) (inB n (-300000) 300000) (inB d2 0 11000) = true by simp [ltG, hv, aok k1 k2 hk, inB_mk n1 n2, inB_mk q1 q2],
    show ltE S (inB day 0 11000 && okH h p) (inB n (-300000) 300000) (inB d2 0 11000) = 0 by simp [ltE, askE_ok hv (aok k1 k2 hk), inB_mk n1 n2, inB_mk q1 q2]]
  rfl
theorem Later_no (S : Sea) (vd vr vs : Value) (day : Int) (nt : Bool) (h p n : Int) (w : World) (hI : SeaIn w vd vr vs S) (hv : vld S = true) (k1 : 0 ≤ day) (k2 : day ≤ 11000) (hk : okH h p = true)
    (n1 : -300000 ≤ n) (n2 : n ≤ 300000) (hn : inB (ltN day nt h p n / 1440) 0 11000 = false) :
    Calls Tryd.prog 28 #[.agg #[.int .i64 S.L, vd, vr, vs], .int .i64 day, .agg #[.bool nt, .int .i64 h, .int .i64 p], .int .i64 n] w fun e w' => e = .returned (.tuple #[.int .i64 0, .agg #[.bool false, .int .i64 0, .int .i64 0], .int .i64 4]) ∧ Below w.heap.size w w' := by
  refine (Later_any S vd vr vs day nt h p n w hI).mono ?_
  rintro e w' ⟨rfl, hb⟩
  refine ⟨?_, hb⟩
  rw [hn, show ltG S (inB day 0 11000 && okH h p) (inB n (-300000) 300000) false = false by simp [ltG],
    show ltE S (inB day 0 11000 && okH h p) (inB n (-300000) 300000) false = 4 by simp [ltE, askE_ok hv (aok k1 k2 hk), inB_mk n1 n2]]
  rfl
theorem Passed_ok (S : Sea) (vd vr vs : Value) (day : Int) (nt : Bool) (h p : Int) (day2 : Int) (nt2 : Bool) (h2 p2 x : Int) (w : World) (hI : SeaIn w vd vr vs S) (hv : vld S = true) (k1 : 0 ≤ day) (k2 : day ≤ 11000) (hk : okH h p = true)
    (j1 : 0 ≤ day2) (j2 : day2 ≤ 11000) (hk2 : okH h2 p2 = true) (hx : mom S day2 nt2 h2 p2 - mom S day nt h p = x) (hx0 : 0 ≤ x) :
    Calls Tryd.prog 30 #[.agg #[.int .i64 S.L, vd, vr, vs], .int .i64 day, .agg #[.bool nt, .int .i64 h, .int .i64 p], .int .i64 day2, .agg #[.bool nt2, .int .i64 h2, .int .i64 p2]] w fun e w' => e = .returned (.tuple #[.agg #[.int .i64 (x / 720), .int .i64 ((x + 719) / 720)], .int .i64 0]) ∧ Below w.heap.size w w' := by
  have := Passed_any S vd vr vs day nt h p day2 nt2 h2 p2 w hI
  rw [hx, aok k1 k2 hk, aok j1 j2 hk2, show pasG S true true x = true by simp [pasG, hv]; omega, show pasE S true true x = 0 by simp [pasE, askE_ok hv rfl]; omega] at this
  exact this
end Go.Proofs.YtpjnlcdmbkbfcaaDoor
