/- How further arguments of the laws read: ratios, readings, lists, truths (Wear). -/
import Derived.Test.YtnfndiafabhhdaaGreatF3
namespace Go.Proofs.YtnfndiafabhhdaaGreat
open Go.ChangeShapes Go.WideShapes Go.ChangeAt Go.RowKit Go.Deep
abbrev I64 (a : Int) : Prop := -9223372036854775808 ≤ a ∧ a ≤ 9223372036854775807
section
variable {H : Type} {enc : TypeId × Value → H} {W : World}
set_option maxRecDepth 200000 in
theorem two_open_bd {t : TypeId} {f0 f1 : Field} {n base : Nat} {sp : Nat → Bool} {hd : Bool} {cs : List Value} {x : DataW H × List MemPlace} (hs : Tryz.prog.underlying t = some (.struct #[f0, f1])) (hone : oneCellFields Tryz.prog #[f0, f1] = true) (hC : Tryz.prog.cellsOf t = 2)
    (t0 : Tryz.prog.underlying f0.type = some (.int .i64)) (t1 : Tryz.prog.underlying f1.type = some (.int .i64)) (h : DataW.trod enc Tryz.prog W base sp hd n t cs = some x) : ∃ a b, cs = [.int .i64 a, .int .i64 b] ∧ I64 a ∧ I64 b := by
  obtain ⟨y0, y1, m, _, hl, h0, h1⟩ := trod_struct2 hs h
  obtain ⟨o0, k0⟩ := hone_of hone 0 f0 rfl
  obtain ⟨o1, k1⟩ := hone_of hone 1 f1 rfl
  rw [hC] at hl
  obtain ⟨c0, c1, rfl⟩ := list2 hl
  · simp [o0, k0] at h0
    simp [o1, k1] at h1
    obtain ⟨a, ha, _, wa⟩ := DataW.trod_int t0 h0
    obtain ⟨b, hb, _, wb⟩ := DataW.trod_int t1 h1
    simp at ha hb
    exact ⟨a, b, by rw [ha, hb], wf_bd wa, wf_bd wb⟩
set_option maxRecDepth 200000 in
theorem ratio_open {base : Nat} {v : Value} {d : DataW H} {p : List MemPlace} (hv : Value.okWide Tryz.prog W .any base 41 v) (h : DataW.Trod enc Tryz.prog W 0 (fun _ => true) true 41 v d p) :
    ∃ a b, v = .agg #[.int .i64 a, .int .i64 b] ∧ I64 a ∧ I64 b := by
  obtain ⟨cs, rfl, hsz⟩ := okWide_struct Tryz.underlying41 hv
  obtain ⟨l⟩ := cs
  obtain ⟨fuel, hf⟩ := h
  obtain ⟨a, b, e, w1, w2⟩ := two_open_bd Tryz.underlying41 (by kernel_rfl) (by kernel_rfl) Tryz.underlying3 Tryz.underlying3 (show DataW.trod enc Tryz.prog W 0 (fun _ => true) true fuel 41 l = some (d, p) from hf)
  exact ⟨a, b, by rw [e], w1, w2⟩
structure SnI (S : Sn) : Prop where
  a : I64 S.lo
  b : I64 S.hi
  c : I64 S.k.lv
  d : I64 S.k.er
set_option maxRecDepth 200000 in
theorem seen_open {base : Nat} {v : Value} {d : DataW H} {p : List MemPlace} (hv : Value.okWide Tryz.prog W .any base 88 v) (h : DataW.Trod enc Tryz.prog W 0 (fun _ => true) true 88 v d p) :
    ∃ S : Sn, v = .agg #[.int .i64 S.lo, .int .i64 S.hi, .int .i64 S.k.lv, .int .i64 S.k.er] ∧ SnI S := by
  obtain ⟨cs, rfl, hsz⟩ := okWide_struct Tryz.underlying88 hv
  obtain ⟨l⟩ := cs
  rw [show Tryz.prog.cellsOf 88 = 4 by kernel_rfl] at hsz
  obtain ⟨c0, c1, c2, c3, rfl⟩ := list4 (show l.length = 4 from hsz)
  obtain ⟨fuel, hf⟩ := h
  have hf : DataW.trod enc Tryz.prog W 0 (fun _ => true) true fuel 88 [c0, c1, c2, c3] = some (d, p) := hf
  obtain ⟨y0, y1, m, _, hl, h0, h1⟩ := trod_struct2 Tryz.underlying88 hf
  have h0 : DataW.trod enc Tryz.prog W 0 (fun _ => true) true m 27 [c0, c1] = some y0 := by simpa [show Tryz.prog.cellsOf 27 = 2 by kernel_rfl] using h0
  have h1 : DataW.trod enc Tryz.prog W 0 (fun _ => true) true m 25 [c2, c3] = some y1 := by simpa [show Tryz.prog.cellsOf 25 = 2 by kernel_rfl] using h1
  obtain ⟨a, b, e1, w1, w2⟩ := two_open_bd Tryz.underlying27 (by kernel_rfl) (by kernel_rfl) Tryz.underlying3 Tryz.underlying3 h0
  obtain ⟨a', b', e2, w3, w4⟩ := two_open_bd Tryz.underlying25 (by kernel_rfl) (by kernel_rfl) Tryz.underlying3 Tryz.underlying3 h1
  simp at e1 e2
  exact ⟨⟨a, b, ⟨a', b'⟩⟩, by rw [e1.1, e1.2, e2.1, e2.2], w1, w2, w3, w4⟩
theorem ints_cap {n : Nat} {v : Value} {y : DataW H × List MemPlace} (h : DataW.trod enc Tryz.prog W 0 (fun _ => true) true n 51 [v] = some y) : ∃ o m c, v = .slice o m c ∧ m ≤ c := by
  rcases open_ints Tryz.underlying51 Tryz.underlying3 (by kernel_rfl) h with ⟨hcs, _⟩ | ⟨a, len, cap, zs, hcs, _, hl, _⟩
  · simp at hcs; subst hcs; exact ⟨_, _, _, rfl, Nat.le_refl _⟩
  · simp at hcs; subst hcs; exact ⟨_, _, _, rfl, hl⟩
set_option maxRecDepth 200000 in
theorem list_open {base : Nat} {v : Value} {d : DataW H} {p : List MemPlace} (_hv : Value.okWide Tryz.prog W .any base 51 v) (h : DataW.Trod enc Tryz.prog W 0 (fun _ => true) true 51 v d p) :
    ∃ l o m c, v = .slice o m c ∧ Ints W (.slice o m c) l ∧ m ≤ c := by
  obtain ⟨o, m, c, rfl⟩ := okWide_slice Tryz.underlying51 _hv
  obtain ⟨fuel, hf⟩ := h
  have hf : DataW.trod enc Tryz.prog W 0 (fun _ => true) true fuel 51 [.slice o m c] = some (d, p) := hf
  obtain ⟨l, hl⟩ := ints_of_trod hf
  obtain ⟨_, _, _, e, k⟩ := ints_cap hf
  cases e
  exact ⟨l, o, m, c, rfl, hl, k⟩
set_option maxRecDepth 200000 in
theorem truth_open {base : Nat} {v : Value} {d : DataW H} {p : List MemPlace} (hv : Value.okWide Tryz.prog W .any base 74 v) (h : DataW.Trod enc Tryz.prog W 0 (fun _ => true) true 74 v d p) :
    ∃ a b l o m c, v = .agg #[.int .i64 a, .int .i64 b, .slice o m c] ∧ (I64 a ∧ I64 b) ∧ Ints W (.slice o m c) l ∧ m ≤ c := by
  obtain ⟨cs, rfl, hsz⟩ := okWide_struct Tryz.underlying74 hv
  obtain ⟨l⟩ := cs
  rw [show Tryz.prog.cellsOf 74 = 3 by kernel_rfl] at hsz
  obtain ⟨c0, c1, c2, rfl⟩ := list3 (show l.length = 3 from hsz)
  obtain ⟨fuel, hf⟩ := h
  have hf : DataW.trod enc Tryz.prog W 0 (fun _ => true) true fuel 74 [c0, c1, c2] = some (d, p) := hf
  obtain ⟨y0, y1, y2, m, _, hl, h0, h1, h2⟩ := trod_struct3 Tryz.underlying74 hf
  have h0 : DataW.trod enc Tryz.prog W 0 (fun _ => true) true m 3 [c0] = some y0 := by simpa [show Tryz.prog.cellsOf 3 = 1 by kernel_rfl] using h0
  have h1 : DataW.trod enc Tryz.prog W 0 (fun _ => true) true m 3 [c1] = some y1 := by simpa [show Tryz.prog.cellsOf 3 = 1 by kernel_rfl] using h1
  have h2 : DataW.trod enc Tryz.prog W 0 (fun _ => true) true m 51 [c2] = some y2 := by simpa [show Tryz.prog.cellsOf 3 = 1 by kernel_rfl, show Tryz.prog.cellsOf 51 = 1 by kernel_rfl] using h2
  obtain ⟨a, ha, _, wa⟩ := DataW.trod_int Tryz.underlying3 h0
  obtain ⟨b, hb, _, wb⟩ := DataW.trod_int Tryz.underlying3 h1
  obtain ⟨l, hl⟩ := ints_of_trod h2
  obtain ⟨o, k, c, e, hk⟩ := ints_cap h2
  simp at ha hb
  subst e
  exact ⟨a, b, l, o, k, c, by rw [ha, hb], ⟨wf_bd wa, wf_bd wb⟩, hl, hk⟩
end
end Go.Proofs.YtnfndiafabhhdaaGreat
