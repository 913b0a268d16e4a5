/- Texts of hours, plain; contracts of strings.Cut and strconv.Atoi as Parse uses them. -/
import Derived.Test.YtpjnlcdmbkbfcaaDoorP1
import Derived.Test.YtpjnlcdmbkbfcaaDoorShm
import Derived.Test.YtpjnlcdmbkbfcaaDoorMem
namespace Go.Proofs.YtpjnlcdmbkbfcaaDoor
open Go.ChangeShapes Go.WideShapes Go.ChangeAt Go.RowKit Go.BigFrame

theorem cut_len (s sep : List UInt8) : (Lib.cut s sep).1.length ≤ s.length ∧ (Lib.cut s sep).2.1.length ≤ s.length := by
  unfold Lib.cut
  split
  · exact ⟨List.length_take_le' _ _, by simp⟩
  · exact ⟨Nat.le_refl _, by simp⟩
def okN (l : List UInt8) (n : Int) : Bool := match Lib.atoiAll l with
  | .ok v => v == n
  | _ => false
theorem okN_ok {l : List UInt8} {n : Int} (h : okN l n = true) : Lib.atoiAll l = .ok n := by
  unfold okN at h
  split at h
  · rename_i v hv; rw [hv]; simp at h; rw [h]
  · cases h
def wordT (nt : Bool) : List UInt8 := if nt then [110, 105, 103, 104, 116] else [100, 97, 121]
def chkT (nt : Bool) (h p : Nat) : Bool :=
  let c := Lib.cut (prT nt h p) [32]
  let c2 := Lib.cut c.2.1 [58]
  (c.1 == wordT nt) && okN c2.1 h && okN c2.2.1 p
theorem chk_allN : ∀ h, h < 12 → ∀ p, p < 60 → chkT true h p = true ∧ chkT false h p = true := by decide +kernel
theorem chk_all {nt : Bool} {h p : Int} (hk : okH h p = true) : (Lib.cut (prT nt h p) [32]).1 = wordT nt ∧
    Lib.atoiAll (Lib.cut (Lib.cut (prT nt h p) [32]).2.1 [58]).1 = .ok h ∧ Lib.atoiAll (Lib.cut (Lib.cut (prT nt h p) [32]).2.1 [58]).2.1 = .ok p := by
  obtain ⟨⟨h1, h2⟩, p1, p2⟩ := okH_bd hk
  obtain ⟨a, rfl⟩ : ∃ a : Nat, h = a := ⟨h.toNat, by omega⟩
  obtain ⟨b, rfl⟩ : ∃ b : Nat, p = b := ⟨p.toNat, by omega⟩
  have hc := chk_allN a (by omega) b (by omega)
  have hx : chkT nt a b = true := by cases nt; exact hc.2; exact hc.1
  simp only [chkT, Bool.and_eq_true, beq_iff_eq] at hx
  exact ⟨hx.1.1, okN_ok hx.1.2, okN_ok hx.2⟩
theorem wordT_inj {a b : Bool} (h : wordT a = wordT b) : a = b := by cases a <;> cases b <;> first | rfl | (revert h; decide)
theorem prT_inj {nt nt' : Bool} {h p h' p' : Int} (hk : okH h p = true) (hk' : okH h' p' = true) (e : prT nt h p = prT nt' h' p') : nt = nt' ∧ h = h' ∧ p = p' := by
  obtain ⟨a1, a2, a3⟩ := chk_all (nt := nt) hk
  obtain ⟨b1, b2, b3⟩ := chk_all (nt := nt') hk'
  rw [e] at a1 a2 a3
  rw [a2] at b2
  rw [a3] at b3
  exact ⟨wordT_inj (a1.symm.trans b1), by injection b2, by injection b3⟩
theorem prT_len {nt : Bool} {h p : Int} (hk : okH h p = true) : (prT nt h p).length ≤ 20 := by
  obtain ⟨⟨h1, h2⟩, p1, p2⟩ := okH_bd hk
  have a := dg_len (n := h) (by omega)
  have b := dg_len (n := p) (by omega)
  unfold prT
  cases nt <;> by_cases hp : p < 10 <;> simp [hp] <;> omega

/-- What the library's variables hold, as far as Parse asks. -/
def VarC (w : World) : Prop := (∃ m, w.cell? ⟨0, 0, none⟩ = some (.int .i64 m)) ∧
  (∃ ev, w.cell? ⟨1, 0, none⟩ = some ev ∧ (ev = .nilIface ∨ ∃ t p, ev = .iface t p)) ∧ ∃ ev, w.cell? ⟨2, 0, none⟩ = some ev ∧ (ev = .nilIface ∨ ∃ t p, ev = .iface t p)
theorem VarC.below {w w' : World} (h : VarC w) (hb : Below w.heap.size w w') : VarC w' := by
  obtain ⟨⟨m, h1⟩, ⟨e1, h2, h3⟩, e2, h4, h5⟩ := h
  exact ⟨⟨m, (hb.cell (World.block_lt_of_cell? w _ h1)).trans h1⟩, ⟨e1, (hb.cell (World.block_lt_of_cell? w _ h2)).trans h2, h3⟩, e2, (hb.cell (World.block_lt_of_cell? w _ h4)).trans h4, h5⟩
theorem VarC.alloc {w : World} (h : VarC w) (o : Obj) : VarC (w.alloc o) := h.below (ballo w o)

theorem cut_c (s sep : ByteArray) (a r : List UInt8) (w : World) (hs : s.size ≤ 100) (hv : VarC w) (ha : (Lib.cut s.data.toList sep.data.toList).1 = a) (hr : (Lib.cut s.data.toList sep.data.toList).2.1 = r) :
    Calls Tryd.prog 105 #[.string s, .string sep] w fun e w' => ∃ t, e = .returned (.tuple #[.string ⟨a.toArray⟩, .string ⟨r.toArray⟩, .bool t]) ∧ Below w.heap.size w w' := by
  obtain ⟨⟨m, hm⟩, _⟩ := hv
  refine (Go.Proofs.Tryd.strings_Cut s sep m w (by omega) hm).mono ?_
  rintro e w' ⟨rfl, n, rfl⟩
  exact ⟨_, by rw [ha, hr], below_drewN (Below.refl _ _) _⟩
theorem atoi_ok (s : ByteArray) (v : Int) (w : World) (hs : s.size ≤ 100) (h : Lib.atoiAll s.data.toList = .ok v) :
    Calls Tryd.prog 106 #[.string s] w fun e w' => e = .returned (.tuple #[.int .i64 v, .nilIface]) ∧ Below w.heap.size w w' := by
  refine (Go.Proofs.Tryd.strconv_Atoi_ok s (by omega) v h w).mono ?_
  rintro e w' ⟨rfl, hw⟩
  refine ⟨rfl, ?_⟩
  rcases hw with rfl | ⟨t, rfl⟩
  · exact Below.refl _ _
  · exact Lib.bytesWorld_below _ _ _
theorem atoi_bad (s : ByteArray) (w : World) (hs : s.size ≤ 100) (hv : VarC w) (h : ∀ v, Lib.atoiAll s.data.toList ≠ .ok v) :
    Calls Tryd.prog 106 #[.string s] w fun e w' => ∃ v T N, e = .returned (.tuple #[.int .i64 v, .iface T (.pointer (some ⟨N, 0, none⟩))]) ∧ Below w.heap.size w w' := by
  obtain ⟨_, ⟨e1, h1, h2⟩, e2, h3, h4⟩ := hv
  cases hq : Lib.atoiAll s.data.toList with
  | ok v => exact absurd hq (h v)
  | «syntax» =>
    refine (Go.Proofs.Tryd.strconv_Atoi_syntax s (by omega) hq e1 w h1 h2).mono ?_
    rintro e w' ⟨N, rfl, _, _, hb⟩
    exact ⟨_, _, _, rfl, hb⟩
  | range =>
    refine (Go.Proofs.Tryd.strconv_Atoi_range s (by omega) hq e2 w h3 h4).mono ?_
    rintro e w' ⟨N, rfl, _, _, hb⟩
    exact ⟨_, _, _, rfl, hb⟩
end Go.Proofs.YtpjnlcdmbkbfcaaDoor
