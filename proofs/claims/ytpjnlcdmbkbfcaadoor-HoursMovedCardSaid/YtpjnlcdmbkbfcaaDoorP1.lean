/- Walks of Print on both sides. -/
import Derived.Test.YtpjnlcdmbkbfcaaDoorH14
import Derived.Test.YtpjnlcdmbkbfcaaDoorShl
namespace Go.Proofs.YtpjnlcdmbkbfcaaDoor
open Go.ChangeShapes Go.WideShapes Go.ChangeAt Go.RowKit Go.BigFrame

/-- The digits of a number below 100. -/
def dg (n : Int) : List UInt8 := Lib.decDigits n.toNat
theorem dg_len' : ∀ k : Nat, k < 100 → (Lib.decDigits k).length ≤ 2 := by decide +kernel
theorem dg_len {n : Int} (h : n < 100) : (dg n).length ≤ 2 := dg_len' _ (by omega)
/-- The text of an hour. -/
def prT (nt : Bool) (h p : Int) : List UInt8 := (if nt then [110, 105, 103, 104, 116, 32] else [100, 97, 121, 32]) ++ (dg h ++ ([58] ++ ((if p < 10 then [48] else []) ++ dg p)))
def prV (nt : Bool) (h p : Int) : List UInt8 := if okH h p then prT nt h p else []
def prE (h p : Int) : Int := if okH h p then 0 else 1
def PrPost (nt : Bool) (h p : Int) (w : World) (e : Ending) (w' : World) : Prop :=
  e = .returned (.tuple #[.string ⟨(prV nt h p).toArray⟩, .int .i64 (prE h p)]) ∧ Below w.heap.size w w'
theorem itoa_c (n : Int) (l : List UInt8) (w : World) (h0 : 0 ≤ n) (h1 : n < 100) (hl : dg n = l) : Calls Tryd.prog 103 #[.int .i64 n] w fun e w' => e = .returned (.string ⟨l.toArray⟩) ∧ w = w' := by
  subst hl
  obtain ⟨k, rfl⟩ : ∃ k : Nat, n = k := ⟨n.toNat, by omega⟩
  unfold dg
  rw [Int.toNat_natCast]
  exact (Go.Proofs.Tryd.strconv_Itoa_small k (by omega) w).mono fun _ _ h => ⟨h.1, h.2.symm⟩
theorem isHour_c (nt : Bool) (h p : Int) (b : Bool) (w : World) (hb : okH h p = b) : Calls Tryd.prog 102 #[.agg #[.bool nt, .int .i64 h, .int .i64 p]] w fun e w' => e = .returned (.bool b) ∧ Below w.heap.size w w' := by
  rw [← hb]; exact isHour_any nt h p w
theorem prT_eq {nt : Bool} {h p : Int} {a b c : List UInt8} (ha : dg h = a) (hb : dg p = b) (hc : (if p < 10 then [48] else []) = c) : prT nt h p = (if nt then [110, 105, 103, 104, 116, 32] else [100, 97, 121, 32]) ++ (a ++ ([58] ++ (c ++ b))) := by
  unfold prT; rw [ha, hb, hc]
theorem ret_str {a b : List UInt8} {c d : Int} (h : a = b) (h' : c = d) : Ending.returned (.tuple #[.string ⟨a.toArray⟩, .int .i64 c]) = .returned (.tuple #[.string ⟨b.toArray⟩, .int .i64 d]) := by rw [h, h']

theorem ret_strB {x : ByteArray} {b : List UInt8} {c d : Int} (h : x.data.toList = b) (h' : c = d) : Ending.returned (.tuple #[.string x, .int .i64 c]) = .returned (.tuple #[.string ⟨b.toArray⟩, .int .i64 d]) := by
  subst h h'; simp
theorem ret_strS {x : ByteArray} {b : List UInt8} (h : x.data.toList = b) : Ending.returned (.string x) = .returned (.string ⟨b.toArray⟩) := by
  subst h; simp

set_option maxHeartbeats 400000 in
theorem Print_any (nt : Bool) (h p : Int) (w : World) : Calls Tryd.prog 63 #[.agg #[.bool nt, .int .i64 h, .int .i64 p]] w (PrPost nt h p w) := by
  rcases bool_ft (okH h p) with hk | hk
  · have HV := Lib.hid (show prV nt h p = [] by unfold prV; rw [hk]; rfl)
    have HE := Lib.hid (show prE h p = 1 by unfold prE; rw [hk]; rfl)
    go_enter Tryd.func63, Tryd.ntmps63
    go_wp2_with fail
    refine (isHour_c nt h p _ _ hk).mono ?_
    rintro e w1 ⟨rfl, hb1⟩
    obtain ⟨hc1, hf1⟩ := bcell hb1
    go_wp2_with fail
    go_ret2
    exact ⟨ret_str HV.out.symm HE.out.symm, bafter hb1⟩
  · obtain ⟨⟨h1, h2⟩, p1, p2⟩ := okH_bd hk
    have HV := Lib.hid (show prV nt h p = prT nt h p by unfold prV; rw [hk]; rfl)
    have HE := Lib.hid (show prE h p = 0 by unfold prE; rw [hk]; rfl)
    have la := dg_len (n := h) (by omega)
    have lb := dg_len (n := p) (by omega)
    obtain ⟨a, ha⟩ : ∃ a, dg h = a := ⟨_, rfl⟩
    obtain ⟨b, hb⟩ : ∃ a, dg p = a := ⟨_, rfl⟩
    have HT := Lib.hid (prT_eq (nt := nt) ha hb rfl)
    rw [ha] at la
    rw [hb] at lb
    have HA := Lib.hid ha
    have HB := Lib.hid hb
    clear ha hb
    cases nt
    all_goals
      by_cases h10 : p < 10
      all_goals
        go_enter Tryd.func63, Tryd.ntmps63
        go_wp2_with fail
        refine (isHour_c _ h p _ _ hk).mono ?_
        rintro e w1 ⟨rfl, hb1⟩
        obtain ⟨hc1, hf1⟩ := bcell hb1
        go_wp2_with fail
        refine (itoa_c h a _ h1 (by omega) HA.out).mono ?_
        rintro e w2 ⟨rfl, rfl⟩
        go_wp2_with fail
        refine (itoa_c p b _ p1 (by omega) HB.out).mono ?_
        rintro e w2 ⟨rfl, rfl⟩
        go_wp2_with fail
        go_ret2
        exact ⟨ret_strB (by rw [HV.out, HT.out]; simp [h10]) HE.out.symm, bafter hb1⟩

/-- Two digits. -/
def tw (n : Int) : List UInt8 := (if n < 10 then [48] else []) ++ dg n
theorem two_c (n : Int) (l : List UInt8) (w : World) (h0 : 0 ≤ n) (h1 : n < 100) (hl : tw n = l) : Calls Tryd.prog 104 #[.int .i64 n] w fun e w' => e = .returned (.string ⟨l.toArray⟩) ∧ w = w' := by
  obtain ⟨a, ha⟩ : ∃ a, dg n = a := ⟨_, rfl⟩
  have la := dg_len (n := n) h1
  rw [ha] at la
  have HT := Lib.hid (show tw n = (if n < 10 then [48] else []) ++ a by unfold tw; rw [ha])
  have HA := Lib.hid ha
  have HL := Lib.hid hl
  clear ha hl
  by_cases h10 : n < 10
  all_goals
    go_enter Tryd.func104, Tryd.ntmps104
    go_wp2_with fail
    refine (itoa_c n a _ h0 h1 HA.out).mono ?_
    rintro e w2 ⟨rfl, rfl⟩
    go_wp2_with fail
    go_ret
    exact ⟨ret_strS (by rw [← HL.out, HT.out]; simp [h10]), rfl⟩
theorem prT_tw {nt : Bool} {h p : Int} {a b : List UInt8} (ha : dg h = a) (hb : tw p = b) : prT nt h p = (if nt then [110, 105, 103, 104, 116, 32] else [100, 97, 121, 32]) ++ (a ++ ([58] ++ b)) := by
  unfold prT; rw [ha, ← hb]; rfl
theorem tw_len {n : Int} (h : n < 100) : (tw n).length ≤ 3 := by
  have := dg_len h
  unfold tw
  split <;> simp <;> omega
theorem rHour_c (nt : Bool) (h p : Int) (b : Bool) (w : World) (hb : okH h p = b) : Calls Tryd.prog 49 #[.agg #[.bool nt, .int .i64 h, .int .i64 p]] w fun e w' => e = .returned (.bool b) ∧ Below w.heap.size w w' := by
  rw [← hb]; exact rHour_any nt h p w
set_option maxHeartbeats 400000 in
theorem rPrint_any (nt : Bool) (h p : Int) (w : World) : Calls Tryd.prog 64 #[.agg #[.bool nt, .int .i64 h, .int .i64 p]] w (PrPost nt h p w) := by
  rcases bool_ft (okH h p) with hk | hk
  · have HV := Lib.hid (show prV nt h p = [] by unfold prV; rw [hk]; rfl)
    have HE := Lib.hid (show prE h p = 1 by unfold prE; rw [hk]; rfl)
    go_enter Tryd.func64, Tryd.ntmps64
    go_wp2_with fail
    refine (rHour_c nt h p _ _ hk).mono ?_
    rintro e w1 ⟨rfl, hb1⟩
    obtain ⟨hc1, hf1⟩ := bcell hb1
    go_wp2_with fail
    go_ret2
    exact ⟨ret_str HV.out.symm HE.out.symm, bafter hb1⟩
  · obtain ⟨⟨h1, h2⟩, p1, p2⟩ := okH_bd hk
    have HV := Lib.hid (show prV nt h p = prT nt h p by unfold prV; rw [hk]; rfl)
    have HE := Lib.hid (show prE h p = 0 by unfold prE; rw [hk]; rfl)
    have la := dg_len (n := h) (by omega)
    have lb := tw_len (n := p) (by omega)
    obtain ⟨a, ha⟩ : ∃ a, dg h = a := ⟨_, rfl⟩
    obtain ⟨b, hb⟩ : ∃ a, tw p = a := ⟨_, rfl⟩
    have HT := Lib.hid (prT_tw (nt := nt) ha hb)
    rw [ha] at la
    rw [hb] at lb
    have HA := Lib.hid ha
    have HB := Lib.hid hb
    clear ha hb
    cases nt
    all_goals
      go_enter Tryd.func64, Tryd.ntmps64
      go_wp2_with fail
      refine (rHour_c _ h p _ _ hk).mono ?_
      rintro e w1 ⟨rfl, hb1⟩
      obtain ⟨hc1, hf1⟩ := bcell hb1
      go_wp2_with fail
      go_quiet ((first | (go_at_call 103; exact quiet_left (itoa_c h a _ h1 (by omega) HA.out)) | (go_at_call 104; exact quiet_left (two_c p b _ p1 (by omega) HB.out))))
      go_wp2_with fail
      go_ret2
      exact ⟨ret_strB (by rw [HV.out, HT.out]; simp) HE.out.symm, (by repeat (first | exact Below.refl _ _ | assumption | refine bthen ?_ (by assumption) | refine Below.alloc ?_ (by first | exact Nat.le_refl _ | (simp; done) | (simp; omega) | omega) _ | refine Below.setCell ?_ (by first | exact Nat.le_refl _ | (simp; done) | (simp; omega) | omega) _ | refine below_drewN ?_ _ | refine Below.drew ?_))⟩
end Go.Proofs.YtpjnlcdmbkbfcaaDoor
