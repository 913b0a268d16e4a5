/- What the answers are where a case is possible: contracts for the laws. -/
import Derived.Test.YtnfndiafabhhdaaGreatVL7
namespace Go.Proofs.YtnfndiafabhhdaaGreat
open Go.ChangeShapes Go.WideShapes Go.ChangeAt Go.RowKit

theorem rdE_0 {F : Fl} {R : Bool} (ho : okFl F = true) (hR : R = true) (hc : canI F (allL F) = true) : rdE F R = 0 := by
  unfold rdE; rw [if_pos ho, if_pos hR, if_pos hc]
theorem rdE_31 {F : Fl} {R : Bool} (ho : okFl F = true) (hR : R = true) (hc : canI F (allL F) = false) : rdE F R = 31 := by
  unfold rdE; rw [if_pos ho, if_pos hR, if_neg (by rw [hc]; decide)]
theorem rdE_1 {F : Fl} {R : Bool} (ho : okFl F = true) (hR : R = false) : rdE F R = 1 := by
  unfold rdE; rw [if_pos ho, if_neg (by rw [hR]; decide)]
theorem inB_tt {n lo hi : Int} (a : lo ≤ n) (b : n ≤ hi) : inB n lo hi = true := by simp [inB, a, b]
theorem fun_un {F : Fl} (hc : canI F (allL F) = true) (x : Int) : (fun n => decide (0 < n) && unB F x n) = fun n => decide (0 < n) && unM F (allL F) x n := funext fun n => by rw [unB_eq hc]
theorem fun_ov {F : Fl} (hc : canI F (allL F) = true) (x : Int) : (fun n => ovB F x n) = fun n => ovM F (allL F) x n := funext fun n => ovB_eq hc x n
theorem fun_un2 {F : Fl} (hc : canI F (allL F) = true) (m : Int) : (fun n => decide (0 < n) && unB F n m) = fun n => decide (0 < n) && unM F (allL F) n m := funext fun n => by rw [unB_eq hc]
theorem fun_ov2 {F : Fl} (hc : canI F (allL F) = true) (m : Int) : (fun n => ovB F n m) = fun n => ovM F (allL F) n m := funext fun n => ovB_eq hc n m
theorem Reached_yes (F : Fl) (vv vs : Value) (x a b : Int) (w : World) (hF : FlIn w F vv vs) (ho : okFl F = true) (hc : canI F (allL F) = true) (x0 : 0 ≤ x) (xn : x ≤ hgt F.v) (ha : rcLo F (allL F) x = a) (hb : rcHi F (allL F) x = b) :
    Calls Tryz.prog 20 #[flV F vv vs, .int .i64 x] w fun e w' => e = .returned (.tuple #[.agg #[.int .i64 a, .int .i64 b], .int .i64 0]) ∧ Below w.heap.size w w' := by
  have h := Reached_any F vv vs x w hF
  unfold reV rcS at h
  rw [if_pos (rdE_0 ho (inB_tt x0 xn) hc), fun_un hc, fun_ov hc] at h
  subst ha hb
  exact h
theorem Reached_no (F : Fl) (vv vs : Value) (x c : Int) (w : World) (hF : FlIn w F vv vs) (hc : rdE F (inB x 0 (hgt F.v)) = c) (c0 : c ≠ 0) :
    Calls Tryz.prog 20 #[flV F vv vs, .int .i64 x] w fun e w' => e = .returned (.tuple #[raZ, .int .i64 c]) ∧ Below w.heap.size w w' := by
  have h := Reached_any F vv vs x w hF
  unfold reV at h
  rwa [hc, if_neg c0] at h
theorem Level_yes (F : Fl) (vv vs : Value) (m a b : Int) (w : World) (hF : FlIn w F vv vs) (ho : okFl F = true) (hc : canI F (allL F) = true) (m0 : 0 ≤ m) (mn : m ≤ 2097152) (ha : lvLo F (allL F) m = a) (hb : lvHi F (allL F) m = b) :
    Calls Tryz.prog 22 #[flV F vv vs, .int .i64 m] w fun e w' => e = .returned (.tuple #[.agg #[.int .i64 a, .int .i64 b], .int .i64 0]) ∧ Below w.heap.size w w' := by
  have h := Level_any F vv vs m w hF
  unfold leV lvS at h
  rw [if_pos (rdE_0 ho (inB_tt m0 mn) hc), fun_un2 hc, fun_ov2 hc] at h
  subst ha hb
  exact h
theorem Level_no (F : Fl) (vv vs : Value) (m c : Int) (w : World) (hF : FlIn w F vv vs) (hc : rdE F (inB m 0 2097152) = c) (c0 : c ≠ 0) :
    Calls Tryz.prog 22 #[flV F vv vs, .int .i64 m] w fun e w' => e = .returned (.tuple #[raZ, .int .i64 c]) ∧ Below w.heap.size w w' := by
  have h := Level_any F vv vs m w hF
  unfold leV at h
  rwa [hc, if_neg c0] at h
theorem asR_t {F : Fl} {x m : Int} (x0 : 0 ≤ x) (xn : x ≤ hgt F.v) (m0 : 0 ≤ m) (mn : m ≤ 2097152) : asR F x m = true := by unfold asR; rw [inB_tt x0 xn, inB_tt m0 mn]; rfl
theorem Surely_yes (F : Fl) (vv vs : Value) (x m : Int) (s : Bool) (w : World) (hF : FlIn w F vv vs) (ho : okFl F = true) (hc : canI F (allL F) = true) (x0 : 0 ≤ x) (xn : x ≤ hgt F.v) (m0 : 0 ≤ m) (mn : m ≤ 2097152) (hs : (!ovM F (allL F) x m) = s) :
    Calls Tryz.prog 28 #[flV F vv vs, .int .i64 x, .int .i64 m] w fun e w' => e = .returned (.tuple #[.bool s, .int .i64 0]) ∧ Below w.heap.size w w' := by
  have h := Surely_any F vv vs x m w hF
  unfold suV at h
  rw [if_pos (rdE_0 ho (asR_t x0 xn m0 mn) hc), ovB_eq hc, hs] at h
  exact h
theorem Ever_yes (F : Fl) (vv vs : Value) (x m : Int) (s : Bool) (w : World) (hF : FlIn w F vv vs) (ho : okFl F = true) (hc : canI F (allL F) = true) (x0 : 0 ≤ x) (xn : x ≤ hgt F.v) (m0 : 0 ≤ m) (mn : m ≤ 2097152) (hs : evM F (allL F) x m = s) :
    Calls Tryz.prog 30 #[flV F vv vs, .int .i64 x, .int .i64 m] w fun e w' => e = .returned (.tuple #[.bool s, .int .i64 0]) ∧ Below w.heap.size w w' := by
  have h := Ever_any F vv vs x m w hF
  unfold evV at h
  rw [if_pos (rdE_0 ho (asR_t x0 xn m0 mn) hc), evB_eq hc, hs] at h
  exact h
theorem allI_lt (F : Fl) : ∀ i ∈ allL F, i < (F.s.length : Int) := fun i hi => (allL_ok F i hi).2
end Go.Proofs.YtnfndiafabhhdaaGreat
