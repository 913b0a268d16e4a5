/- What the functions of hours compute: plain Lean, no program in sight. -/
import Derived.Test.YtpjnlcdmbkbfcaaDoorBase
namespace Go.Proofs.YtpjnlcdmbkbfcaaDoor

/-- Element k of a list of ints (0 beyond its end), as the walk spells it. -/
abbrev el (l : List Int) (k : Nat) : Int := l[k]?.getD 0

/-- How many of the first k elements lie ahead of or at the last one that is at most p. -/
def qLe (d : List Int) (p : Int) : Nat → Nat
  | 0 => 0
  | k + 1 => if el d k ≤ p then k + 1 else qLe d p k
theorem qLe_le (d : List Int) (p : Int) (k : Nat) : qLe d p k ≤ k := by
  induction k with
  | zero => simp [qLe]
  | succ k ih => simp only [qLe]; split <;> omega
theorem qLe_hit (d : List Int) (p : Int) (k : Nat) (h : 0 < qLe d p k) : el d (qLe d p k - 1) ≤ p := by
  induction k with
  | zero => simp [qLe] at h
  | succ k ih =>
    simp only [qLe] at h ⊢
    split
    · simpa
    · rename_i h1; rw [if_neg h1] at h; exact ih h
theorem qLe_miss (d : List Int) (p : Int) (k j : Nat) (h : qLe d p k ≤ j) (hj : j < k) : p < el d j := by
  induction k with
  | zero => omega
  | succ k ih =>
    simp only [qLe] at h
    split at h
    · omega
    · rename_i h1
      rcases Nat.lt_or_ge j k with h2 | h2
      · exact ih h h2
      · have : j = k := by omega
        subst this; omega

theorem qLe_no {d : List Int} {p : Int} {k : Nat} (hk : 0 < k) (h : p < d[k - 1]?.getD 0) : qLe d p (k - 1) = qLe d p k := by
  obtain ⟨m, rfl⟩ : ∃ m, k = m + 1 := ⟨k - 1, by omega⟩
  simp only [Nat.add_sub_cancel] at h ⊢
  simp only [qLe, el]
  rw [if_neg (by omega)]
theorem qLe_yes {d : List Int} {p : Int} {k : Nat} (hk : 0 < k) (h : d[k - 1]?.getD 0 ≤ p) : qLe d p k = k := by
  obtain ⟨m, rfl⟩ : ∃ m, k = m + 1 := ⟨k - 1, by omega⟩
  simp only [Nat.add_sub_cancel] at h
  simp only [qLe, el]
  rw [if_pos h]

/-- A season. -/
structure Sea where
  L : Int
  d : List Int
  r : List Int
  s : List Int

def allB (l : List Int) (lo hi : Int) : Bool := l.all fun n => decide (lo ≤ n) && decide (n ≤ hi)
/-- The first k elements rise strictly. -/
def risesB (l : List Int) : Nat → Bool
  | 0 => true
  | k + 1 => risesB l k && (k == 0 || decide (el l (k - 1) < el l k))

def vld (S : Sea) : Bool :=
  decide (360 ≤ S.L) && decide (S.L ≤ 366) && decide (1 ≤ S.d.length) && decide (S.d.length ≤ 24) && decide (S.r.length = S.d.length) && decide (S.s.length = S.d.length) &&
  allB S.d 0 (S.L - 1) && allB S.r 60 700 && allB S.s 740 1380 && risesB S.d S.d.length

theorem allB_el {l : List Int} {lo hi : Int} (h : allB l lo hi = true) {k : Nat} (hk : k < l.length) : lo ≤ el l k ∧ el l k ≤ hi := by
  simp only [allB, List.all_eq_true, Bool.and_eq_true, decide_eq_true_eq] at h
  have := h l[k] (List.getElem_mem hk)
  simpa [el, hk] using this
theorem risesB_el {l : List Int} {n : Nat} (h : risesB l n = true) {k : Nat} (h0 : 0 < k) (hk : k < n) : el l (k - 1) < el l k := by
  induction n with
  | zero => omega
  | succ n ih =>
    simp only [risesB, Bool.and_eq_true, Bool.or_eq_true, beq_iff_eq, decide_eq_true_eq] at h
    rcases Nat.lt_or_ge k n with h1 | h1
    · exact ih h.1 h1
    · have : k = n := by omega
      subst this
      rcases h.2 with h2 | h2
      · omega
      · exact h2
theorem risesB_step {l : List Int} {k : Nat} (h : risesB l k = true) (hk : el l (k - 1) < el l k) : risesB l (k + 1) = true := by
  simp only [risesB, h, Bool.true_and, Bool.or_eq_true, decide_eq_true_eq]
  exact .inr hk
theorem risesB_no {l : List Int} {n k : Nat} (h0 : 0 < k) (hk : k < n) (h : el l k ≤ el l (k - 1)) : risesB l n = false := by
  cases e : risesB l n with
  | false => rfl
  | true => have := risesB_el e h0 hk; omega
theorem risesB_lt {l : List Int} {n : Nat} (h : risesB l n = true) {i j : Nat} (hij : i < j) (hj : j < n) : el l i < el l j := by
  induction j with
  | zero => omega
  | succ j ih =>
    have h1 := risesB_el h (k := j + 1) (by omega) hj
    rcases Nat.lt_or_ge i j with h2 | h2
    · have := ih h2 (by omega); simp only [Nat.add_sub_cancel] at h1; omega
    · have : i = j := by omega
      subst this; simpa using h1

theorem allB_of {l : List Int} {lo hi : Int} (h : ∀ k, k < l.length → lo ≤ el l k ∧ el l k ≤ hi) : allB l lo hi = true := by
  simp only [allB, List.all_eq_true, Bool.and_eq_true, decide_eq_true_eq]
  intro x hx
  obtain ⟨k, hk, rfl⟩ := List.getElem_of_mem hx
  have := h k hk
  simpa [el, hk] using this
theorem allB_not {l : List Int} {lo hi : Int} {k : Nat} (hk : k < l.length) (h : el l k < lo ∨ hi < el l k) : allB l lo hi = false := by
  cases e : allB l lo hi with
  | false => rfl
  | true => have := allB_el e hk; omega

/-- What Check answers. -/
def chk (S : Sea) : Int := if vld S then 0 else 50

structure Vld (S : Sea) : Prop where
  L1 : 360 ≤ S.L
  L2 : S.L ≤ 366
  n1 : 1 ≤ S.d.length
  n2 : S.d.length ≤ 24
  nr : S.r.length = S.d.length
  ns : S.s.length = S.d.length
  ad : allB S.d 0 (S.L - 1) = true
  ar : allB S.r 60 700 = true
  at_ : allB S.s 740 1380 = true
  up : risesB S.d S.d.length = true
theorem vld_iff (S : Sea) : vld S = true ↔ Vld S := by
  simp only [vld, Bool.and_eq_true, decide_eq_true_eq]
  constructor
  · rintro ⟨⟨⟨⟨⟨⟨⟨⟨⟨a, b⟩, c⟩, d⟩, e⟩, f⟩, g⟩, h⟩, i⟩, j⟩
    exact ⟨a, b, c, d, e, f, g, h, i, j⟩
  · rintro ⟨a, b, c, d, e, f, g, h, i, j⟩
    exact ⟨⟨⟨⟨⟨⟨⟨⟨⟨a, b⟩, c⟩, d⟩, e⟩, f⟩, g⟩, h⟩, i⟩, j⟩

/-- The places of the two neighbours, and the line between. -/
def iA (n q : Nat) : Nat := if q = 0 then n - 1 else q - 1
def iB (n q : Nat) : Nat := if q = n then 0 else q
def frm (L : Int) (d : List Int) (q : Nat) : Int := if q = 0 then el d (d.length - 1) - L else el d (q - 1)
def tto (L : Int) (d : List Int) (q : Nat) : Int := if q = d.length then el d 0 + L else el d q
def lineQ (L : Int) (d t : List Int) (p : Int) (q : Nat) : Int :=
  el t (iA d.length q) + (p - frm L d q) * (el t (iB d.length q) - el t (iA d.length q)) / (tto L d q - frm L d q)
def lineV (L : Int) (d t : List Int) (p : Int) : Int := lineQ L d t p (qLe d p d.length)

theorem frm_lt_tto {L : Int} {d : List Int} {q : Nat} (hd : allB d 0 (L - 1) = true) (hu : risesB d d.length = true) (h1 : 1 ≤ d.length) (hq : q ≤ d.length) : frm L d q < tto L d q ∧ tto L d q - frm L d q ≤ L := by
  unfold frm tto
  have a0 := allB_el hd (k := 0) (by omega)
  have a1 := allB_el hd (k := d.length - 1) (by omega)
  by_cases h0 : q = 0
  · subst h0
    rw [if_pos rfl, if_neg (by omega)]
    have : el d 0 ≤ el d (d.length - 1) := by
      rcases Nat.lt_or_ge 0 (d.length - 1) with h | h
      · exact Int.le_of_lt (risesB_lt hu h (by omega))
      · have : d.length - 1 = 0 := by omega
        rw [this]; exact Int.le_refl _
    omega
  · rw [if_neg h0]
    by_cases hn : q = d.length
    · rw [if_pos hn]
      subst hn
      have : el d 0 ≤ el d (d.length - 1) := by
        rcases Nat.lt_or_ge 0 (d.length - 1) with h | h
        · exact Int.le_of_lt (risesB_lt hu h (by omega))
        · have : d.length - 1 = 0 := by omega
          rw [this]; exact Int.le_refl _
      omega
    · rw [if_neg hn]
      have b1 := allB_el hd (k := q) (by omega)
      have b2 := allB_el hd (k := q - 1) (by omega)
      have := risesB_el hu (k := q) (by omega) (by omega)
      omega
end Go.Proofs.YtpjnlcdmbkbfcaaDoor
