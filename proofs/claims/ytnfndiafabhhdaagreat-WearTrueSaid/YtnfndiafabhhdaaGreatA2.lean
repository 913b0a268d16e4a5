/- Of cones in three dimensions, each of which holds all but one of four vectors, all hold one (Helly, Radon): for Clash of Wear. Plain. -/
import Derived.KernelRfl
import Derived.Test.YtnfndiafabhhdaaGreatA1
namespace Go.Proofs.YtnfndiafabhhdaaGreat
structure V3 where
  q : Int
  p : Int
  y : Int
def V3.add (a b : V3) : V3 := ⟨a.q + b.q, a.p + b.p, a.y + b.y⟩
def V3.mul (m : Int) (a : V3) : V3 := ⟨m * a.q, m * a.p, m * a.y⟩
def V3.zero : V3 := ⟨0, 0, 0⟩
structure Cone (C : V3 → Prop) : Prop where
  add : ∀ a b, C a → C b → C (a.add b)
  mul : ∀ m a, 0 < m → C a → C (V3.mul m a)
theorem V3.add_zero (a : V3) : a.add V3.zero = a := by cases a; simp [V3.add, V3.zero]
def sp : List (Int × V3) → V3
  | [] => V3.zero
  | x :: l => if 0 < x.1 then (V3.mul x.1 x.2).add (sp l) else sp l
theorem sp_none : ∀ {l : List (Int × V3)}, (∀ x ∈ l, ¬ 0 < x.1) → sp l = V3.zero
  | [], _ => rfl
  | x :: l, h => by
    unfold sp
    rw [if_neg (h x (by simp))]
    exact sp_none fun y hy => h y (by simp [hy])
theorem sp_in {C : V3 → Prop} (hC : Cone C) : ∀ {l : List (Int × V3)}, (∃ x ∈ l, 0 < x.1) → (∀ x ∈ l, 0 < x.1 → C x.2) → C (sp l)
  | [], h, _ => by obtain ⟨x, hx, _⟩ := h; cases hx
  | x :: l, h, k => by
    unfold sp
    by_cases hx : 0 < x.1
    · rw [if_pos hx]
      have c := hC.mul _ _ hx (k x (by simp) hx)
      by_cases hl : ∃ y ∈ l, 0 < y.1
      · exact hC.add _ _ c (sp_in hC hl fun y hy => k y (by simp [hy]))
      · rw [sp_none fun y hy p => hl ⟨y, hy, p⟩, V3.add_zero]
        exact c
    · rw [if_neg hx]
      refine sp_in hC ?_ fun y hy => k y (by simp [hy])
      obtain ⟨y, hy, p⟩ := h
      rcases List.mem_cons.1 hy with rfl | hy
      · exact absurd p hx
      · exact ⟨y, hy, p⟩
theorem dep2 (a1 a2 b1 b2 c1 c2 : Int) : ∃ m n k : Int, ¬ (m = 0 ∧ n = 0 ∧ k = 0) ∧ m * a1 + n * b1 + k * c1 = 0 ∧ m * a2 + n * b2 + k * c2 = 0 := by
  by_cases h : b1 * c2 - b2 * c1 = 0 ∧ c1 * a2 - c2 * a1 = 0 ∧ a1 * b2 - a2 * b1 = 0
  · obtain ⟨h1, h2, h3⟩ := h
    by_cases ha : a1 = 0 ∧ a2 = 0
    · exact ⟨1, 0, 0, by omega, by rw [ha.1]; omega, by rw [ha.2]; omega⟩
    · by_cases ha1 : a1 = 0
      · have ha2 : a2 ≠ 0 := fun e => ha ⟨ha1, e⟩
        refine ⟨b2, -a2, 0, by omega, ?_, ?_⟩
        · rw [ha1] at h3
          rw [ha1, Int.mul_zero, Int.zero_mul, Int.neg_mul]
          omega
        · rw [Int.zero_mul, Int.neg_mul, Int.mul_comm b2 a2]
          omega
      · refine ⟨b1, -a1, 0, by omega, ?_, ?_⟩
        · rw [Int.zero_mul, Int.neg_mul, Int.mul_comm b1 a1]
          omega
        · rw [Int.zero_mul, Int.neg_mul, Int.mul_comm b1 a2]
          omega
  · refine ⟨b1 * c2 - b2 * c1, c1 * a2 - c2 * a1, a1 * b2 - a2 * b1, h, ?_, ?_⟩
    · simp only [Int.sub_mul]
      have e1 : b1 * c2 * a1 = c2 * a1 * b1 := by ac_rfl
      have e2 : b2 * c1 * a1 = a1 * b2 * c1 := by ac_rfl
      have e3 : c1 * a2 * b1 = a2 * b1 * c1 := by ac_rfl
      omega
    · simp only [Int.sub_mul]
      have e1 : b1 * c2 * a2 = a2 * b1 * c2 := by ac_rfl
      have e2 : b2 * c1 * a2 = c1 * a2 * b2 := by ac_rfl
      have e3 : c2 * a1 * b2 = a1 * b2 * c2 := by ac_rfl
      omega
theorem dep3 (a b c d : V3) (ha : 0 < a.q) : ∃ m n k j : Int, ¬ (m = 0 ∧ n = 0 ∧ k = 0 ∧ j = 0) ∧ m * a.q + n * b.q + k * c.q + j * d.q = 0 ∧ m * a.p + n * b.p + k * c.p + j * d.p = 0 ∧ m * a.y + n * b.y + k * c.y + j * d.y = 0 := by
  obtain ⟨n, k, j, h0, h1, h2⟩ := dep2 (a.q * b.p - b.q * a.p) (a.q * b.y - b.q * a.y) (a.q * c.p - c.q * a.p) (a.q * c.y - c.q * a.y) (a.q * d.p - d.q * a.p) (a.q * d.y - d.q * a.y)
  refine ⟨-(n * b.q + k * c.q + j * d.q), n * a.q, k * a.q, j * a.q, ?_, ?_, ?_, ?_⟩
  · rintro ⟨_, e1, e2, e3⟩
    have z : ∀ x : Int, x * a.q = 0 → x = 0 := fun x e => by
      rcases Int.mul_eq_zero.1 e with k | k
      · exact k
      · omega
    exact h0 ⟨z _ e1, z _ e2, z _ e3⟩
  · simp only [Int.neg_mul, Int.add_mul]
    have e1 : n * b.q * a.q = n * a.q * b.q := by ac_rfl
    have e2 : k * c.q * a.q = k * a.q * c.q := by ac_rfl
    have e3 : j * d.q * a.q = j * a.q * d.q := by ac_rfl
    omega
  · simp only [Int.neg_mul, Int.add_mul]
    simp only [Int.mul_sub] at h1
    have e1 : n * (a.q * b.p) = n * a.q * b.p := by ac_rfl
    have e2 : k * (a.q * c.p) = k * a.q * c.p := by ac_rfl
    have e3 : j * (a.q * d.p) = j * a.q * d.p := by ac_rfl
    have f1 : n * (b.q * a.p) = n * b.q * a.p := by ac_rfl
    have f2 : k * (c.q * a.p) = k * c.q * a.p := by ac_rfl
    have f3 : j * (d.q * a.p) = j * d.q * a.p := by ac_rfl
    omega
  · simp only [Int.neg_mul, Int.add_mul]
    simp only [Int.mul_sub] at h2
    have e1 : n * (a.q * b.y) = n * a.q * b.y := by ac_rfl
    have e2 : k * (a.q * c.y) = k * a.q * c.y := by ac_rfl
    have e3 : j * (a.q * d.y) = j * a.q * d.y := by ac_rfl
    have f1 : n * (b.q * a.y) = n * b.q * a.y := by ac_rfl
    have f2 : k * (c.q * a.y) = k * c.q * a.y := by ac_rfl
    have f3 : j * (d.q * a.y) = j * d.q * a.y := by ac_rfl
    omega
def neg (l : List (Int × V3)) : List (Int × V3) := l.map fun x => (-x.1, x.2)
def tot : List (Int × V3) → V3
  | [] => V3.zero
  | x :: l => (V3.mul x.1 x.2).add (tot l)
theorem V3.ext {a b : V3} (h1 : a.q = b.q) (h2 : a.p = b.p) (h3 : a.y = b.y) : a = b := by cases a; cases b; simp_all
theorem sp_tot : ∀ l : List (Int × V3), sp l = (tot l).add (sp (neg l))
  | [] => rfl
  | x :: l => by
    have ih := sp_tot l
    have i1 := congrArg V3.q ih
    have i2 := congrArg V3.p ih
    have i3 := congrArg V3.y ih
    simp only [V3.add] at i1 i2 i3
    simp only [neg, List.map_cons] at ih i1 i2 i3 ⊢
    simp only [sp, tot]
    have n1 : -x.1 * x.2.q = -(x.1 * x.2.q) := Int.neg_mul _ _
    have n2 : -x.1 * x.2.p = -(x.1 * x.2.p) := Int.neg_mul _ _
    have n3 : -x.1 * x.2.y = -(x.1 * x.2.y) := Int.neg_mul _ _
    rcases Int.lt_trichotomy x.1 0 with k | k | k
    · rw [if_neg (show ¬ 0 < x.1 by omega), if_pos (show 0 < -x.1 by omega)]
      apply V3.ext <;> simp only [V3.add, V3.mul] <;> omega
    · rw [if_neg (show ¬ 0 < x.1 by omega), if_neg (show ¬ 0 < -x.1 by omega)]
      apply V3.ext <;> simp only [V3.add, V3.mul, k, Int.zero_mul] <;> omega
    · rw [if_pos k, if_neg (show ¬ 0 < -x.1 by omega)]
      apply V3.ext <;> simp only [V3.add, V3.mul] <;> omega
structure En where
  m : Int
  i : Int
  v : V3
def fv (M : List En) : List (Int × V3) := M.map fun e => (e.m, e.v)
theorem tot_q : ∀ {M : List En}, (∀ e ∈ M, 0 < e.v.q) → (∀ e ∈ M, ¬ 0 < e.m) → (tot (fv M)).q ≤ 0 ∧ ((tot (fv M)).q = 0 → ∀ e ∈ M, e.m = 0)
  | [], _, _ => ⟨Int.le_refl _, fun _ e he => by cases he⟩
  | x :: M, hq, hn => by
    obtain ⟨a, b⟩ := tot_q (M := M) (fun e he => hq e (by simp [he])) (fun e he => hn e (by simp [he]))
    have q := hq x (by simp)
    have n := hn x (by simp)
    have k : x.m * x.v.q ≤ 0 := Int.mul_nonpos_of_nonpos_of_nonneg (by omega) (Int.le_of_lt q)
    have e : (tot (fv (x :: M))).q = x.m * x.v.q + (tot (fv M)).q := rfl
    rw [e]
    refine ⟨by omega, fun z y hy => ?_⟩
    have z1 : x.m * x.v.q = 0 := by omega
    have z2 := b (by omega)
    rcases List.mem_cons.1 hy with rfl | hy
    · rcases Int.mul_eq_zero.1 z1 with k | k
      · exact k
      · omega
    · exact z2 y hy
theorem neg_fv (M : List En) : neg (fv M) = fv (M.map fun e => ⟨-e.m, e.i, e.v⟩) := by simp [neg, fv]
theorem radon {C : Int → V3 → Prop} {K : V3 → Prop} (hC : ∀ i, Cone (C i)) (hK : Cone K) {I : List Int} {M : List En} (hu : ∀ e ∈ M, ∀ e' ∈ M, e.i = e'.i → e.m = e'.m) (hq : ∀ e ∈ M, 0 < e.v.q) (hk : ∀ e ∈ M, K e.v)
    (hv : ∀ e ∈ M, ∀ j ∈ I, j ≠ e.i → C j e.v) (h0 : tot (fv M) = V3.zero) (hne : ∃ e ∈ M, e.m ≠ 0) : ∃ v, K v ∧ ∀ j ∈ I, C j v := by
  obtain ⟨e0, he0, hm0⟩ := hne
  have pos : ∃ e ∈ M, 0 < e.m := by
    rcases Classical.em (∃ e ∈ M, 0 < e.m) with h | h
    · exact h
    · exact absurd ((tot_q hq (fun e he k => h ⟨e, he, k⟩)).2 (by rw [h0]; rfl) e0 he0) hm0
  have zero' : tot (neg (fv M)) = V3.zero := by
    have a := sp_tot (fv M)
    have b := sp_tot (neg (fv M))
    have nn : neg (neg (fv M)) = fv M := by
      unfold neg
      rw [List.map_map]
      have : ((fun x : Int × V3 => (-x.1, x.2)) ∘ fun x => (-x.1, x.2)) = id := by funext x; simp
      rw [this, List.map_id]
    rw [nn, a, h0] at b
    have b1 := congrArg V3.q b
    have b2 := congrArg V3.p b
    have b3 := congrArg V3.y b
    simp only [V3.add, V3.zero] at b1 b2 b3
    exact V3.ext (by simp only [V3.zero]; omega) (by simp only [V3.zero]; omega) (by simp only [V3.zero]; omega)
  have ng : ∃ e ∈ M, e.m < 0 := by
    rcases Classical.em (∃ e ∈ M, e.m < 0) with h | h
    · exact h
    · exfalso
      rw [neg_fv] at zero'
      have := (tot_q (M := M.map fun e => ⟨-e.m, e.i, e.v⟩) (fun e he => by
        obtain ⟨x, hx, rfl⟩ := List.mem_map.1 he
        exact hq x hx) (fun e he k => by
        obtain ⟨x, hx, rfl⟩ := List.mem_map.1 he
        exact h ⟨x, hx, by simp only at k; omega⟩)).2 (by rw [zero']; rfl) ⟨-e0.m, e0.i, e0.v⟩ (List.mem_map.2 ⟨e0, he0, rfl⟩)
      simp only at this
      omega
  have same : sp (fv M) = sp (neg (fv M)) := by
    have a := sp_tot (fv M)
    rw [h0] at a
    rw [a]
    exact V3.ext (by simp [V3.add, V3.zero]) (by simp [V3.add, V3.zero]) (by simp [V3.add, V3.zero])
  have P : ∃ x ∈ fv M, 0 < x.1 := by
    obtain ⟨e, he, k⟩ := pos
    exact ⟨_, List.mem_map.2 ⟨e, he, rfl⟩, k⟩
  have N : ∃ x ∈ neg (fv M), 0 < x.1 := by
    obtain ⟨e, he, k⟩ := ng
    exact ⟨_, List.mem_map.2 ⟨_, List.mem_map.2 ⟨e, he, rfl⟩, rfl⟩, by simp only; omega⟩
  refine ⟨sp (fv M), sp_in hK P fun x hx _ => ?_, fun j hj => ?_⟩
  · obtain ⟨e, he, rfl⟩ := List.mem_map.1 hx
    exact hk e he
  · rcases Classical.em (∃ e ∈ M, e.i = j ∧ 0 < e.m) with h | h
    · obtain ⟨e, he, ei, em⟩ := h
      rw [same]
      refine sp_in (hC j) N fun x hx k => ?_
      obtain ⟨y, hy, rfl⟩ := List.mem_map.1 hx
      obtain ⟨f, hf, rfl⟩ := List.mem_map.1 hy
      simp only at k ⊢
      refine hv f hf j hj fun c => ?_
      have := hu e he f hf (by rw [ei, c])
      omega
    · refine sp_in (hC j) P fun x hx k => ?_
      obtain ⟨f, hf, rfl⟩ := List.mem_map.1 hx
      simp only at k ⊢
      exact hv f hf j hj fun c => h ⟨f, hf, c.symm, k⟩
theorem helly {C : Int → V3 → Prop} {K : V3 → Prop} (hC : ∀ i, Cone (C i)) (hK : Cone K) (hq : ∀ v, K v → 0 < v.q) {I : List Int} {a b c d : Int} (ab : a ≠ b) (ac : a ≠ c) (ad : a ≠ d) (bc : b ≠ c) (bd : b ≠ d) (cd : c ≠ d)
    (h : ∀ i, i = a ∨ i = b ∨ i = c ∨ i = d → ∃ v, K v ∧ ∀ j ∈ I, j ≠ i → C j v) : ∃ v, K v ∧ ∀ j ∈ I, C j v := by
  obtain ⟨va, ka, ha⟩ := h a (.inl rfl)
  obtain ⟨vb, kb, hb⟩ := h b (.inr (.inl rfl))
  obtain ⟨vc, kc, hc⟩ := h c (.inr (.inr (.inl rfl)))
  obtain ⟨vd, kd, hd⟩ := h d (.inr (.inr (.inr rfl)))
  obtain ⟨m, n, k, j, h0, e1, e2, e3⟩ := dep3 va vb vc vd (hq va ka)
  have mem : ∀ e ∈ ([⟨m, a, va⟩, ⟨n, b, vb⟩, ⟨k, c, vc⟩, ⟨j, d, vd⟩] : List En), e = ⟨m, a, va⟩ ∨ e = ⟨n, b, vb⟩ ∨ e = ⟨k, c, vc⟩ ∨ e = ⟨j, d, vd⟩ := fun e he => by simpa using he
  refine radon (M := [⟨m, a, va⟩, ⟨n, b, vb⟩, ⟨k, c, vc⟩, ⟨j, d, vd⟩]) hC hK ?_ ?_ ?_ ?_ ?_ ?_
  · intro e he e' he' q
    rcases mem e he with rfl | rfl | rfl | rfl <;> rcases mem e' he' with rfl | rfl | rfl | rfl <;> simp only at q ⊢ <;> first | rfl | (exfalso; omega)
  · intro e he
    rcases mem e he with rfl | rfl | rfl | rfl
    · exact hq _ ka
    · exact hq _ kb
    · exact hq _ kc
    · exact hq _ kd
  · intro e he
    rcases mem e he with rfl | rfl | rfl | rfl <;> assumption
  · intro e he
    rcases mem e he with rfl | rfl | rfl | rfl <;> assumption
  · exact V3.ext (by simp [fv, tot, V3.add, V3.mul, V3.zero]; omega) (by simp [fv, tot, V3.add, V3.mul, V3.zero]; omega) (by simp [fv, tot, V3.add, V3.mul, V3.zero]; omega)
  · rcases Classical.em (m = 0) with z | z
    · rcases Classical.em (n = 0) with z1 | z1
      · rcases Classical.em (k = 0) with z2 | z2
        · exact ⟨⟨j, d, vd⟩, by simp, fun e => h0 ⟨z, z1, z2, e⟩⟩
        · exact ⟨⟨k, c, vc⟩, by simp, z2⟩
      · exact ⟨⟨n, b, vb⟩, by simp, z1⟩
    · exact ⟨⟨m, a, va⟩, by simp, z⟩
end Go.Proofs.YtnfndiafabhhdaaGreat
/- Some items can be so exactly if one point (g, e), as a vector (q, p, y), lies in the cones of all of them (Wear). Plain. -/
namespace Go.Proofs.YtnfndiafabhhdaaGreat
def Abv (l : Ln) (v : V3) : Prop := l.k * v.p * l.d + l.n * v.q ≤ v.y * l.d
def Blw (u : Ln) (v : V3) : Prop := v.y * u.d ≤ u.k * v.p * u.d + u.n * v.q
theorem abv_cone (l : Ln) : Cone (Abv l) := by
  constructor
  · intro a b ha hb
    simp only [Abv, V3.add] at ha hb ⊢
    simp only [Int.mul_add, Int.add_mul]
    omega
  · intro m a hm ha
    simp only [Abv, V3.mul] at ha ⊢
    have := Int.mul_le_mul_of_nonneg_left ha (Int.le_of_lt hm)
    rw [Int.mul_add] at this
    have e1 : l.k * (m * a.p) * l.d = m * (l.k * a.p * l.d) := by ac_rfl
    have e2 : l.n * (m * a.q) = m * (l.n * a.q) := by ac_rfl
    have e3 : m * a.y * l.d = m * (a.y * l.d) := by ac_rfl
    omega
theorem blw_cone (u : Ln) : Cone (Blw u) := by
  constructor
  · intro a b ha hb
    simp only [Blw, V3.add] at ha hb ⊢
    simp only [Int.mul_add, Int.add_mul]
    omega
  · intro m a hm ha
    simp only [Blw, V3.mul] at ha ⊢
    have := Int.mul_le_mul_of_nonneg_left ha (Int.le_of_lt hm)
    rw [Int.mul_add] at this
    have e1 : u.k * (m * a.p) * u.d = m * (u.k * a.p * u.d) := by ac_rfl
    have e2 : u.n * (m * a.q) = m * (u.n * a.q) := by ac_rfl
    have e3 : m * a.y * u.d = m * (a.y * u.d) := by ac_rfl
    omega
theorem fit_val {l u : Ln} {p q : Int} (sl : l.s = false) (su : u.s = false) : Fit l u p q ↔ (l.k * p * l.d + l.n * q) * u.d ≤ (u.k * p * u.d + u.n * q) * l.d := by
  unfold Fit
  rw [if_neg (by simp [sl, su])]
  simp only [lnD, lnN, Int.sub_mul, Int.add_mul]
  have e1 : l.k * p * (l.d * u.d) = l.k * p * l.d * u.d := by ac_rfl
  have e2 : u.k * p * (l.d * u.d) = u.k * p * u.d * l.d := by ac_rfl
  have e3 : u.n * l.d * q = u.n * q * l.d := by ac_rfl
  have e4 : l.n * u.d * q = l.n * q * u.d := by ac_rfl
  omega
theorem point_fit {l u : Ln} {v : V3} (hl : 0 < l.d) (hu : 0 < u.d) (sl : l.s = false) (su : u.s = false) (h1 : Abv l v) (h2 : Blw u v) : Fit l u v.p v.q := by
  rw [fit_val sl su]
  have a := Int.mul_le_mul_of_nonneg_right h1 (Int.le_of_lt hu)
  have b := Int.mul_le_mul_of_nonneg_right h2 (Int.le_of_lt hl)
  have e : v.y * l.d * u.d = v.y * u.d * l.d := by ac_rfl
  omega
theorem top_line {p q : Int} : ∀ (A : List Ln), A ≠ [] → (∀ l ∈ A, 0 < l.d ∧ l.s = false) → ∃ t ∈ A, ∀ l ∈ A, Fit l t p q
  | [], h, _ => absurd rfl h
  | [l], _, h => ⟨l, by simp, fun x hx => by
      obtain rfl : x = l := by simpa using hx
      exact fit_self (h x (by simp)).2⟩
  | l :: m :: A, _, h => by
    obtain ⟨t, ht, k⟩ := top_line (m :: A) (by simp) (fun x hx => h x (by simp [hx]))
    have hl := h l (by simp)
    have ht' := h t (by simp only [List.mem_cons] at ht ⊢; exact .inr ht)
    rcases Int.le_total ((l.k * p * l.d + l.n * q) * t.d) ((t.k * p * t.d + t.n * q) * l.d) with c | c
    · refine ⟨t, by simp only [List.mem_cons] at ht ⊢; exact .inr ht, fun x hx => ?_⟩
      rcases List.mem_cons.1 hx with rfl | hx
      · exact (fit_val hl.2 ht'.2).2 c
      · exact k x hx
    · refine ⟨l, by simp, fun x hx => ?_⟩
      rcases List.mem_cons.1 hx with rfl | hx
      · exact fit_self hl.2
      · have hx' := h x (by simp only [List.mem_cons] at hx ⊢; exact .inr hx)
        exact fit_trans hx'.1 ht'.1 hl.1 hx'.2 ht'.2 hl.2 (k x hx) ((fit_val ht'.2 hl.2).2 c)
theorem pairs_point {A B : List Ln} (hA0 : A ≠ []) (hA : ∀ l ∈ A, 0 < l.d ∧ l.s = false) (hB : ∀ u ∈ B, 0 < u.d ∧ u.s = false) {p q : Int} :
    (∀ l ∈ A, ∀ u ∈ B, Fit l u p q) ↔ ∃ t y, 0 < t ∧ (∀ l ∈ A, Abv l ⟨q * t, p * t, y⟩) ∧ ∀ u ∈ B, Blw u ⟨q * t, p * t, y⟩ := by
  constructor
  · intro h
    obtain ⟨t, ht, k⟩ := top_line (p := p) (q := q) A hA0 hA
    have td := (hA t ht).1
    refine ⟨t.d, t.k * p * t.d + t.n * q, td, fun l hl => ?_, fun u hu => ?_⟩
    · have f := (fit_val (hA l hl).2 (hA t ht).2).1 (k l hl)
      simp only [Abv]
      have e1 : l.k * (p * t.d) * l.d + l.n * (q * t.d) = (l.k * p * l.d + l.n * q) * t.d := by rw [Int.add_mul]; congr 1 <;> ac_rfl
      rw [e1]
      exact f
    · have f := (fit_val (hA t ht).2 (hB u hu).2).1 (h t ht u hu)
      simp only [Blw]
      have e1 : u.k * (p * t.d) * u.d + u.n * (q * t.d) = (u.k * p * u.d + u.n * q) * t.d := by rw [Int.add_mul]; congr 1 <;> ac_rfl
      rw [e1]
      exact f
  · rintro ⟨t, y, ht, h1, h2⟩ l hl u hu
    have f := point_fit (hA l hl).1 (hB u hu).1 (hA l hl).2 (hB u hu).2 (h1 l hl) (h2 u hu)
    simp only at f
    rw [fit_val (hA l hl).2 (hB u hu).2] at f ⊢
    have e1 : (l.k * (p * t) * l.d + l.n * (q * t)) * u.d = (l.k * p * l.d + l.n * q) * u.d * t := by simp only [Int.add_mul]; congr 1 <;> ac_rfl
    have e2 : (u.k * (p * t) * u.d + u.n * (q * t)) * l.d = (u.k * p * u.d + u.n * q) * l.d * t := by simp only [Int.add_mul]; congr 1 <;> ac_rfl
    rw [e1, e2] at f
    exact (mul_le_r ht).1 f
end Go.Proofs.YtnfndiafabhhdaaGreat
/- At most three items contradict each other, if none can be left out (Wear). Plain. -/
namespace Go.Proofs.YtnfndiafabhhdaaGreat
def wearC (F : Fl) (p q : Int) : Prop := 1000 * q ≤ p * F.whi ∧ p * F.wlo ≤ 1000 * q
theorem foldR_has {F : Fl} (h : OkF F) {p q : Int} (hq : 0 < q) : ∀ (I : List Int) (r : Rn), RnOk r →
    ((I.foldl (fun r i => if i = -2 then { r with lo := mxR r.lo ⟨1000, F.whi, false⟩, hi := mnR r.hi ⟨1000, F.wlo, false⟩ } else r) r).has p q ↔ r.has p q ∧ (-2 ∈ I → wearC F p q))
  | [], r, _ => by simp
  | i :: I, r, k => by
    have h1 := h.w1
    have h2 := h.w2
    have a : 0 < F.whi := by omega
    have b : 0 < F.wlo := by omega
    rw [List.foldl_cons]
    by_cases hi : i = -2
    · rw [if_pos hi]
      have q2 : RnOk { r with lo := mxR r.lo ⟨1000, F.whi, false⟩, hi := mnR r.hi ⟨1000, F.wlo, false⟩ } := by
        refine ⟨?_, ?_⟩
        · simp only [mxR]
          split
          · exact a
          · split <;> exact k.l
        · simp only [mnR]
          split
          · exact b
          · split <;> exact k.h
      rw [foldR_has h hq I _ q2]
      have e : Rn.has { r with lo := mxR r.lo ⟨1000, F.whi, false⟩, hi := mnR r.hi ⟨1000, F.wlo, false⟩ } p q ↔ r.has p q ∧ wearC F p q := by
        simp only [Rn.has]
        rw [mxR_ge hq k.l a, mnR_le hq k.h b]
        simp only [Bd.ge, Bd.le, Bool.false_eq_true, if_false, wearC]
        exact ⟨fun ⟨u, ⟨v1, v2⟩, w1, w2⟩ => ⟨⟨u, v1, w1⟩, v2, w2⟩, fun ⟨⟨u, v1, w1⟩, v2, w2⟩ => ⟨u, ⟨v1, v2⟩, w1, w2⟩⟩
      rw [e]
      exact ⟨fun ⟨⟨u, v⟩, _⟩ => ⟨u, fun _ => v⟩, fun ⟨u, v⟩ => ⟨⟨u, v (by simp [hi])⟩, fun _ => v (by simp [hi])⟩⟩
    · rw [if_neg hi, foldR_has h hq I _ k]
      have : (-2 ∈ i :: I) ↔ -2 ∈ I := by simp only [List.mem_cons]; exact ⟨fun c => c.resolve_left (fun e => hi e.symm), .inr⟩
      rw [this]
theorem rnR_has {F : Fl} (h : OkF F) (I : List Int) {p q : Int} (hq : 0 < q) : (rnR F I).has p q ↔ (1000 * q ≤ p * 4000 ∧ p ≤ 1000 * q) ∧ (-2 ∈ I → wearC F p q) := by
  unfold rnR
  rw [foldR_has h hq I _ ⟨by decide, by decide⟩]
  simp only [Rn.has, Bd.ge, Bd.le, Bool.false_eq_true, if_false, Int.mul_one, true_and]
def Kc (F : Fl) (v : V3) : Prop := 0 < v.q ∧ (1000 * v.q ≤ v.p * 4000 ∧ v.p ≤ 1000 * v.q) ∧ ∀ x ∈ frameL F, if x.2 = true then Blw x.1 v else Abv x.1 v
def Ci (F : Fl) (i : Int) (v : V3) : Prop := if i = -2 then wearC F v.p v.q else ∀ x ∈ itemL F i, if x.2 = true then Blw x.1 v else Abv x.1 v
theorem all_cone {L : List (Ln × Bool)} : Cone (fun v => ∀ x ∈ L, if x.2 = true then Blw x.1 v else Abv x.1 v) := by
  constructor
  · intro a b ha hb x hx
    have h1 := ha x hx
    have h2 := hb x hx
    cases hs : x.2
    · rw [hs] at h1 h2
      exact (abv_cone x.1).add a b h1 h2
    · rw [hs] at h1 h2
      exact (blw_cone x.1).add a b h1 h2
  · intro m a hm ha x hx
    have h1 := ha x hx
    cases hs : x.2
    · rw [hs] at h1
      exact (abv_cone x.1).mul m a hm h1
    · rw [hs] at h1
      exact (blw_cone x.1).mul m a hm h1
theorem two_cone (a b : Int) : Cone (fun v => 1000 * v.q ≤ v.p * a ∧ v.p * b ≤ 1000 * v.q) := by
  constructor
  · intro u v hu hv
    simp only [V3.add, Int.add_mul, Int.mul_add]
    omega
  · intro m u hm hu
    simp only [V3.mul]
    have k1 := Int.mul_le_mul_of_nonneg_left hu.1 (Int.le_of_lt hm)
    have k2 := Int.mul_le_mul_of_nonneg_left hu.2 (Int.le_of_lt hm)
    have e1 : 1000 * (m * u.q) = m * (1000 * u.q) := by ac_rfl
    have e2 : m * u.p * a = m * (u.p * a) := by ac_rfl
    have e3 : m * u.p * b = m * (u.p * b) := by ac_rfl
    omega
theorem ci_cone (F : Fl) (i : Int) : Cone (Ci F i) := by
  unfold Ci
  by_cases h : i = -2
  · simp only [h, if_true]
    exact two_cone _ _
  · simp only [h, if_false]
    exact all_cone
theorem kc_cone (F : Fl) : Cone (Kc F) := by
  have c1 := all_cone (L := frameL F)
  have c2 := two_cone 4000 1
  constructor
  · intro a b ha hb
    have := c2.add a b (by simpa only [Int.mul_one] using ha.2.1) (by simpa only [Int.mul_one] using hb.2.1)
    simp only [Int.mul_one] at this
    exact ⟨by have := ha.1; have := hb.1; simp only [V3.add]; omega, this, c1.add a b ha.2.2 hb.2.2⟩
  · intro m a hm ha
    have := c2.mul m a hm (by simpa only [Int.mul_one] using ha.2.1)
    simp only [Int.mul_one] at this
    exact ⟨Int.mul_pos hm ha.1, this, c1.mul m a hm ha.2.2⟩
theorem lines_soft {F : Fl} {I : List Int} : ∀ x ∈ linesL F I, x.1.s = false := by
  intro x hx
  unfold linesL at hx
  rcases List.mem_append.1 hx with hx | hx
  · simp only [frameL, List.mem_cons, List.not_mem_nil, or_false] at hx
    rcases hx with rfl | rfl <;> rfl
  · obtain ⟨i, hi, hx⟩ := List.mem_flatMap.1 hx
    split at hx
    · cases hx
    · unfold itemL at hx
      split at hx
      · simp only [List.mem_cons, List.not_mem_nil, or_false] at hx
        rcases hx with rfl | rfl <;> rfl
      · simp only [List.mem_cons] at hx
        rcases hx with rfl | hx
        · rfl
        · split at hx
          · simp only [List.mem_cons, List.not_mem_nil, or_false] at hx
            subst hx
            rfl
          · cases hx
theorem mem_lows {L : List (Ln × Bool)} {l : Ln} : l ∈ lows L ↔ (l, false) ∈ L := by
  unfold lows
  rw [List.mem_map]
  constructor
  · rintro ⟨x, hx, rfl⟩
    obtain ⟨h1, h2⟩ := List.mem_filter.1 hx
    have : x.2 = false := by simpa using h2
    rw [← this]
    exact h1
  · intro h
    exact ⟨_, List.mem_filter.2 ⟨h, rfl⟩, rfl⟩
theorem mem_ups {L : List (Ln × Bool)} {l : Ln} : l ∈ ups L ↔ (l, true) ∈ L := by
  unfold ups
  rw [List.mem_map]
  constructor
  · rintro ⟨x, hx, rfl⟩
    obtain ⟨h1, h2⟩ := List.mem_filter.1 hx
    have : x.2 = true := by simpa using h2
    rw [← this]
    exact h1
  · intro h
    exact ⟨_, List.mem_filter.2 ⟨h, rfl⟩, rfl⟩
theorem lines_point {F : Fl} {I : List Int} {v : V3} : ((∀ l ∈ lows (linesL F I), Abv l v) ∧ ∀ u ∈ ups (linesL F I), Blw u v) ↔ (∀ x ∈ frameL F, if x.2 = true then Blw x.1 v else Abv x.1 v) ∧ ∀ i ∈ I, i ≠ -2 → ∀ x ∈ itemL F i, if x.2 = true then Blw x.1 v else Abv x.1 v := by
  have key : ((∀ l ∈ lows (linesL F I), Abv l v) ∧ ∀ u ∈ ups (linesL F I), Blw u v) ↔ ∀ x ∈ linesL F I, if x.2 = true then Blw x.1 v else Abv x.1 v := by
    constructor
    · rintro ⟨h1, h2⟩ ⟨l, b⟩ hx
      cases b
      · exact h1 l (mem_lows.2 hx)
      · exact h2 l (mem_ups.2 hx)
    · intro h
      exact ⟨fun l hl => h _ (mem_lows.1 hl), fun u hu => h _ (mem_ups.1 hu)⟩
  rw [key]
  unfold linesL
  constructor
  · intro h
    refine ⟨fun x hx => h x (List.mem_append.2 (.inl hx)), fun i hi h2 x hx => h x (List.mem_append.2 (.inr (List.mem_flatMap.2 ⟨i, hi, ?_⟩)))⟩
    rw [if_neg h2]
    exact hx
  · rintro ⟨h1, h2⟩ x hx
    rcases List.mem_append.1 hx with hx | hx
    · exact h1 x hx
    · obtain ⟨i, hi, hx⟩ := List.mem_flatMap.1 hx
      by_cases c : i = -2
      · rw [if_pos c] at hx; cases hx
      · rw [if_neg c] at hx
        exact h2 i hi c x hx
theorem canI_point {F : Fl} (h : OkF F) {I : List Int} (hI : ∀ i ∈ I, i < F.s.length) : canI F I = true ↔ ∃ v, Kc F v ∧ ∀ i ∈ I, Ci F i v := by
  have L := lines_pos h hI
  have A : ∀ l ∈ lows (linesL F I), 0 < l.d ∧ l.s = false := fun l hl => ⟨L _ (mem_lows.1 hl), lines_soft _ (mem_lows.1 hl)⟩
  have B : ∀ l ∈ ups (linesL F I), 0 < l.d ∧ l.s = false := fun l hl => ⟨L _ (mem_ups.1 hl), lines_soft _ (mem_ups.1 hl)⟩
  have A0 : lows (linesL F I) ≠ [] := fun e => by
    have : (⟨0, 0, 1, false⟩ : Ln) ∈ lows (linesL F I) := mem_lows.2 (List.mem_append.2 (.inl (by simp [frameL])))
    rw [e] at this
    cases this
  rw [canI_iff h hI]
  constructor
  · rintro ⟨p, q, hq, hp, k1, k2⟩
    obtain ⟨t, y, ht, a, b⟩ := (pairs_point A0 A B).1 k2
    obtain ⟨f1, f2⟩ := (rnR_has h I hq).1 k1
    obtain ⟨g1, g2⟩ := lines_point.1 ⟨a, b⟩
    have sc : ∀ {x z : Int}, x ≤ z → x * t ≤ z * t := fun c => Int.mul_le_mul_of_nonneg_right c (Int.le_of_lt ht)
    refine ⟨⟨q * t, p * t, y⟩, ⟨Int.mul_pos hq ht, ?_, g1⟩, fun i hi => ?_⟩
    · have c1 := sc f1.1
      have c2 := sc f1.2
      have e1 : 1000 * q * t = 1000 * (q * t) := by ac_rfl
      have e2 : p * 4000 * t = p * t * 4000 := by ac_rfl
      simp only
      omega
    · unfold Ci
      by_cases c : i = -2
      · rw [if_pos c]
        obtain ⟨w1, w2⟩ := f2 (c ▸ hi)
        have c1 := sc w1
        have c2 := sc w2
        have e1 : 1000 * q * t = 1000 * (q * t) := by ac_rfl
        have e2 : p * F.whi * t = p * t * F.whi := by ac_rfl
        have e3 : p * F.wlo * t = p * t * F.wlo := by ac_rfl
        simp only [wearC]
        omega
      · rw [if_neg c]
        exact g2 i hi c
  · rintro ⟨v, ⟨hq, f1, g1⟩, k⟩
    have hp : 0 < v.p := by omega
    refine ⟨v.p, v.q, hq, hp, (rnR_has h I hq).2 ⟨f1, fun c => ?_⟩, (pairs_point A0 A B).2 ⟨1, v.y, by decide, ?_⟩⟩
    · have := k _ c
      unfold Ci at this
      rwa [if_pos rfl] at this
    · simp only [Int.mul_one]
      exact lines_point.2 ⟨g1, fun i hi c => by
        have := k i hi
        unfold Ci at this
        rwa [if_neg c] at this⟩
theorem three {F : Fl} (h : OkF F) {I : List Int} (hI : ∀ i ∈ I, i < F.s.length) (nd : I.Nodup) (hno : canI F I = false) (hmin : ∀ i ∈ I, ∃ J : List Int, (∀ j ∈ J, j < F.s.length) ∧ (∀ j ∈ I, j ≠ i → j ∈ J) ∧ canI F J = true) : I.length ≤ 3 := by
  rcases Nat.lt_or_ge 3 I.length with k | k
  · exfalso
    have ne : ∀ a b : Nat, (ha : a < I.length) → (hb : b < I.length) → a < b → I[a] ≠ I[b] := fun a b ha hb hab => (List.pairwise_iff_getElem.1 nd) a b ha hb hab
    have := helly (C := Ci F) (K := Kc F) (fun i => ci_cone F i) (kc_cone F) (fun v hv => hv.1) (I := I) (a := I[0]) (b := I[1]) (c := I[2]) (d := I[3])
      (ne 0 1 (by omega) (by omega) (by decide)) (ne 0 2 (by omega) (by omega) (by decide)) (ne 0 3 (by omega) (by omega) (by decide)) (ne 1 2 (by omega) (by omega) (by decide)) (ne 1 3 (by omega) (by omega) (by decide)) (ne 2 3 (by omega) (by omega) (by decide))
      (fun i hi => by
        have mem : i ∈ I := by rcases hi with rfl | rfl | rfl | rfl <;> exact List.getElem_mem _
        obtain ⟨J, hJ, hs, hc⟩ := hmin i mem
        obtain ⟨v, kv, cv⟩ := (canI_point h hJ).1 hc
        exact ⟨v, kv, fun j hj hji => cv j (hs j hj hji)⟩)
    rw [← canI_point h hI, hno] at this
    cases this
  · exact k
end Go.Proofs.YtnfndiafabhhdaaGreat
/- A case: CheckCase of both sides at one wear (Wear). Plain. -/
namespace Go.Proofs.YtnfndiafabhhdaaGreat
theorem scale_le {a b q q' : Int} (hq : 0 < q) (hq' : 0 < q') (f : Int → Int → Int) (hf : ∀ x, f x q' * q = f x q * q') : f a q ≤ f b q ↔ f a q' ≤ f b q' := by
  rw [← mul_le_r hq', ← hf a, ← hf b, mul_le_r hq]
theorem fit_scale {l u : Ln} {p q p' q' : Int} (hq : 0 < q) (hq' : 0 < q') (e : p * q' = p' * q) : Fit l u p q ↔ Fit l u p' q' := by
  unfold Fit
  have e1 : (l.k - u.k) * p * lnD l u * q' = (l.k - u.k) * p' * lnD l u * q := by
    rw [show (l.k - u.k) * p * lnD l u * q' = (l.k - u.k) * lnD l u * (p * q') by ac_rfl, e]; ac_rfl
  have e2 : lnN l u * q * q' = lnN l u * q' * q := by ac_rfl
  have le : (l.k - u.k) * p * lnD l u ≤ lnN l u * q ↔ (l.k - u.k) * p' * lnD l u ≤ lnN l u * q' := by
    rw [← mul_le_r hq', e1, e2, mul_le_r hq]
  have lt : (l.k - u.k) * p * lnD l u < lnN l u * q ↔ (l.k - u.k) * p' * lnD l u < lnN l u * q' := by
    rw [← mul_lt_r hq', e1, e2, mul_lt_r hq]
  split
  · exact lt
  · exact le
theorem lin_scale {a b p q p' q' : Int} (hq : 0 < q) (hq' : 0 < q') (e : p * q' = p' * q) : (a * q ≤ p * b ↔ a * q' ≤ p' * b) ∧ (p * b ≤ a * q ↔ p' * b ≤ a * q') := by
  have e1 : p * b * q' = p' * b * q := by rw [show p * b * q' = p * q' * b by ac_rfl, e]; ac_rfl
  have e2 : a * q * q' = a * q' * q := by ac_rfl
  exact ⟨by rw [← mul_le_r hq', e1, e2, mul_le_r hq], by rw [← mul_le_r hq', e1, e2, mul_le_r hq]⟩
def knownL (F : Fl) (b : Int) : Ln := if b = -1 then lnT F.v 0 (endA F.f) false else lnT F.v (sn F b).lo (endA (sn F b).k) false
def CaseOk (F : Fl) (I : List Int) (N D b : Int) : Prop := (F.wlo * D ≤ N ∧ N ≤ F.whi * D) ∧ (∀ l ∈ lows (linesL F I), Fit l (knownL F b) (1000 * D) N) ∧ ∀ u ∈ ups (linesL F I), Fit (knownL F b) u (1000 * D) N
def caseR (F : Fl) (I : List Int) (N D b : Int) : Rn :=
  { leftR (rnR F I) (linesL F I ++ [(knownL F b, false), (knownL F b, true)]) with
    lo := mxR (leftR (rnR F I) (linesL F I ++ [(knownL F b, false), (knownL F b, true)])).lo ⟨1000 * D, N, false⟩
    hi := mnR (leftR (rnR F I) (linesL F I ++ [(knownL F b, false), (knownL F b, true)])).hi ⟨1000 * D, N, false⟩ }
theorem known_pos {F : Fl} (h : OkF F) {b : Int} : 0 < (knownL F b).d ∧ (knownL F b).s = false := by
  have hv := h.v
  have H : 0 ≤ hgt F.v := by
    simp only [okVs, Bool.and_eq_true, decide_eq_true_eq] at hv
    have := (vXY_bd hv.2 F.v.length (Nat.le_refl _)).1
    unfold hgt
    omega
  have T : ∀ k x, 0 ≤ x → x ≤ hgt F.v → 0 < (lnT F.v k x false).d := fun k x a b => (tm_bd h.v a b).2.1
  unfold knownL
  split
  · have e := end_in h.f
    exact ⟨T _ _ e.1.1 (by omega), rfl⟩
  · have ks : okLk (hgt F.v) (sn F b).k = true := by
      rcases Nat.lt_or_ge b.toNat F.s.length with hk | hk
      · have := h.s _ (List.getElem_mem hk)
        simp only [okSn, Bool.and_eq_true] at this
        unfold sn
        rw [List.getElem?_eq_getElem hk]
        exact this.2
      · unfold sn
        rw [List.getElem?_eq_none hk]
        simp [okLk, H]
    have e := end_in ks
    exact ⟨T _ _ e.1.1 (by omega), rfl⟩
theorem caseR_iff {F : Fl} (h : OkF F) {I : List Int} (hI : ∀ i ∈ I, i < F.s.length) (h2 : -2 ∈ I) {N D b : Int} (hN : 0 < N) (hD : 0 < D) : (caseR F I N D b).some = true ↔ CaseOk F I N D b := by
  obtain ⟨_, _, c, _⟩ := rn_same h I
  obtain ⟨kd, ks⟩ := known_pos h (b := b)
  have L := lines_pos h hI
  have L2 : ∀ y ∈ linesL F I ++ [(knownL F b, false), (knownL F b, true)], 0 < y.1.d := fun y hy => by
    rcases List.mem_append.1 hy with k | k
    · exact L y k
    · simp only [List.mem_cons, List.not_mem_nil, or_false] at k
      rcases k with rfl | rfl <;> exact kd
  obtain ⟨m1, m2⟩ := allR (ups_pos L2) _ (rnR F I) (lows_pos L2) c
  rw [← leftR_eq] at m1 m2
  have ok : RnOk (caseR F I N D b) := by
    refine ⟨?_, ?_⟩
    · show 0 < (mxR _ _).d
      simp only [mxR]
      split
      · exact hN
      · split <;> exact m1.l
    · show 0 < (mnR _ _).d
      simp only [mnR]
      split
      · exact hN
      · split <;> exact m1.h
  have eA : lows (linesL F I ++ [(knownL F b, false), (knownL F b, true)]) = lows (linesL F I) ++ [knownL F b] := by rw [lows_app]; rfl
  have eB : ups (linesL F I ++ [(knownL F b, false), (knownL F b, true)]) = ups (linesL F I) ++ [knownL F b] := by rw [ups_app]; rfl
  have A : ∀ l ∈ lows (linesL F I), 0 < l.d ∧ l.s = false := fun l hl => ⟨L _ (mem_lows.1 hl), lines_soft _ (mem_lows.1 hl)⟩
  have B : ∀ l ∈ ups (linesL F I), 0 < l.d ∧ l.s = false := fun l hl => ⟨L _ (mem_ups.1 hl), lines_soft _ (mem_ups.1 hl)⟩
  have has : ∀ p q, 0 < q → ((caseR F I N D b).has p q ↔ (leftR (rnR F I) (linesL F I ++ [(knownL F b, false), (knownL F b, true)])).has p q ∧ 1000 * D * q = p * N) := fun p q hq => by
    simp only [caseR, Rn.has]
    rw [mxR_ge hq m1.l hN, mnR_le hq m1.h hN]
    simp only [Bd.ge, Bd.le, Bool.false_eq_true, if_false]
    constructor
    · rintro ⟨u, ⟨v1, v2⟩, w1, w2⟩
      exact ⟨⟨u, v1, w1⟩, by omega⟩
    · rintro ⟨⟨u, v1, w1⟩, z⟩
      exact ⟨u, ⟨v1, by omega⟩, w1, by omega⟩
  have q0 : 0 < 1000 * D := by omega
  rw [Rn.some_iff ok]
  constructor
  · rintro ⟨p, q, hq, k⟩
    obtain ⟨k1, k2⟩ := (has p q hq).1 k
    obtain ⟨k3, k4⟩ := (m2 p q hq).1 k1
    have e : p * N = 1000 * D * q := k2.symm
    obtain ⟨f1, f2⟩ := (rnR_has h I hq).1 k3
    obtain ⟨w1, w2⟩ := f2 h2
    rw [eA, eB, case_iff A B ⟨kd, ks⟩] at k4
    have s1 := (lin_scale (a := 1000) (b := F.whi) hq hN e).1.1 w1
    have s2 := (lin_scale (a := 1000) (b := F.wlo) hq hN e).2.1 w2
    have t1 : 1000 * D * F.whi = 1000 * (F.whi * D) := by ac_rfl
    have t2 : 1000 * D * F.wlo = 1000 * (F.wlo * D) := by ac_rfl
    exact ⟨⟨by omega, by omega⟩, fun l hl => (fit_scale hq hN e).1 (k4.1 l hl), fun u hu => (fit_scale hq hN e).1 (k4.2 u hu)⟩
  · rintro ⟨⟨w1, w2⟩, k1, k2⟩
    have t1 : 1000 * D * F.whi = 1000 * (F.whi * D) := by ac_rfl
    have t2 : 1000 * D * F.wlo = 1000 * (F.wlo * D) := by ac_rfl
    have a1 := Int.mul_le_mul_of_nonneg_right h.w3 (Int.le_of_lt hD)
    have a2 := Int.mul_le_mul_of_nonneg_right h.w1 (Int.le_of_lt hD)
    refine ⟨1000 * D, N, hN, (has _ _ hN).2 ⟨(m2 _ _ hN).2 ⟨(rnR_has h I hN).2 ⟨⟨by omega, by omega⟩, fun _ => ⟨by omega, by omega⟩⟩, ?_⟩, rfl⟩⟩
    rw [eA, eB, case_iff A B ⟨kd, ks⟩]
    exact ⟨k1, k2⟩
theorem lows_known {F : Fl} {I : List Int} {l : Ln} (hl : l ∈ lows (linesL F I)) : l = ⟨0, 0, 1, false⟩ ∨ ∃ b ∈ I, b ≠ -2 ∧ l = knownL F b := by
  have hm := mem_lows.1 hl
  unfold linesL at hm
  rcases List.mem_append.1 hm with hx | hx
  · simp only [frameL, List.mem_cons, List.not_mem_nil, or_false] at hx
    rcases hx with hx | hx
    · exact .inl (congrArg Prod.fst hx)
    · exact absurd (congrArg Prod.snd hx) (by simp)
  · obtain ⟨i, hi, hx⟩ := List.mem_flatMap.1 hx
    by_cases c : i = -2
    · rw [if_pos c] at hx; cases hx
    · rw [if_neg c] at hx
      refine .inr ⟨i, hi, c, ?_⟩
      unfold itemL at hx
      unfold knownL
      split at hx
      · rename_i c1
        rw [if_pos c1]
        simp only [List.mem_cons, List.not_mem_nil, or_false] at hx
        rcases hx with hx | hx
        · exact congrArg Prod.fst hx
        · exact absurd (congrArg Prod.snd hx) (by simp)
      · rename_i c1
        rw [if_neg c1]
        simp only [List.mem_cons] at hx
        rcases hx with hx | hx
        · exact absurd (congrArg Prod.snd hx) (by simp)
        · split at hx
          · simp only [List.mem_cons, List.not_mem_nil, or_false] at hx
            exact congrArg Prod.fst hx
          · cases hx
theorem zero_known {F : Fl} (h : OkF F) {p q : Int} (hq : 0 < q) : Fit ⟨0, 0, 1, false⟩ (knownL F (-1)) p q := by
  have e := end_in h.f
  have t := (tm_bd h.v (x := endA F.f) e.1.1 (by unfold hgt at e; omega)).1.1
  unfold Fit knownL
  rw [if_pos rfl]
  simp only [lnT, lnN, lnD, Bool.or_self, Bool.false_eq_true, if_false]
  have := Int.mul_nonneg t (Int.le_of_lt hq)
  simp only [Int.sub_self, Int.zero_mul, Int.mul_one, Int.sub_zero]
  exact this
theorem some_known {F : Fl} (h : OkF F) {I : List Int} (hI : ∀ i ∈ I, i < F.s.length) (h1 : -1 ∈ I) {p q : Int} (hq : 0 < q) (hf : ∀ l ∈ lows (linesL F I), ∀ u ∈ ups (linesL F I), Fit l u p q) :
    ∃ b ∈ I, b ≠ -2 ∧ (∀ l ∈ lows (linesL F I), Fit l (knownL F b) p q) ∧ ∀ u ∈ ups (linesL F I), Fit (knownL F b) u p q := by
  have L := lines_pos h hI
  have A : ∀ l ∈ lows (linesL F I), 0 < l.d ∧ l.s = false := fun l hl => ⟨L _ (mem_lows.1 hl), lines_soft _ (mem_lows.1 hl)⟩
  have A0 : lows (linesL F I) ≠ [] := fun e => by
    have : (⟨0, 0, 1, false⟩ : Ln) ∈ lows (linesL F I) := mem_lows.2 (List.mem_append.2 (.inl (by simp [frameL])))
    rw [e] at this
    cases this
  have k1 : knownL F (-1) ∈ lows (linesL F I) := mem_lows.2 (List.mem_append.2 (.inr (List.mem_flatMap.2 ⟨-1, h1, by
    rw [if_neg (by decide)]
    unfold itemL knownL
    rw [if_pos rfl, if_pos rfl]
    simp⟩)))
  obtain ⟨t, ht, k⟩ := top_line (p := p) (q := q) _ A0 A
  rcases lows_known ht with rfl | ⟨b, hb, b2, rfl⟩
  · refine ⟨-1, h1, by decide, fun l hl => ?_, fun u hu => hf _ k1 u hu⟩
    exact fit_trans (A l hl).1 (by decide) (known_pos h).1 (A l hl).2 rfl (known_pos h).2 (k l hl) (zero_known h hq)
  · exact ⟨b, hb, b2, k, fun u hu => hf _ ht u hu⟩
end Go.Proofs.YtnfndiafabhhdaaGreat
/- Where no line is strict no end is; a wear within bounds (Wear). Plain. -/
namespace Go.Proofs.YtnfndiafabhhdaaGreat
theorem pairW_soft {r : Rn} {l u : Ln} (h : r.lo.s = false ∧ r.hi.s = false) (sl : l.s = false) (su : u.s = false) : (pairW r l u).lo.s = false ∧ (pairW r l u).hi.s = false := by
  unfold pairW
  split
  · exact h
  · split
    · exact h
    · split
      · refine ⟨h.1, ?_⟩
        simp only [mnW]
        split
        · simp [sl, su]
        · exact h.2
      · split
        · refine ⟨?_, h.2⟩
          simp only [mxW]
          split
          · simp [sl, su]
          · exact h.1
        · exact h
theorem allW_soft {B : List Ln} (hB : ∀ u ∈ B, u.s = false) : ∀ (A : List Ln) (r : Rn), (∀ l ∈ A, l.s = false) → r.lo.s = false ∧ r.hi.s = false → (allP pairW r A B).lo.s = false ∧ (allP pairW r A B).hi.s = false
  | [], _, _, h => h
  | l :: A, r, hA, h => by
    have inner : ∀ (C : List Ln) (r : Rn), (∀ u ∈ C, u.s = false) → r.lo.s = false ∧ r.hi.s = false → (C.foldl (fun r u => pairW r l u) r).lo.s = false ∧ (C.foldl (fun r u => pairW r l u) r).hi.s = false := by
      intro C
      induction C with
      | nil => intro r _ h; exact h
      | cons u C ih => intro r hC h; exact ih _ (fun x hx => hC x (by simp [hx])) (pairW_soft h (hA l (by simp)) (hC u (by simp)))
    exact allW_soft hB A _ (fun x hx => hA x (by simp [hx])) (inner B r hB h)
theorem rnW_soft {F : Fl} : ∀ (I : List Int) (r : Rn), r.lo.s = false ∧ r.hi.s = false → (I.foldl (fun r i => if i = -2 then { r with lo := mxW r.lo ⟨1000, F.whi, false⟩, hi := mnW r.hi ⟨1000, F.wlo, false⟩ } else r) r).lo.s = false ∧ (I.foldl (fun r i => if i = -2 then { r with lo := mxW r.lo ⟨1000, F.whi, false⟩, hi := mnW r.hi ⟨1000, F.wlo, false⟩ } else r) r).hi.s = false
  | [], _, h => h
  | i :: I, r, h => by
    rw [List.foldl_cons]
    split
    · refine rnW_soft I _ ⟨?_, ?_⟩
      · simp only [mxW]
        split
        · rfl
        · exact h.1
      · simp only [mnW]
        split
        · rfl
        · exact h.2
    · exact rnW_soft I _ h
theorem solved_soft {F : Fl} (I : List Int) : (solvedW F I).lo.s = false ∧ (solvedW F I).hi.s = false := by
  refine allW_soft (fun u hu => lines_soft _ (mem_ups.1 hu)) _ _ (fun l hl => lines_soft _ (mem_lows.1 hl)) ?_
  exact rnW_soft I _ ⟨rfl, rfl⟩
theorem solved_has {F : Fl} (h : OkF F) {I : List Int} (hI : ∀ i ∈ I, i < F.s.length) {p q : Int} (hq : 0 < q) :
    (solvedW F I).has p q ↔ ((1000 * q ≤ p * 4000 ∧ p ≤ 1000 * q) ∧ (-2 ∈ I → wearC F p q)) ∧ ∀ l ∈ lows (linesL F I), ∀ u ∈ ups (linesL F I), Fit l u p q := by
  obtain ⟨_, _, c, _⟩ := rn_same h I
  have L := lines_pos h hI
  rw [(solved_same h hI).2.2.2 p q hq, ← rnR_has h I hq]
  unfold solvedR
  rw [leftR_eq]
  exact (allR (ups_pos L) _ _ (lows_pos L) c).2 p q hq
theorem wear_in {F : Fl} {I : List Int} (hs : canI F I = true) {n : Int} :
    (solvedW F I).has 1000 n ↔ 1000 * (solvedW F I).hi.d ≤ n * (solvedW F I).hi.n ∧ n * (solvedW F I).lo.n ≤ 1000 * (solvedW F I).lo.d := by
  obtain ⟨s1, s2⟩ := solved_soft (F := F) I
  have e := (some_parts hs).1
  unfold Rn.has Bd.ge Bd.le
  rw [s1, s2, e]
  simp only [Bool.false_eq_true, if_false, true_and]
  rw [Int.mul_comm n, Int.mul_comm n]
  exact And.comm
end Go.Proofs.YtnfndiafabhhdaaGreat
/- The reference's comparison of ratios (no product is worked out) is the sign of the cross products (Wear). Plain. -/
namespace Go.Proofs.YtnfndiafabhhdaaGreat
def sgn (x : Int) : Int := if x < 0 then -1 else if 0 < x then 1 else 0
def ordE : Nat → Int → Int → Int → Int → Int
  | 0, _, _, _, _ => 0
  | f + 1, an, ad, bn, bd =>
    if an / ad < bn / bd then -1 else if bn / bd < an / ad then 1
    else if an % ad = 0 ∧ bn % bd = 0 then 0 else if an % ad = 0 then -1 else if bn % bd = 0 then 1 else ordE f bd (bn % bd) ad (an % ad)
theorem below_of {an ad bn bd : Int} (ha : 0 < ad) (hb : 0 < bd) (h : an / ad < bn / bd) : an * bd < bn * ad := by
  have a := Int.lt_mul_ediv_self_add (x := an) (k := ad) ha
  have b := Int.mul_ediv_self_le (x := bn) (k := bd) (by omega)
  have c : ad * (an / ad) + ad ≤ ad * (bn / bd) := by
    have := Int.mul_le_mul_of_nonneg_left (show an / ad + 1 ≤ bn / bd by omega) (Int.le_of_lt ha)
    rw [Int.mul_add, Int.mul_one] at this
    exact this
  have d : an < ad * (bn / bd) := by omega
  have e1 := Int.mul_lt_mul_of_pos_right d hb
  have e2 := Int.mul_le_mul_of_nonneg_right b (Int.le_of_lt ha)
  have e3 : ad * (bn / bd) * bd = bd * (bn / bd) * ad := by ac_rfl
  omega
theorem ordE_eq : ∀ (f : Nat) (an ad bn bd : Int), 0 ≤ an → 0 < ad → 0 ≤ bn → 0 < bd → (ad + bd).toNat ≤ f → ordE f an ad bn bd = sgn (an * bd - bn * ad)
  | 0, an, ad, bn, bd, _, ha, _, hb, hf => by omega
  | f + 1, an, ad, bn, bd, h1, ha, h2, hb, hf => by
    have m0 := Int.emod_nonneg an (show ad ≠ 0 by omega)
    have m1 := Int.emod_lt_of_pos an ha
    have n0 := Int.emod_nonneg bn (show bd ≠ 0 by omega)
    have n1 := Int.emod_lt_of_pos bn hb
    unfold ordE
    split
    · rename_i h
      have := below_of ha hb h
      unfold sgn
      rw [if_pos (by omega)]
    · split
      · rename_i _ h
        have := below_of hb ha h
        unfold sgn
        rw [if_neg (by omega), if_pos (by omega)]
      · rename_i c1 c2
        have ep : an / ad = bn / bd := by omega
        have e1 := Int.mul_ediv_add_emod an ad
        have e2 := Int.mul_ediv_add_emod bn bd
        rw [ep] at e1
        have key : an * bd - bn * ad = bd * (an % ad) - ad * (bn % bd) := by
          generalize bn / bd = x at *
          generalize an % ad = m at *
          generalize bn % bd = n at *
          subst e1 e2
          simp only [Int.add_mul]
          have k1 : ad * x * bd = bd * x * ad := by ac_rfl
          have k2 : m * bd = bd * m := by ac_rfl
          have k3 : n * ad = ad * n := by ac_rfl
          omega
        rw [key]
        split
        · rename_i h
          rw [h.1, h.2, Int.mul_zero, Int.mul_zero]
          rfl
        · rename_i h
          split
          · rename_i hm
            have : 0 < bn % bd := by omega
            have := Int.mul_pos ha this
            rw [hm, Int.mul_zero]
            unfold sgn
            rw [if_pos (by omega)]
          · rename_i hm
            split
            · rename_i hn
              have := Int.mul_pos hb (show 0 < an % ad by omega)
              rw [hn, Int.mul_zero]
              unfold sgn
              rw [if_neg (by omega), if_pos (by omega)]
            · exact ordE_eq f bd (bn % bd) ad (an % ad) (by omega) (by omega) (by omega) (by omega) (by omega)
def ordS (an ad bn bd : Int) : Int :=
  if an < 0 ∧ bn < 0 then ordE (ad + bd).toNat (-bn) bd (-an) ad
  else if an < 0 then -1 else if bn < 0 then 1 else ordE (ad + bd).toNat an ad bn bd
theorem ordS_eq {an ad bn bd : Int} (ha : 0 < ad) (hb : 0 < bd) : ordS an ad bn bd = sgn (an * bd - bn * ad) := by
  unfold ordS
  split
  · rename_i h
    rw [ordE_eq _ _ _ _ _ (by omega) hb (by omega) ha (by omega), Int.neg_mul, Int.neg_mul]
    congr 1
    omega
  · rename_i h
    split
    · rename_i h1
      have a : an * bd < 0 := Int.mul_neg_of_neg_of_pos h1 hb
      have b : 0 ≤ bn * ad := Int.mul_nonneg (by omega) (Int.le_of_lt ha)
      unfold sgn
      rw [if_pos (by omega)]
    · split
      · rename_i h1 h2
        have a : bn * ad < 0 := Int.mul_neg_of_neg_of_pos h2 ha
        have b : 0 ≤ an * bd := Int.mul_nonneg (by omega) (Int.le_of_lt hb)
        unfold sgn
        rw [if_neg (by omega), if_pos (by omega)]
      · exact ordE_eq _ _ _ _ _ (by omega) ha (by omega) hb (by omega)
theorem sgn_lt (x : Int) : sgn x < 0 ↔ x < 0 := by unfold sgn; split <;> (try split) <;> omega
theorem sgn_gt (x : Int) : 0 < sgn x ↔ 0 < x := by unfold sgn; split <;> (try split) <;> omega
theorem sgn_eq (x : Int) : sgn x = 0 ↔ x = 0 := by unfold sgn; split <;> (try split) <;> omega
theorem sgn_bd (x : Int) : -1 ≤ sgn x ∧ sgn x ≤ 1 := by unfold sgn; split <;> (try split) <;> omega
end Go.Proofs.YtnfndiafabhhdaaGreat
/- Division of two digits by a normalised divisor of two digits, as bits.Div64 works it out digit by digit (Wear). Plain. -/
namespace Go.Proofs.YtnfndiafabhhdaaGreat
structure DvH (U c a b : Int) : Prop where
  a0 : 2147483648 ≤ a
  a1 : a < 4294967296
  b0 : 0 ≤ b
  b1 : b < 4294967296
  u0 : 0 ≤ U
  u1 : U < a * 4294967296 + b
  c0 : 0 ≤ c
  c1 : c < 4294967296
def dvQ (U c a b : Int) : Int := (U * 4294967296 + c) / (a * 4294967296 + b)
theorem DvH.y0 {U c a b : Int} (h : DvH U c a b) : 0 < a * 4294967296 + b := by
  obtain ⟨_, _, _, _, _, _, _, _⟩ := h; omega
theorem dvQ_bd {U c a b : Int} (h : DvH U c a b) : 0 ≤ dvQ U c a b ∧ dvQ U c a b < 4294967296 := by
  have hy := h.y0
  obtain ⟨a0, a1, b0, b1, u0, u1, c0, c1⟩ := h
  unfold dvQ
  refine ⟨Int.ediv_nonneg (by omega) (Int.le_of_lt hy), Int.ediv_lt_of_lt_mul hy ?_⟩
  omega
theorem dvQ_le {U c a b : Int} (h : DvH U c a b) : dvQ U c a b * (a * 4294967296 + b) ≤ U * 4294967296 + c := Int.ediv_mul_le _ (by have := h.y0; omega)
theorem dvQ_gt {U c a b q : Int} (h : DvH U c a b) (hq : U * 4294967296 + c < q * (a * 4294967296 + b)) : dvQ U c a b < q := Int.ediv_lt_of_lt_mul h.y0 hq
theorem dvQ_ge {U c a b q : Int} (h : DvH U c a b) (hq : q * (a * 4294967296 + b) ≤ U * 4294967296 + c) : q ≤ dvQ U c a b := (Int.le_ediv_iff_mul_le h.y0).2 hq
theorem dv_mul (q a b : Int) : q * (a * 4294967296 + b) = q * a * 4294967296 + q * b := by rw [Int.mul_add, Int.mul_assoc]
theorem dv_start {U c a b : Int} (h : DvH U c a b) : dvQ U c a b ≤ U / a ∧ U / a ≤ 4294967297 ∧ 0 ≤ U / a := by
  have h1 := dvQ_le h
  have h2 := (dvQ_bd h).1
  obtain ⟨a0, a1, b0, b1, u0, u1, c0, c1⟩ := h
  rw [dv_mul] at h1
  have h3 := Int.mul_nonneg h2 b0
  refine ⟨(Int.le_ediv_iff_mul_le (by omega)).2 (by omega), ?_, Int.ediv_nonneg u0 (by omega)⟩
  have := Int.ediv_lt_of_lt_mul (a := U) (b := 4294967298) (c := a) (by omega) (by omega)
  omega
theorem dv_more {U c a b q r : Int} (h : DvH U c a b) (e : q * a + r = U) (hm : 4294967296 ≤ q ∨ 4294967296 * r + c < q * b) : dvQ U c a b ≤ q - 1 := by
  rcases hm with hm | hm
  · have := (dvQ_bd h).2; omega
  · have := dvQ_gt (q := q) h (by rw [dv_mul]; omega)
    omega
theorem dv_stop {U c a b q r : Int} (h : DvH U c a b) (e : q * a + r = U) (hm : q * b ≤ 4294967296 * r + c) (hq : dvQ U c a b ≤ q) : q = dvQ U c a b := by
  have := dvQ_ge (q := q) h (by rw [dv_mul]; omega)
  omega
theorem dv_break {U c a b q r : Int} (h : DvH U c a b) (e : q * a + r = U) (h1 : q ≤ 4294967296) (hr : 4294967296 ≤ r) (hq : dvQ U c a b ≤ q) : q = dvQ U c a b := by
  have k := Int.mul_le_mul_of_nonneg_right h1 h.b0
  exact dv_stop h e (by have := h.b1; have := h.c0; omega) hq
def dvR (U c a b : Int) : Int := U * 4294967296 + c - dvQ U c a b * (a * 4294967296 + b)
theorem dvR_bd {U c a b : Int} (h : DvH U c a b) : 0 ≤ dvR U c a b ∧ dvR U c a b < a * 4294967296 + b := by
  have h1 := dvQ_le h
  have h2 := Int.lt_ediv_add_one_mul_self (U * 4294967296 + c) h.y0
  unfold dvR
  unfold dvQ at *
  rw [Int.add_mul] at h2
  omega
theorem dv_two {U c d a b : Int} (h : DvH U c a b) (d0 : 0 ≤ d) (d1 : d < 4294967296) : DvH (dvR U c a b) d a b ∧
    dvQ U c a b * 4294967296 + dvQ (dvR U c a b) d a b = (U * 18446744073709551616 + c * 4294967296 + d) / (a * 4294967296 + b) ∧
    dvR (dvR U c a b) d a b = (U * 18446744073709551616 + c * 4294967296 + d) % (a * 4294967296 + b) := by
  obtain ⟨r0, r1⟩ := dvR_bd h
  have h2 : DvH (dvR U c a b) d a b := ⟨h.a0, h.a1, h.b0, h.b1, r0, r1, d0, d1⟩
  obtain ⟨s0, s1⟩ := dvR_bd h2
  have e : U * 18446744073709551616 + c * 4294967296 + d = dvR (dvR U c a b) d a b + (dvQ U c a b * 4294967296 + dvQ (dvR U c a b) d a b) * (a * 4294967296 + b) := by
    have e1 : dvR (dvR U c a b) d a b = dvR U c a b * 4294967296 + d - dvQ (dvR U c a b) d a b * (a * 4294967296 + b) := rfl
    have e2 : dvR U c a b = U * 4294967296 + c - dvQ U c a b * (a * 4294967296 + b) := rfl
    rw [e1, Int.add_mul]
    generalize dvQ (dvR U c a b) d a b * (a * 4294967296 + b) = X at *
    rw [e2]
    have e3 : dvQ U c a b * 4294967296 * (a * 4294967296 + b) = dvQ U c a b * (a * 4294967296 + b) * 4294967296 := by ac_rfl
    rw [e3]
    omega
  refine ⟨h2, ?_, ?_⟩
  · rw [e, Int.add_mul_ediv_right _ _ (by have := h.y0; omega), Int.ediv_eq_zero_of_lt s0 s1, Int.zero_add]
  · rw [e, Int.add_mul_emod_self_right, Int.emod_eq_of_lt s0 s1]
end Go.Proofs.YtnfndiafabhhdaaGreat
