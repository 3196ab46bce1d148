/- Sums of numbers N by D, in plain Lean, with no program in sight: what a few small ones come to, in whichever order. -/
import Derived.Test.YtljpdpfflmoheaaSSpec
namespace Go.Proofs.Ytljpdpfflmoheaa.SSpec

/-- The product of all below, and what stands above it. -/
def den : List (Nat × Nat) → Nat
  | [] => 1
  | x :: t => x.2 * den t
def num : List (Nat × Nat) → Nat
  | [] => 0
  | x :: t => x.1 * den t + num t * x.2
theorem den_snoc (l : List (Nat × Nat)) (x : Nat × Nat) : den (l ++ [x]) = den l * x.2 := by
  induction l with
  | nil => simp [den]
  | cons y t ih => simp only [List.cons_append, den, ih, Nat.mul_assoc]
theorem num_snoc (l : List (Nat × Nat)) (x : Nat × Nat) : num (l ++ [x]) = num l * x.2 + x.1 * den l := by
  induction l with
  | nil => simp [num, den]
  | cons y t ih =>
    simp only [List.cons_append, num, ih, den_snoc, den]
    generalize den t = p
    generalize num t = s
    obtain ⟨a, b⟩ := x
    obtain ⟨c, d⟩ := y
    simp only
    grind
theorem den_rev (l : List (Nat × Nat)) : den l.reverse = den l := by
  induction l with
  | nil => rfl
  | cons y t ih => rw [List.reverse_cons, den_snoc, ih, den, Nat.mul_comm]
theorem num_rev (l : List (Nat × Nat)) : num l.reverse = num l := by
  induction l with
  | nil => rfl
  | cons y t ih => rw [List.reverse_cons, num_snoc, den_rev, ih, num, Nat.add_comm]
/-- A few weights: each may be, is at most 192, and its D at most 184. -/
def Small (x : Nat × Nat) : Prop := may x.1 x.2 = true ∧ x.1 ≤ 192 * x.2 ∧ x.2 ≤ 184
theorem weight_small (t i n : Int) : Small (weight t i n) := by
  refine ⟨weight_may t i n, ?_⟩
  unfold weight
  split
  · rename_i h
    obtain ⟨⟨t1, t2⟩, ⟨i1, i2⟩, n1, n2⟩ := h
    obtain ⟨t, rfl⟩ : ∃ m : Nat, t = m := ⟨t.toNat, by omega⟩
    obtain ⟨i, rfl⟩ : ∃ m : Nat, i = m := ⟨i.toNat, by omega⟩
    obtain ⟨n, rfl⟩ : ∃ m : Nat, n = m := ⟨n.toNat, by omega⟩
    simp only [Int.toNat_natCast]
    have hd : 0 < t + n := by omega
    have l1 := mk_le (n := 3 * t * i) (d := t + n)
    have e1 := mk_cross (n := 3 * t * i) hd
    refine ⟨?_, by omega⟩
    have hb : 3 * t * i ≤ 192 * (t + n) := by
      have : t * i ≤ t * 64 := Nat.mul_le_mul_left t (by omega)
      have e : 3 * t * i = 3 * (t * i) := Nat.mul_assoc ..
      omega
    have h2 := Nat.mul_le_mul_right (mk (3 * t * i) (t + n)).2.1 hb
    rw [← e1] at h2
    have h3 : (mk (3 * t * i) (t + n)).1 * (t + n) ≤ 192 * (mk (3 * t * i) (t + n)).2.1 * (t + n) := by
      rw [Nat.mul_right_comm 192]; exact h2
    exact Nat.le_of_mul_le_mul_right h3 hd
  · simp
theorem add_small {n d a b m : Nat} (h : may n d = true) (hn : n ≤ 192 * m * d) (hd : d ≤ 184 ^ m) (hm : m < 6) (hx : Small (a, b)) :
    add n d a b = mk (n * b + a * d) (d * b) ∧ (mk (n * b + a * d) (d * b)).1 ≤ 192 * (m + 1) * (mk (n * b + a * d) (d * b)).2.1 ∧ (mk (n * b + a * d) (d * b)).2.1 ≤ 184 ^ (m + 1) := by
  obtain ⟨x1, x2, x3⟩ := hx
  simp only at x1 x2 x3
  have hd0 := (may_iff.1 h).1
  have hb0 := (may_iff.1 x1).1
  have hp : 0 < d * b := Nat.mul_pos hd0 hb0
  have q1 : d * b ≤ 184 ^ m * 184 := Nat.mul_le_mul hd x3
  have q2 : (184 : Nat) ^ m * 184 ≤ 184 ^ 6 := by
    rw [← Nat.pow_succ]; exact Nat.pow_le_pow_right (by omega) (by omega)
  have q3 : n * b ≤ 192 * m * (d * b) := by
    rw [← Nat.mul_assoc]; exact Nat.mul_le_mul_right b hn
  have q4 : a * d ≤ 192 * (d * b) := by
    have := Nat.mul_le_mul_right d x2
    rw [Nat.mul_assoc, Nat.mul_comm b d] at this
    exact this
  have q5 : 192 * m * (d * b) + 192 * (d * b) = 192 * (m + 1) * (d * b) := by rw [← Nat.add_mul]; rfl
  have q6 : 192 * (m + 1) * (d * b) ≤ 192 * 6 * 184 ^ 6 := Nat.mul_le_mul (by omega) (Nat.le_trans q1 q2)
  have e184 : (184 : Nat) ^ 6 = 38806720086016 := by decide
  rw [e184] at q2 q6
  refine ⟨?_, ?_, ?_⟩
  · unfold add
    rw [if_pos ⟨h, x1, by omega, by omega, by omega, by omega⟩]
  · have e := mk_cross (n := n * b + a * d) hp
    have h2 : n * b + a * d ≤ 192 * (m + 1) * (d * b) := by omega
    have h3 := Nat.mul_le_mul_right (mk (n * b + a * d) (d * b)).2.1 h2
    rw [← e, Nat.mul_right_comm (192 * (m + 1))] at h3
    exact Nat.le_of_mul_le_mul_right h3 hp
  · have := (mk_le (n := n * b + a * d) (d := d * b)).2
    rw [Nat.pow_succ]; omega
theorem allFrom_small : ∀ (l : List (Nat × Nat)) (n d m : Nat), may n d = true → n ≤ 192 * m * d → d ≤ 184 ^ m → m + l.length ≤ 6 → (∀ x ∈ l, Small x) →
    ∃ N D : Nat, allFrom n d l = (N, D, true) ∧ may N D = true ∧ N ≤ 192 * (m + l.length) * D ∧ D ≤ 184 ^ (m + l.length) ∧ N * (d * den l) = (n * den l + num l * d) * D
  | [], n, d, m, h, hn, hd, _, _ => ⟨n, d, rfl, h, hn, hd, by simp [den, num]⟩
  | x :: t, n, d, m, h, hn, hd, hm, hx => by
    obtain ⟨a, b⟩ := x
    have hs := hx (a, b) (List.mem_cons_self ..)
    simp only [List.length_cons] at hm ⊢
    obtain ⟨e, i1, i2⟩ := add_small h hn hd (by omega) hs
    have hp : 0 < d * b := Nat.mul_pos (may_iff.1 h).1 (may_iff.1 hs.1).1
    have hc := mk_cross (n := n * b + a * d) hp
    have hy := mk_may (n := n * b + a * d) hp
    simp only [allFrom, e, mk_ok hp, if_true, den, num]
    obtain ⟨N, D, r1, r2, r3, r4, r5⟩ := allFrom_small t _ _ (m + 1) hy i1 i2 (by omega) (fun y hy => hx y (List.mem_cons_of_mem _ hy))
    have hpos := (may_iff.1 hy).1
    generalize (mk (n * b + a * d) (d * b)).1 = n' at *
    generalize (mk (n * b + a * d) (d * b)).2.1 = d' at *
    refine ⟨N, D, r1, r2, by rw [show m + (t.length + 1) = m + 1 + t.length by omega]; exact r3, by rw [show m + (t.length + 1) = m + 1 + t.length by omega]; exact r4, ?_⟩
    generalize den t = p at *
    generalize num t = s at *
    apply Nat.eq_of_mul_eq_mul_right hpos
    have k1 : N * (d * (b * p)) * d' = N * (d' * p) * (d * b) := by ac_rfl
    rw [k1, r5]
    have k2 : (n' * p + s * d') * D * (d * b) = (n' * (d * b) * p + s * d' * (d * b)) * D := by grind
    rw [k2, hc]
    grind
/-- Six weights at most have a sum, the same from either end, below 1153. -/
theorem all_fits (l : List (Nat × Nat)) (hl : l.length ≤ 6) (hx : ∀ x ∈ l, Small x) :
    ∃ N D : Nat, allFrom 0 1 l = (N, D, true) ∧ allFrom 0 1 l.reverse = (N, D, true) ∧ may N D = true ∧ N ≤ 1152 * D ∧ D ≤ 184 ^ 6 := by
  obtain ⟨N, D, r1, r2, r3, r4, r5⟩ := allFrom_small l 0 1 0 (by decide) (by omega) (by decide) (by omega) hx
  obtain ⟨N', D', s1, s2, s3, s4, s5⟩ := allFrom_small l.reverse 0 1 0 (by decide) (by omega) (by decide) (by simp; omega) (fun x h => hx x (List.mem_reverse.1 h))
  rw [den_rev, num_rev] at s5
  simp only [Nat.one_mul, Nat.mul_one, Nat.zero_mul, Nat.zero_add] at r5 s5 r3 r4
  have hden : ∀ t : List (Nat × Nat), (∀ x ∈ t, Small x) → 0 < den t := by
    intro t
    induction t with
    | nil => intro _; decide
    | cons y t ih => intro h; exact Nat.mul_pos (may_iff.1 (h y (List.mem_cons_self ..)).1).1 (ih (fun x hx => h x (List.mem_cons_of_mem _ hx)))
  have hd := hden l hx
  have he : N * D' = N' * D := by
    apply Nat.eq_of_mul_eq_mul_right hd
    have a1 : N * D' * den l = N * den l * D' := by ac_rfl
    have a2 : N' * D * den l = N' * den l * D := by ac_rfl
    rw [a1, a2, r5, s5]
    ac_rfl
  obtain ⟨rfl, rfl⟩ := may_eq r2 s2 he
  refine ⟨N, D, r1, s1, r2, Nat.le_trans r3 (Nat.mul_le_mul_right D (by omega)), Nat.le_trans r4 (Nat.pow_le_pow_right (by omega) hl)⟩
theorem add_comm (a b c d : Nat) : add a b c d = add c d a b := by
  unfold add
  rw [show c * b + a * d = a * d + c * b from Nat.add_comm .., show d * b = b * d from Nat.mul_comm ..]
  by_cases h : may a b = true ∧ may c d = true ∧ a * d < 18446744073709551616 ∧ c * b < 18446744073709551616 ∧ b * d < 18446744073709551616 ∧ a * d + c * b < 18446744073709551616
  · rw [if_pos h, if_pos ⟨h.2.1, h.1, h.2.2.2.1, h.2.2.1, h.2.2.2.2.1, h.2.2.2.2.2⟩]
  · rw [if_neg h, if_neg (fun h' => h ⟨h'.2.1, h'.1, h'.2.2.2.1, h'.2.2.1, h'.2.2.2.2.1, h'.2.2.2.2.2⟩)]
theorem add_ok {a b c d : Nat} (h : (add a b c d).2.2 = true) : may a b = true ∧ may c d = true ∧ 0 < b ∧ 0 < d ∧ add a b c d = mk (a * d + c * b) (b * d) := by
  unfold add at h ⊢
  split at h
  · rename_i h'
    rw [if_pos h']
    exact ⟨h'.1, h'.2.1, (may_iff.1 h'.1).1, (may_iff.1 h'.2.1).1, rfl⟩
  · cases h
theorem add_none {a b c d : Nat} (h : (add a b c d).2.2 = false) : add a b c d = (0, 0, false) := by
  unfold add at h ⊢
  split
  · rename_i h'
    rw [if_pos h', mk_ok (Nat.mul_pos (may_iff.1 h'.1).1 (may_iff.1 h'.2.1).1)] at h
    cases h
  · rfl
theorem add_zero {a b : Nat} (h : may a b = true) (ha : a < 18446744073709551616) (hb : b < 18446744073709551616) : add a b 0 1 = (a, b, true) := by
  unfold add
  simp only [Nat.mul_one, Nat.zero_mul, Nat.add_zero]
  rw [if_pos ⟨h, by decide, ha, by omega, hb, ha⟩, mk_of_may h]
theorem less_self_mk {a b n d : Nat} (h : may a b = true) (hd : 0 < d) : less (mk n d).1 (mk n d).2.1 a b = decide (n * b < a * d) ∧ less a b (mk n d).1 (mk n d).2.1 = decide (a * d < n * b) := by
  have hb := (may_iff.1 h).1
  have e := mk_of_may h
  have h1 := mk_less (n := n) (d := d) (n' := a) (d' := b) hd hb
  have h2 := mk_less (n := a) (d := b) (n' := n) (d' := d) hb hd
  rw [e] at h1 h2
  exact ⟨h1, h2⟩
theorem may_less {a b c d : Nat} (h : may a b = true) (h' : may c d = true) : less a b c d = decide (a * d < c * b) := by
  unfold less; rw [h, h']; rfl
theorem less_trans {a b c d e f : Nat} (h1 : may a b = true) (h2 : may c d = true) (h3 : may e f = true) (l1 : less a b c d = true) (l2 : less c d e f = true) : less a b e f = true := by
  rw [less_iff h1 h2] at l1
  rw [less_iff h2 h3] at l2
  rw [less_iff h1 h3]
  have hd := (may_iff.1 h2).1
  have hf := (may_iff.1 h3).1
  have hb := (may_iff.1 h1).1
  have a1 := Nat.mul_lt_mul_of_pos_right l1 hf
  have a2 := Nat.mul_lt_mul_of_pos_right l2 hb
  have e1 : c * b * f = c * f * b := by ac_rfl
  rw [e1] at a1
  have a3 := Nat.lt_trans a1 a2
  have e2 : a * d * f = a * f * d := by ac_rfl
  have e3 : e * d * b = e * b * d := by ac_rfl
  rw [e2, e3] at a3
  exact Nat.lt_of_mul_lt_mul_right a3
theorem less_some {a b c d : Nat} (h1 : may a b = true) (h2 : may c d = true) : (less a b c d = true ∨ less c d a b = true) ↔ ¬ (a = c ∧ b = d) := by
  rw [less_iff h1 h2, less_iff h2 h1]
  constructor
  · rintro h ⟨rfl, rfl⟩
    omega
  · intro h
    by_cases he : a * d = c * b
    · exact absurd (may_eq h1 h2 he) h
    · omega
theorem less_one {a b c d : Nat} (h1 : may a b = true) (h2 : may c d = true) (h : less a b c d = true) : less c d a b = false := by
  rw [less_iff h1 h2] at h
  rw [may_less h2 h1, decide_eq_false (by omega)]

/-! ### By whole parts, and what is left -/
theorem floor_lt {a b c d : Nat} (hb : 0 < b) (hd : 0 < d) (h : a / b < c / d) : a * d < c * b := by
  have h1 := Nat.lt_mul_div_succ a hb
  have h2 := Nat.mul_div_le c d
  have h3 : a * d < b * (a / b + 1) * d := Nat.mul_lt_mul_of_pos_right h1 hd
  have h4 : b * (a / b + 1) * d ≤ b * (c / d) * d := Nat.mul_le_mul_right d (Nat.mul_le_mul_left b h)
  have h5 : b * (c / d) * d = d * (c / d) * b := by ac_rfl
  have h6 : d * (c / d) * b ≤ c * b := Nat.mul_le_mul_right b h2
  omega
theorem floor_eq {a b c d : Nat} (h : a / b = c / d) : a * d < c * b ↔ a % b * d < c % d * b := by
  have h1 := Nat.div_add_mod a b
  have h2 := Nat.div_add_mod c d
  rw [h] at h1
  have e1 : a * d = b * (c / d) * d + a % b * d := by
    conv => lhs; rw [← h1]
    rw [Nat.add_mul]
  have e2 : c * b = b * (c / d) * d + c % d * b := by
    conv => lhs; rw [← h2]
    rw [Nat.add_mul]
    congr 1
    ac_rfl
  rw [e1, e2]
  omega
end Go.Proofs.Ytljpdpfflmoheaa.SSpec
