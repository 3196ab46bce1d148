/- Numbers N by D, in plain Lean, with no program in sight: the least form, what is below, what the sum is. -/
import Derived.Test.YtljpdpfflmoheaaWMore
import Derived.Laws.BitsLemmas
import Derived.Lib.Mul64
import Derived.Test.YtljpdpfflmoheaaVName
namespace Go.Proofs.Ytljpdpfflmoheaa.SSpec
open Go Go.RowKit Go.Proofs.YtljpdpfflmoheaaW.PrintWords Go.Proofs.YtljpdpfflmoheaaW.PrintLast Go.Proofs.YtljpdpfflmoheaaW.PrintMore

theorem u64_id {x : Int} (h0 : 0 ≤ x) (h1 : x < 18446744073709551616) : IntKind.u64.wrap x = x := by
  simp [IntKind.wrap, IntKind.bits, IntKind.signed]; omega
theorem u64_mod (x : Int) : IntKind.u64.wrap x = x % 18446744073709551616 := by
  simp [IntKind.wrap, IntKind.bits, IntKind.signed]
theorem u64_nat (n : Nat) (h : n < 18446744073709551616) : IntKind.u64.wrap (n : Int) = n := u64_id (by omega) (by omega)
theorem wf_u64 {x : Int} (h : (Lit.int .u64 x).wf = true) : ∃ n : Nat, x = n ∧ n < 18446744073709551616 := by
  simp [Lit.wf, IntKind.min, IntKind.max, IntKind.signed, IntKind.bits] at h
  exact ⟨x.toNat, by omega, by omega⟩
theorem wf_i64 {x : Int} (h : (Lit.int .i64 x).wf = true) : -9223372036854775808 ≤ x ∧ x ≤ 9223372036854775807 := by
  simp [Lit.wf, IntKind.min, IntKind.max, IntKind.signed, IntKind.bits] at h
  omega
theorem w64 {x : Int} (h0 : -9223372036854775808 ≤ x) (h1 : x ≤ 9223372036854775807) : wrap64 x = x := by
  unfold wrap64; omega
theorem w64n {x : Int} (n : Nat) (h : x = n) (hn : n ≤ 4611686018427387904) : wrap64 x = n := by
  rw [w64 (by omega) (by omega), h]

def mk (n d : Nat) : Nat × Nat × Bool := if d = 0 then (0, 0, false) else (n / Nat.gcd n d, d / Nat.gcd n d, true)
def may (n d : Nat) : Bool := decide (0 < d) && decide (Nat.gcd n d = 1)
def less (a b c d : Nat) : Bool := may a b && may c d && decide (a * d < c * b)
def add (a b c d : Nat) : Nat × Nat × Bool :=
  if may a b = true ∧ may c d = true ∧ a * d < 18446744073709551616 ∧ c * b < 18446744073709551616 ∧ b * d < 18446744073709551616 ∧ a * d + c * b < 18446744073709551616 then mk (a * d + c * b) (b * d) else (0, 0, false)
/-- Three cells, as the program has them. -/
def I3 (p : Nat × Nat × Bool) : Int × Int × Bool := (p.1, p.2.1, p.2.2)
def I2 (p : Nat × Nat) : Int × Int := (p.1, p.2)

theorem may_iff {n d : Nat} : may n d = true ↔ 0 < d ∧ Nat.gcd n d = 1 := by simp [may]
theorem less_iff {a b c d : Nat} (h : may a b = true) (h' : may c d = true) : less a b c d = true ↔ a * d < c * b := by simp [less, h, h']
theorem mk_may {n d : Nat} (h : 0 < d) : may (mk n d).1 (mk n d).2.1 = true := by
  unfold mk
  rw [if_neg (by omega)]
  have hg : 0 < Nat.gcd n d := Nat.gcd_pos_of_pos_right n h
  exact may_iff.2 ⟨Nat.div_pos (Nat.le_of_dvd h (Nat.gcd_dvd_right n d)) hg, Nat.coprime_div_gcd_div_gcd hg⟩
theorem mk_ok {n d : Nat} (h : 0 < d) : (mk n d).2.2 = true := by unfold mk; rw [if_neg (by omega)]
theorem mk_cross {n d : Nat} (h : 0 < d) : (mk n d).1 * d = n * (mk n d).2.1 := by
  unfold mk
  rw [if_neg (by omega)]
  simp only
  have h1 := Nat.div_mul_cancel (Nat.gcd_dvd_left n d)
  have h2 := Nat.div_mul_cancel (Nat.gcd_dvd_right n d)
  generalize Nat.gcd n d = g at *
  calc n / g * d = n / g * (d / g * g) := by rw [h2]
    _ = n / g * g * (d / g) := by rw [Nat.mul_comm (d / g) g, Nat.mul_assoc]
    _ = n * (d / g) := by rw [h1]
theorem mk_le {n d : Nat} : (mk n d).1 ≤ n ∧ (mk n d).2.1 ≤ d := by
  unfold mk
  split
  · simp
  · exact ⟨Nat.div_le_self _ _, Nat.div_le_self _ _⟩
theorem mk_pos {n d : Nat} (h : 0 < d) : 0 < (mk n d).2.1 := (may_iff.1 (mk_may (n := n) h)).1
/-- A number that may be is one in one way alone. -/
theorem may_eq {a b c d : Nat} (h : may a b = true) (h' : may c d = true) (he : a * d = c * b) : a = c ∧ b = d := by
  obtain ⟨hb, hg⟩ := may_iff.1 h
  obtain ⟨hd, hg'⟩ := may_iff.1 h'
  have hbd : b ∣ d := by
    have : b ∣ a * d := by rw [he]; exact Nat.dvd_mul_left b c
    exact (Nat.Coprime.dvd_of_dvd_mul_left (Nat.coprime_comm.1 hg) this)
  have hdb : d ∣ b := by
    have : d ∣ c * b := by rw [← he]; exact Nat.dvd_mul_left d a
    exact (Nat.Coprime.dvd_of_dvd_mul_left (Nat.coprime_comm.1 hg') this)
  have hbd' : b = d := Nat.dvd_antisymm hbd hdb
  subst hbd'
  exact ⟨Nat.eq_of_mul_eq_mul_right hb he, rfl⟩
theorem mk_of_may {n d : Nat} (h : may n d = true) : mk n d = (n, d, true) := by
  obtain ⟨hd, hg⟩ := may_iff.1 h
  unfold mk
  rw [if_neg (by omega), hg]
  simp
theorem may_mk {n d : Nat} : may n d = ((mk n d).2.2 && ((mk n d).1 == n && (mk n d).2.1 == d)) := by
  by_cases hd : d = 0
  · subst hd
    simp [may, mk]
  · cases hm : may n d with
    | true => rw [mk_of_may hm]; simp
    | false =>
      rw [mk_ok (by omega)]
      symm
      simp only [Bool.true_and, Bool.and_eq_false_iff, beq_eq_false_iff_ne]
      by_cases h1 : (mk n d).1 = n
      · by_cases h2 : (mk n d).2.1 = d
        · have := mk_may (n := n) (d := d) (by omega)
          rw [h1, h2, hm] at this
          cases this
        · exact .inr h2
      · exact .inl h1
/-- Below goes by the products, whatever divides. -/
theorem mk_less {n d n' d' : Nat} (h : 0 < d) (h' : 0 < d') : less (mk n d).1 (mk n d).2.1 (mk n' d').1 (mk n' d').2.1 = decide (n * d' < n' * d) := by
  have e1 := mk_cross (n := n) h
  have e2 := mk_cross (n := n') h'
  have p1 := mk_pos (n := n) h
  have p2 := mk_pos (n := n') h'
  rw [Bool.eq_iff_iff, less_iff (mk_may h) (mk_may h'), decide_eq_true_iff]
  generalize (mk n d).1 = a at *
  generalize (mk n d).2.1 = b at *
  generalize (mk n' d').1 = a' at *
  generalize (mk n' d').2.1 = b' at *
  -- a d = n b, a' d' = n' b'
  have k1 : (a * b') * (d * d') = (n * d') * (b * b') := by
    calc (a * b') * (d * d') = (a * d) * (b' * d') := by ac_rfl
      _ = (n * b) * (b' * d') := by rw [e1]
      _ = (n * d') * (b * b') := by ac_rfl
  have k2 : (a' * b) * (d * d') = (n' * d) * (b * b') := by
    calc (a' * b) * (d * d') = (a' * d') * (b * d) := by ac_rfl
      _ = (n' * b') * (b * d) := by rw [e2]
      _ = (n' * d) * (b * b') := by ac_rfl
  have q1 : 0 < d * d' := Nat.mul_pos h h'
  have q2 : 0 < b * b' := Nat.mul_pos p1 p2
  constructor
  · intro hl
    have := Nat.mul_lt_mul_of_pos_right hl q1
    rw [k1, k2] at this
    exact Nat.lt_of_mul_lt_mul_right this
  · intro hl
    have := Nat.mul_lt_mul_of_pos_right hl q2
    rw [← k1, ← k2] at this
    exact Nat.lt_of_mul_lt_mul_right this
/-- What a word weighs. -/
def weight (tf idf norm : Int) : Nat × Nat :=
  if (1 ≤ tf ∧ tf ≤ 120) ∧ (1 ≤ idf ∧ idf ≤ 64) ∧ (1 ≤ norm ∧ norm ≤ 64) then ((mk (3 * tf.toNat * idf.toNat) (tf.toNat + norm.toNat)).1, (mk (3 * tf.toNat * idf.toNat) (tf.toNat + norm.toNat)).2.1) else (0, 1)
theorem weight_nat {t i n : Nat} (ht : 1 ≤ t ∧ t ≤ 120) (hi : 1 ≤ i ∧ i ≤ 64) (hn : 1 ≤ n ∧ n ≤ 64) : weight t i n = ((mk (3 * t * i) (t + n)).1, (mk (3 * t * i) (t + n)).2.1) := by
  unfold weight
  rw [if_pos (by omega)]
  rfl
theorem weight_may (t i n : Int) : may (weight t i n).1 (weight t i n).2 = true := by
  unfold weight
  split
  · exact mk_may (by omega)
  · rfl
/-- The sum of all, from a number on. -/
def allFrom : Nat → Nat → List (Nat × Nat) → Nat × Nat × Bool
  | n, d, [] => (n, d, true)
  | n, d, x :: t => if (add n d x.1 x.2).2.2 = true then allFrom (add n d x.1 x.2).1 (add n d x.1 x.2).2.1 t else (0, 0, false)
end Go.Proofs.Ytljpdpfflmoheaa.SSpec
