/- What the program's functions over numbers N by D tell, for the functions printed for one law. -/
import Derived.Test.YtljpdpfflmoheaaPScoreAddsx
import Derived.Test.YtljpdpfflmoheaaSSpec
namespace Go.Proofs.Ytljpdpfflmoheaa.SScoreAdds
open Go Go.RowKit Go.Proofs.Ytljpdpfflmoheaa.PScoreAdds Go.Proofs.YtljpdpfflmoheaaW.PrintWords Go.Proofs.YtljpdpfflmoheaaW.PrintLast Go.Proofs.YtljpdpfflmoheaaW.PrintMore Go.Proofs.Ytljpdpfflmoheaa.SSpec

theorem common_l0 : ∀ (b a k : Nat), b < k → score_common.l0 k a b = some ((Nat.gcd a b : Nat) : Int) := by
  intro b
  induction b using Nat.strongRecOn with
  | _ b ih =>
    intro a k hk
    obtain ⟨k, rfl⟩ : ∃ m, k = m + 1 := ⟨k - 1, by omega⟩
    simp only [score_common.l0]
    by_cases h : b = 0
    · subst h
      rw [if_neg (by omega)]
      simp
    · rw [if_pos (by omega), if_neg (by omega), Int.tmod_eq_emod_of_nonneg (by omega), ← Int.natCast_emod]
      have hl : a % b < b := Nat.mod_lt _ (by omega)
      rw [ih (a % b) hl b k (by omega), Nat.gcd_comm b, ← Nat.gcd_rec, Nat.gcd_comm]
theorem make_f (n d k : Nat) (hn : n < 18446744073709551616) (hd : d < 18446744073709551616) (hk : d < k) : score_Make.f k n d = some (I3 (mk n d)) := by
  unfold score_Make.f mk I3 score_common.f
  by_cases h : d = 0
  · subst h
    rw [if_pos (by omega), if_pos rfl]
    simp
  · have hg : 0 < Nat.gcd n d := Nat.gcd_pos_of_pos_right n (by omega)
    rw [if_neg (by omega), if_neg h, common_l0 d n k hk]
    simp only [Option.bind_some]
    rw [if_neg (by omega), Int.tdiv_eq_ediv_of_nonneg (by omega), Int.tdiv_eq_ediv_of_nonneg (by omega), ← Int.natCast_ediv, ← Int.natCast_ediv,
      u64_nat _ (Nat.lt_of_le_of_lt (Nat.div_le_self _ _) hn), u64_nat _ (Nat.lt_of_le_of_lt (Nat.div_le_self _ _) hd)]
theorem may_f (n d k : Nat) (hn : n < 18446744073709551616) (hd : d < 18446744073709551616) (hk : d < k) : score_May.f k n d = some (may n d) := by
  unfold score_May.f
  rw [make_f n d k hn hd hk, may_mk]
  simp only [Option.bind_some, I3]
  split
  · rename_i h
    rw [h]
    congr 1
    rw [Bool.eq_iff_iff]
    simp
    omega
  · rename_i h
    simp only [Bool.not_eq_true] at h
    rw [h]
    rfl
theorem and_mask (n : Nat) : Go.bits .and .u64 (n : Int) 4294967295 = ((n % 4294967296 : Nat) : Int) := by
  have h127 : (BitVec.ofInt 64 4294967295).toNat = 2 ^ 32 - 1 := by decide
  have key : (BitVec.ofInt 64 (n : Int) &&& BitVec.ofInt 64 4294967295).toNat = n % 18446744073709551616 % 2 ^ 32 := by
    rw [BitVec.toNat_and, h127, Nat.and_two_pow_sub_one_eq_mod]
    simp
  show IntKind.u64.wrap ((BitVec.ofInt 64 (n : Int) &&& BitVec.ofInt 64 4294967295).toNat : Nat) = _
  rw [key, u64_nat _ (by omega)]
  omega
theorem mul64_f (x y : Nat) (hx : x < 18446744073709551616) (hy : y < 18446744073709551616) : bits_Mul64.f x y = some (((x * y / 18446744073709551616 : Nat) : Int), ((x * y % 18446744073709551616 : Nat) : Int)) := by
  obtain ⟨h1, h2, h3, h4⟩ := Go.Lib.mul64_hi x y hx hy
  unfold bits_Mul64.f
  have d1 : ((x : Int) / 4294967296) = ((x / 4294967296 : Nat) : Int) := by omega
  have d2 : ((y : Int) / 4294967296) = ((y / 4294967296 : Nat) : Int) := by omega
  have b1 : x / 4294967296 * (y / 4294967296) ≤ 18446744065119617025 := Go.Lib.half_mul_le (by omega) (by omega)
  have b2 : x / 4294967296 * (y % 4294967296) ≤ 18446744065119617025 := Go.Lib.half_mul_le (by omega) (by omega)
  have b3 : x % 4294967296 * (y / 4294967296) ≤ 18446744065119617025 := Go.Lib.half_mul_le (by omega) (by omega)
  rw [and_mask, and_mask, d1, d2]
  simp only [← Int.natCast_mul]
  rw [u64_nat _ h1, show (((x % 4294967296 * (y % 4294967296) : Nat) : Int) / 4294967296) = ((x % 4294967296 * (y % 4294967296) / 4294967296 : Nat) : Int) by omega,
    u64_nat (x / 4294967296 * (y % 4294967296)) (by omega), ← Int.natCast_add, u64_nat _ h2, and_mask, u64_nat (x % 4294967296 * (y / 4294967296)) (by omega), ← Int.natCast_add, u64_nat _ h3,
    u64_nat (x / 4294967296 * (y / 4294967296)) (by omega)]
  generalize x / 4294967296 * (y % 4294967296) + x % 4294967296 * (y % 4294967296) / 4294967296 = t at *
  rw [show ((t : Int) / 4294967296) = ((t / 4294967296 : Nat) : Int) by omega, ← Int.natCast_add]
  generalize hs : t % 4294967296 + x % 4294967296 * (y / 4294967296) = s at *
  rw [show ((s : Int) / 4294967296) = ((s / 4294967296 : Nat) : Int) by omega, u64_nat (x / 4294967296 * (y / 4294967296) + t / 4294967296) (by omega), ← Int.natCast_add, h4]
  have hxy : x * y / 18446744073709551616 < 18446744073709551616 := by
    rw [Nat.div_lt_iff_lt_mul (by omega)]
    exact Nat.mul_lt_mul'' hx hy
  rw [u64_nat _ hxy, u64_mod]
  simp
theorem product_f (x y : Nat) (hx : x < 18446744073709551616) (hy : y < 18446744073709551616) : score_product.f x y = some (((x * y % 18446744073709551616 : Nat) : Int), decide (x * y < 18446744073709551616)) := by
  unfold score_product.f
  rw [mul64_f x y hx hy]
  simp only [Option.bind_some, Option.some.injEq, Prod.mk.injEq, true_and]
  rw [Bool.eq_iff_iff, beq_iff_eq, decide_eq_true_iff]
  omega
theorem less_f (a b c d k : Nat) (ha : a < 18446744073709551616) (hb : b < 18446744073709551616) (hc : c < 18446744073709551616) (hd : d < 18446744073709551616) (hk : b < k) (hk' : d < k) : score_Less.f k a b c d = some (less a b c d) := by
  unfold score_Less.f less
  obtain ⟨k, rfl⟩ : ∃ m, k = m + 1 := ⟨k - 1, by omega⟩
  rw [may_f a b _ ha hb hk]
  simp only [Option.bind_some]
  cases h1 : may a b with
  | false => simp [score_Less.j0]
  | true =>
    rw [if_pos rfl, may_f c d _ hc hd hk']
    simp only [Option.bind_some]
    cases h2 : may c d with
    | false => simp [score_Less.j0]
    | true =>
      rw [if_pos rfl]
      simp only [score_Less.j0]
      by_cases he : a = c ∧ b = d
      · obtain ⟨rfl, rfl⟩ := he
        rw [if_pos (by simp)]
        simp
      · rw [if_neg (by simp; omega), mul64_f a d ha hd, mul64_f c b hc hb]
        simp only [Option.bind_some, Bool.true_and]
        generalize a * d = x
        generalize c * b = y
        by_cases h3 : x / 18446744073709551616 < y / 18446744073709551616
        · rw [if_pos (by omega), decide_eq_true (show x < y by omega)]
        · rw [if_neg (by omega)]
          by_cases h4 : x / 18446744073709551616 = y / 18446744073709551616
          · rw [if_pos (by omega)]
            congr 1
            rw [Bool.eq_iff_iff, decide_eq_true_iff, decide_eq_true_iff]
            omega
          · rw [if_neg (by omega), decide_eq_false (show ¬ x < y by omega)]
theorem add_f (a b c d k : Nat) (ha : a < 18446744073709551616) (hb : b < 18446744073709551616) (hc : c < 18446744073709551616) (hd : d < 18446744073709551616) (hk : 18446744073709551616 < k) : score_Add.f k a b c d = some (I3 (add a b c d)) := by
  unfold score_Add.f add
  rw [product_f a d ha hd, product_f c b hc hb, product_f b d hb hd]
  simp only [Option.bind_some, bits_Add64.f]
  rw [if_pos (by omega), if_pos (by omega), if_pos trivial]
  simp only [Option.bind_some]
  rw [may_f a b _ ha hb (by omega), may_f c d _ hc hd (by omega)]
  simp only [Option.bind_some, decide_eq_true_eq]
  by_cases h1 : may a b = true
  · rw [if_pos h1]
    by_cases h2 : may c d = true
    · rw [if_pos h2]
      by_cases h3 : a * d < 18446744073709551616
      · rw [if_pos h3]
        by_cases h4 : c * b < 18446744073709551616
        · rw [if_pos h4]
          by_cases h5 : b * d < 18446744073709551616
          · rw [if_pos h5]
            rw [Nat.mod_eq_of_lt h3, Nat.mod_eq_of_lt h4, Nat.mod_eq_of_lt h5]
            by_cases h6 : a * d + c * b < 18446744073709551616
            · rw [if_neg (by omega), if_pos ⟨h1, h2, h3, h4, h5, h6⟩, ← Int.natCast_add, show (((a * d + c * b : Nat) : Int) % 18446744073709551616) = ((a * d + c * b : Nat) : Int) by omega, make_f _ _ k h6 h5 (by omega)]
              rfl
            · rw [if_pos (by omega), if_neg (fun h => h6 h.2.2.2.2.2)]
              rfl
          · rw [if_neg h5, if_neg (fun h => h5 h.2.2.2.2.1)]
            rfl
        · rw [if_neg h4, if_neg (fun h => h4 h.2.2.2.1)]
          rfl
      · rw [if_neg h3, if_neg (fun h => h3 h.2.2.1)]
        rfl
    · rw [if_neg h2, if_neg (fun h => h2 h.2.1)]
      rfl
  · rw [if_neg h1, if_neg (fun h => h1 h.1)]
    rfl
theorem fits_f (a e : Int) : score_fits.f a e = some (decide (1 ≤ a ∧ a ≤ e)) := by
  unfold score_fits.f
  split
  · congr 1
    rw [Bool.eq_iff_iff, decide_eq_true_iff, decide_eq_true_iff]
    omega
  · rw [decide_eq_false (by omega)]
theorem weight_f (t i n : Int) (k : Nat) (hk : 300 < k) : score_Weight.f k t i n = some (I2 (weight t i n)) := by
  unfold score_Weight.f weight
  rw [fits_f, fits_f, fits_f]
  simp only [Option.bind_some, decide_eq_true_eq]
  by_cases h1 : 1 ≤ t ∧ t ≤ 120
  · rw [if_pos h1]
    by_cases h2 : 1 ≤ i ∧ i ≤ 64
    · rw [if_pos h2]
      by_cases h3 : 1 ≤ n ∧ n ≤ 64
      · rw [if_pos h3, if_pos ⟨h1, h2, h3⟩]
        obtain ⟨t, rfl⟩ : ∃ m : Nat, t = m := ⟨t.toNat, by omega⟩
        obtain ⟨i, rfl⟩ : ∃ m : Nat, i = m := ⟨i.toNat, by omega⟩
        obtain ⟨n, rfl⟩ : ∃ m : Nat, n = m := ⟨n.toNat, by omega⟩
        have hb : 3 * t * i ≤ 360 * 64 := Nat.mul_le_mul (by omega) (by omega)
        rw [w64n (x := 3 * (t : Int)) (3 * t) (by omega) (by omega), w64n (x := ((3 * t : Nat) : Int) * (i : Int)) (3 * t * i) (by simp) (by omega), w64n (x := (t : Int) + (n : Int)) (t + n) (by omega) (by omega),
          u64_nat _ (by omega), u64_nat _ (by omega), make_f _ _ k (by omega) (by omega) (by omega)]
        simp [I2, I3]
      · rw [if_neg h3, if_neg (fun h : (1 ≤ t ∧ t ≤ 120) ∧ _ => h3 h.2.2)]
        rfl
    · rw [if_neg h2, if_neg (fun h : (1 ≤ t ∧ t ≤ 120) ∧ _ => h2 h.2.1)]
      rfl
  · rw [if_neg h1, if_neg (fun h : (1 ≤ t ∧ t ≤ 120) ∧ _ => h1 h.1)]
    rfl

end Go.Proofs.Ytljpdpfflmoheaa.SScoreAdds
