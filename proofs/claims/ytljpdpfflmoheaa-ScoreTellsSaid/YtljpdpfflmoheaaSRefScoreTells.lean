/- What the reference's functions over numbers N by D tell, for the functions printed for one law. -/
import Derived.Test.YtljpdpfflmoheaaSAllScoreTells
namespace Go.Proofs.Ytljpdpfflmoheaa.SScoreTells
open Go Go.RowKit Go.Proofs.Ytljpdpfflmoheaa.PScoreTells Go.Proofs.YtljpdpfflmoheaaW.PrintWords Go.Proofs.YtljpdpfflmoheaaW.PrintLast Go.Proofs.YtljpdpfflmoheaaW.PrintMore Go.Proofs.Ytljpdpfflmoheaa.SSpec

theorem rdiv_l0 : ∀ (b a k : Nat), b < k → catchwordref19_divisor.l0 k a b = some ((Nat.gcd a b : Nat) : Int) := by
  intro b
  induction b using Nat.strongRecOn with
  | _ b ih =>
    intro a k hk
    obtain ⟨k, rfl⟩ : ∃ m, k = m + 1 := ⟨k - 1, by omega⟩
    simp only [catchwordref19_divisor.l0]
    by_cases h : b = 0
    · subst h
      rw [if_neg (by omega)]
      simp
    · rw [if_pos (by omega), if_neg (by omega), Int.tmod_eq_emod_of_nonneg (by omega), ← Int.natCast_emod]
      have hl : a % b < b := Nat.mod_lt _ (by omega)
      rw [ih (a % b) hl b k (by omega), Nat.gcd_comm b, ← Nat.gcd_rec, Nat.gcd_comm]
theorem rmake_f (n d k : Nat) (hn : n < 18446744073709551616) (hd : d < 18446744073709551616) (hk : d < k) : catchwordref19_Make.f k n d = some (I3 (mk n d)) := by
  unfold catchwordref19_Make.f mk I3 catchwordref19_divisor.f
  by_cases h : d = 0
  · subst h
    rw [if_pos (by omega), if_pos rfl]
    simp
  · have hg : 0 < Nat.gcd n d := Nat.gcd_pos_of_pos_right n (by omega)
    rw [if_neg (by omega), if_neg h, rdiv_l0 d n k hk]
    simp only [Option.bind_some]
    rw [if_neg (by omega), Int.tdiv_eq_ediv_of_nonneg (by omega), Int.tdiv_eq_ediv_of_nonneg (by omega), ← Int.natCast_ediv, ← Int.natCast_ediv,
      u64_nat _ (Nat.lt_of_le_of_lt (Nat.div_le_self _ _) hn), u64_nat _ (Nat.lt_of_le_of_lt (Nat.div_le_self _ _) hd)]
theorem rmay_f (n d k : Nat) (hk : d < k) : catchwordref19_May.f k n d = some (may n d) := by
  unfold catchwordref19_May.f may catchwordref19_divisor.f
  by_cases h : 0 < d
  · rw [if_pos (by omega), rdiv_l0 d n k hk, decide_eq_true h]
    simp only [Option.bind_some, Bool.true_and, Option.some.injEq]
    rw [Bool.eq_iff_iff, beq_iff_eq, decide_eq_true_iff]
    omega
  · rw [if_neg (by omega), decide_eq_false h]
    rfl
theorem rfits_f (a b : Nat) : catchwordref19_fits.f a b = some (decide (a * b < 18446744073709551616)) := by
  unfold catchwordref19_fits.f
  by_cases h : b = 0
  · subst h
    rw [if_pos (by omega)]
    simp
  · rw [if_neg (by omega), Int.tdiv_eq_ediv_of_nonneg (by decide), show ((18446744073709551615 : Int) / (b : Int)) = ((18446744073709551615 / b : Nat) : Int) by rw [Int.natCast_ediv]; rfl,
      u64_nat _ (Nat.lt_of_le_of_lt (Nat.div_le_self _ _) (by decide))]
    congr 1
    rw [Bool.eq_iff_iff, decide_eq_true_iff, decide_eq_true_iff]
    have := Nat.le_div_iff_mul_le (k := b) (x := a) (y := 18446744073709551615) (by omega)
    omega
theorem radd_f (a b c d k : Nat) (hb : b < 18446744073709551616) (hd : d < 18446744073709551616) (hk : 18446744073709551617 < k) : catchwordref19_Add.f k a b c d = some (I3 (add a b c d)) := by
  obtain ⟨k, rfl⟩ : ∃ m, k = m + 1 := ⟨k - 1, by omega⟩
  have skip : ∀ p q r s : Int, catchwordref19_Add.j0 (k + 1) true p q r s = some (0, 0, false) := fun p q r s => by simp only [catchwordref19_Add.j0, if_true]
  unfold catchwordref19_Add.f add
  rw [rmay_f a b _ (by omega), rmay_f c d _ (by omega), rfits_f, rfits_f, rfits_f]
  simp only [Option.bind_some, decide_eq_true_eq]
  by_cases h1 : may a b = true
  · rw [if_pos h1]
    by_cases h2 : may c d = true
    · rw [if_pos h2]
      by_cases h3 : a * d < 18446744073709551616
      · rw [if_pos h3]
        by_cases h4 : c * b < 18446744073709551616
        · rw [if_pos h4]
          by_cases h5 : b * d < 18446744073709551616
          · rw [decide_eq_true h5]
            simp only [Bool.not_true, catchwordref19_Add.j0]
            rw [if_neg (by decide), ← Int.natCast_mul, ← Int.natCast_mul, ← Int.natCast_mul, u64_nat _ h3, u64_nat _ h4, u64_nat _ h5, u64_id (x := 18446744073709551615 - ((c * b : Nat) : Int)) (by omega) (by omega)]
            by_cases h6 : a * d + c * b < 18446744073709551616
            · rw [if_neg (by omega), if_pos ⟨h1, h2, h3, h4, h5, h6⟩, ← Int.natCast_add, u64_nat _ h6, rmake_f _ _ k h6 h5 (by omega)]
              rfl
            · rw [if_pos (by omega), if_neg (fun h : may a b = true ∧ _ => h6 h.2.2.2.2.2)]
              rfl
          · rw [decide_eq_false h5, if_neg (fun h : may a b = true ∧ _ => h5 h.2.2.2.2.1), Bool.not_false, skip]
            rfl
        · rw [if_neg h4, if_neg (fun h : may a b = true ∧ _ => h4 h.2.2.2.1), skip]
          rfl
      · rw [if_neg h3, if_neg (fun h : may a b = true ∧ _ => h3 h.2.2.1), skip]
        rfl
    · rw [if_neg h2, if_neg (fun h : may a b = true ∧ _ => h2 h.2.1), skip]
      rfl
  · rw [if_neg h1, if_neg (fun h : may a b = true ∧ _ => h1 h.1), skip]
    rfl

end Go.Proofs.Ytljpdpfflmoheaa.SScoreTells
