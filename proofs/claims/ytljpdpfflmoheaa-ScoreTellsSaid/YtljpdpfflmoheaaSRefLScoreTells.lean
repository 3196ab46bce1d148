/- What the reference's functions over numbers N by D tell, for the functions printed for one law. -/
import Derived.Test.YtljpdpfflmoheaaSRefScoreTells
namespace Go.Proofs.Ytljpdpfflmoheaa.SScoreTells
open Go Go.RowKit Go.Proofs.Ytljpdpfflmoheaa.PScoreTells Go.Proofs.YtljpdpfflmoheaaW.PrintWords Go.Proofs.YtljpdpfflmoheaaW.PrintLast Go.Proofs.YtljpdpfflmoheaaW.PrintMore Go.Proofs.Ytljpdpfflmoheaa.SSpec

theorem rbelow_l0 : ∀ (j k a b c d : Nat), b + d ≤ j → j < k → 0 < b → 0 < d → a < 18446744073709551616 → b < 18446744073709551616 → c < 18446744073709551616 → d < 18446744073709551616 →
    catchwordref19_below.l0 k a b c d = some (decide (a * d < c * b))
  | 0, k, a, b, c, d, hj, hk, hb, hd, ua, ub, uc, ud => by omega
  | j + 1, k, a, b, c, d, hj, hk, hb, hd, ua, ub, uc, ud => by
    obtain ⟨k, rfl⟩ : ∃ m, k = m + 1 := ⟨k - 1, by omega⟩
    simp only [catchwordref19_below.l0]
    rw [if_neg (by omega), if_neg (by omega)]
    rw [show Int.tdiv (a : Int) b = ((a / b : Nat) : Int) by rw [Int.tdiv_eq_ediv_of_nonneg (by omega), Int.natCast_ediv], show Int.tdiv (c : Int) d = ((c / d : Nat) : Int) by rw [Int.tdiv_eq_ediv_of_nonneg (by omega), Int.natCast_ediv],
      show Int.tmod (a : Int) b = ((a % b : Nat) : Int) by rw [Int.tmod_eq_emod_of_nonneg (by omega), Int.natCast_emod], show Int.tmod (c : Int) d = ((c % d : Nat) : Int) by rw [Int.tmod_eq_emod_of_nonneg (by omega), Int.natCast_emod],
      u64_nat _ (Nat.lt_of_le_of_lt (Nat.div_le_self a b) ua), u64_nat _ (Nat.lt_of_le_of_lt (Nat.div_le_self c d) uc)]
    have hx := Nat.mod_lt a hb
    have hy := Nat.mod_lt c hd
    by_cases he : a / b = c / d
    · have hfe := floor_eq he
      rw [if_pos (by omega)]
      by_cases y0 : c % d = 0
      · rw [if_pos (by omega), decide_eq_false (by rw [hfe, y0]; omega)]
      · rw [if_neg (by omega)]
        by_cases x0 : a % b = 0
        · rw [if_pos (by omega), decide_eq_true (by rw [hfe, x0, Nat.zero_mul]; exact Nat.mul_pos (by omega) hb)]
        · rw [if_neg (by omega), rbelow_l0 j k d (c % d) b (a % b) (by omega) (by omega) (by omega) (by omega) ud (by omega) ub (by omega)]
          congr 1
          rw [Bool.eq_iff_iff, decide_eq_true_iff, decide_eq_true_iff, hfe, Nat.mul_comm d, Nat.mul_comm b]
    · rw [if_neg (by omega)]
      congr 1
      rw [Bool.eq_iff_iff, decide_eq_true_iff, decide_eq_true_iff]
      constructor
      · intro h
        exact floor_lt hb hd (by omega)
      · intro h
        by_cases hl : c / d < a / b
        · have := floor_lt hd hb hl
          omega
        · omega
theorem rless_f (a b c d k : Nat) (ha : a < 18446744073709551616) (hb : b < 18446744073709551616) (hc : c < 18446744073709551616) (hd : d < 18446744073709551616) (hk : 36893488147419103300 < k) : catchwordref19_Less.f k a b c d = some (less a b c d) := by
  unfold catchwordref19_Less.f less
  rw [rmay_f a b _ (by omega), rmay_f c d _ (by omega)]
  simp only [Option.bind_some]
  cases h1 : may a b with
  | false => rfl
  | true =>
    rw [if_pos rfl]
    cases h2 : may c d with
    | false => rfl
    | true =>
      rw [if_pos rfl]
      unfold catchwordref19_below.f
      rw [rbelow_l0 (b + d) k a b c d (Nat.le_refl _) (by omega) (may_iff.1 h1).1 (may_iff.1 h2).1 ha hb hc hd]
      simp

end Go.Proofs.Ytljpdpfflmoheaa.SScoreTells
