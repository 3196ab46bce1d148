/- What the reference's functions over numbers N by D tell, for the functions printed for one law. -/
import Derived.Test.YtljpdpfflmoheaaSRefScoreWeighs
namespace Go.Proofs.Ytljpdpfflmoheaa.SScoreWeighs
open Go Go.RowKit Go.Proofs.Ytljpdpfflmoheaa.PScoreWeighs Go.Proofs.YtljpdpfflmoheaaW.PrintWords Go.Proofs.YtljpdpfflmoheaaW.PrintLast Go.Proofs.YtljpdpfflmoheaaW.PrintMore Go.Proofs.Ytljpdpfflmoheaa.SSpec

theorem rall_l0 (l : List (Nat × Nat)) (hl : Fit l) (hm : l.length ≤ 140737488355328) : ∀ (j k i n d : Nat), j = l.length - i → i ≤ l.length → 18446744073709551620 + j < k → n < 18446744073709551616 → d < 18446744073709551616 →
    catchwordref19_All.l0 k (l.map toS) i n d = some (I3 (allFrom n d (l.drop i)))
  | 0, k, i, n, d, hj, hi, hk, hn, hd => by
    obtain ⟨k, rfl⟩ : ∃ m, k = m + 1 := ⟨k - 1, by omega⟩
    simp only [catchwordref19_All.l0]
    rw [if_neg (by rw [List.length_map]; omega), List.drop_eq_nil_of_le (by omega)]
    rfl
  | j + 1, k, i, n, d, hj, hi, hk, hn, hd => by
    obtain ⟨k, rfl⟩ : ∃ m, k = m + 1 := ⟨k - 1, by omega⟩
    have hx := hl (l[i]'(by omega)) (List.getElem_mem ..)
    simp only [catchwordref19_All.l0]
    rw [if_pos (by rw [List.length_map]; omega), if_pos (by omega), rd_toS l i (by omega), List.drop_eq_getElem_cons (show i < l.length by omega)]
    generalize l[i]'(by omega) = x at hx
    obtain ⟨a, b⟩ := x
    simp only [toS, allFrom] at hx ⊢
    rw [radd_f n d a b k hd hx.2 (by omega)]
    simp only [Option.bind_some, I3]
    have hf := add_fit n d a b
    split
    · rw [w64n (x := (i : Int) + 1) (i + 1) (by omega) (by omega), rall_l0 l hl hm j k (i + 1) _ _ (by omega) (by omega) (by omega) hf.1 hf.2]
      rfl
    · rfl
theorem rall_f (l : List (Nat × Nat)) (hl : Fit l) (hm : l.length ≤ 140737488355328) (k : Nat) (hk : 18446744073709551620 + l.length < k) : catchwordref19_All.f k (l.map toS) = some (I3 (allFrom 0 1 l)) := by
  unfold catchwordref19_All.f
  have := rall_l0 l hl hm l.length k 0 0 1 (by omega) (by omega) hk (by omega) (by omega)
  simpa using this
theorem rweight_f (t i n : Int) (k : Nat) (hk : 300 < k) : catchwordref19_Weight.f k t i n = some (I2 (weight t i n)) := by
  unfold catchwordref19_Weight.f weight
  by_cases h1 : t < 1
  · rw [if_pos h1, if_neg (by omega)]; rfl
  · rw [if_neg h1]
    by_cases h2 : t > 120
    · rw [if_pos h2, if_neg (by omega)]; rfl
    · rw [if_neg h2]
      by_cases h3 : i < 1
      · rw [if_pos h3, if_neg (by omega)]; rfl
      · rw [if_neg h3]
        by_cases h4 : i > 64
        · rw [if_pos h4, if_neg (by omega)]; rfl
        · rw [if_neg h4]
          by_cases h5 : n < 1
          · rw [if_pos h5, if_neg (by omega)]; rfl
          · rw [if_neg h5]
            by_cases h6 : n > 64
            · rw [if_pos h6, if_neg (by omega)]; rfl
            · rw [if_neg h6, if_pos (by omega)]
              obtain ⟨t, rfl⟩ : ∃ m : Nat, t = m := ⟨t.toNat, by omega⟩
              obtain ⟨i, rfl⟩ : ∃ m : Nat, i = m := ⟨i.toNat, by omega⟩
              obtain ⟨n, rfl⟩ : ∃ m : Nat, n = m := ⟨n.toNat, by omega⟩
              have hb : 3 * t * i ≤ 360 * 64 := Nat.mul_le_mul (by omega) (by omega)
              rw [w64n (x := 3 * (t : Int)) (3 * t) (by omega) (by omega), w64n (x := ((3 * t : Nat) : Int) * (i : Int)) (3 * t * i) (by simp) (by omega), w64n (x := (t : Int) + (n : Int)) (t + n) (by omega) (by omega),
                u64_nat _ (by omega), u64_nat _ (by omega), rmake_f _ _ k (by omega) (by omega) (by omega)]
              simp [I2, I3]

end Go.Proofs.Ytljpdpfflmoheaa.SScoreWeighs
