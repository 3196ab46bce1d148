/- What the program's All tells, for the functions printed for one law. -/
import Derived.Test.YtljpdpfflmoheaaSFunScoreTells
import Derived.Test.YtljpdpfflmoheaaSSum
namespace Go.Proofs.Ytljpdpfflmoheaa.SScoreTells
open Go Go.RowKit Go.Proofs.Ytljpdpfflmoheaa.PScoreTells Go.Proofs.YtljpdpfflmoheaaW.PrintWords Go.Proofs.YtljpdpfflmoheaaW.PrintLast Go.Proofs.YtljpdpfflmoheaaW.PrintMore Go.Proofs.Ytljpdpfflmoheaa.SSpec

def toS (x : Nat × Nat) : S24 := ⟨(x.1 : Int), (x.2 : Int)⟩
/-- Each number's parts are of 64 bits. -/
def Fit (l : List (Nat × Nat)) : Prop := ∀ x ∈ l, x.1 < 18446744073709551616 ∧ x.2 < 18446744073709551616
theorem rd_toS (l : List (Nat × Nat)) (i : Nat) (h : i < l.length) : rd_T24 (l.map toS) (i : Int) = toS (l[i]) := by
  simp [rd_T24, List.getD_eq_getElem?_getD, List.getElem?_eq_getElem h]
theorem add_fit (a b c d : Nat) : (add a b c d).1 < 18446744073709551616 ∧ (add a b c d).2.1 < 18446744073709551616 := by
  unfold add
  split
  · rename_i h
    have := mk_le (n := a * d + c * b) (d := b * d)
    omega
  · simp
theorem all_l0 (l : List (Nat × Nat)) (hl : Fit l) (hm : l.length ≤ 140737488355328) : ∀ (j k i n d : Nat), j = l.length - i → i ≤ l.length → 18446744073709551617 + j < k → n < 18446744073709551616 → d < 18446744073709551616 →
    score_All.l0 k (l.map toS) (l.length : Int) i n d = some (I3 (allFrom n d (l.drop i)))
  | 0, k, i, n, d, hj, hi, hk, hn, hd => by
    obtain ⟨k, rfl⟩ : ∃ m, k = m + 1 := ⟨k - 1, by omega⟩
    simp only [score_All.l0]
    rw [if_neg (by omega), List.drop_eq_nil_of_le (by omega)]
    rfl
  | j + 1, k, i, n, d, hj, hi, hk, hn, hd => by
    obtain ⟨k, rfl⟩ : ∃ m, k = m + 1 := ⟨k - 1, by omega⟩
    have hx := hl (l[i]'(by omega)) (List.getElem_mem ..)
    simp only [score_All.l0]
    rw [if_pos (by omega), if_pos (by omega), if_pos (by rw [List.length_map]; omega), rd_toS l i (by omega), List.drop_eq_getElem_cons (show i < l.length by omega)]
    generalize l[i]'(by omega) = x at hx
    obtain ⟨a, b⟩ := x
    simp only [toS, allFrom] at hx ⊢
    rw [add_f n d a b k hn hd hx.1 hx.2 (by omega)]
    simp only [Option.bind_some, I3]
    have hf := add_fit n d a b
    split
    · rw [w64n (x := (i : Int) + 1) (i + 1) (by omega) (by omega), all_l0 l hl hm j k (i + 1) _ _ (by omega) (by omega) (by omega) hf.1 hf.2]
      rfl
    · rfl
theorem all_f (l : List (Nat × Nat)) (hl : Fit l) (hm : l.length ≤ 140737488355328) (k : Nat) (hk : 18446744073709551617 + l.length < k) : score_All.f k (l.map toS) = some (I3 (allFrom 0 1 l)) := by
  unfold score_All.f
  have := all_l0 l hl hm l.length k 0 0 1 (by omega) (by omega) hk (by omega) (by omega)
  rw [List.length_map]
  simpa using this

end Go.Proofs.Ytljpdpfflmoheaa.SScoreTells
