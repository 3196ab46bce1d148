/- And is below both, and above all that is: LiveBoth answers true for every input. -/
import Derived.Test.YtjjdnefonmlanaaLFunLiveBoth
namespace Go.Proofs.Ytjjdnefonmlanaa.Pure
open Go Go.RowKit Go.Proofs.Ytjjdnefonmlanaa.PLiveBoth Go.Proofs.YtjjdnefonmlanaaW.PrintWords Go.Proofs.YtjjdnefonmlanaaW.PrintLast Go.Proofs.Ytjjdnefonmlanaa.VSpec Go.Proofs.Ytjjdnefonmlanaa.LSpec Go.Proofs.Ytjjdnefonmlanaa.VLiveBoth

theorem LiveBoth : catchwordlaw04_LiveBoth.Pure := by
  intro a b c _ _ _
  have hma : a.length ≤ 140737488351232 := by have := ‹a.length * 1 ≤ 140737488351232 ∧ _›.1; omega
  have hmb : b.length ≤ 140737488351232 := by have := ‹b.length * 1 ≤ 140737488351232 ∧ _›.1; omega
  refine ⟨a.length + b.length + 1000, ?_⟩
  unfold catchwordlaw04_LiveBoth.f catchwordlaw04_few.f
  have skip : catchwordlaw04_LiveBoth.j0 (a.length + b.length + 1000) a b c true true = some true := by
    simp only [catchwordlaw04_LiveBoth.j0, if_true]
    by_cases h : (a.length : Int) = (b.length : Int)
    · rw [if_pos h]
    · rw [if_neg h, and_f a b (by omega) _ (by omega)]
      unfold both
      rw [if_neg (by omega)]
      rfl
  rw [live_awake' _ (by omega)]
  simp only [Option.bind_some, if_true, skip, decide_eq_true_eq]
  by_cases h : (a.length : Int) ≤ 100
  · rw [if_pos h]
    by_cases h' : (b.length : Int) ≤ 100
    · rw [if_pos h']
      by_cases h'' : (c.length : Int) ≤ 100
      · rw [if_pos h'']
        by_cases he : a.length = b.length
        · rw [show ((a.length : Int) != (b.length : Int)) = false by rw [bne_eq_false_iff_eq]; omega]
          simp only [catchwordlaw04_LiveBoth.j0]
          have hl := both_len a b he
          have hl' := both_len b a he.symm
          have hb := both_le a b he
          have hc := le_both c a b he
          rw [show List.zipWith (fun x y => x && y) a b = both a b by unfold both; rw [if_pos he]] at hc
          rw [if_neg (by decide), and_f a b (by omega) _ (by omega), and_f b a (by omega) _ (by omega), and_f a a (by omega) _ (by omega)]
          simp only [Option.bind_some]
          rw [bools_f _ _ (by omega) _ (by omega), both_self, bools_f _ _ (by omega) _ (by omega), both_comm b a]
          simp only [Option.bind_some, less_f, beq_self_eq_true, if_true, hb.1, hb.2, ← hc]
          cases le c a <;> simp
        · rw [show ((a.length : Int) != (b.length : Int)) = true by rw [bne_iff_ne]; omega, skip]
      · rw [if_neg h'']
    · rw [if_neg h']
  · rw [if_neg h]
end Go.Proofs.Ytjjdnefonmlanaa.Pure
