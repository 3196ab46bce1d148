/- Lists are ordered by what lives: LiveOrder answers true for every input. -/
import Derived.Test.YtjjdnefonmlanaaLFunLiveOrder
namespace Go.Proofs.Ytjjdnefonmlanaa.Pure
open Go Go.RowKit Go.Proofs.Ytjjdnefonmlanaa.PLiveOrder Go.Proofs.YtjjdnefonmlanaaW.PrintWords Go.Proofs.YtjjdnefonmlanaaW.PrintLast Go.Proofs.Ytjjdnefonmlanaa.VSpec Go.Proofs.Ytjjdnefonmlanaa.LSpec Go.Proofs.Ytjjdnefonmlanaa.VLiveOrder

theorem LiveOrder : catchwordlaw04_LiveOrder.Pure := by
  intro a b c _ _ _
  refine ⟨1000, ?_⟩
  unfold catchwordlaw04_LiveOrder.f catchwordlaw04_few.f
  have skip : catchwordlaw04_LiveOrder.j0 1000 a b c true true = some true := by simp only [catchwordlaw04_LiveOrder.j0, if_true]
  rw [live_awake' _ (by omega)]
  simp only [Option.bind_some, if_true, skip, decide_eq_true_eq]
  by_cases h : (a.length : Int) ≤ 100
  · rw [if_pos h]
    by_cases h' : (b.length : Int) ≤ 100
    · rw [if_pos h']
      by_cases h'' : (c.length : Int) ≤ 100
      · rw [decide_eq_true h'']
        have hs := le_same a b
        have ht := le_trans a b c
        have hc := le_count a b
        simp only [catchwordlaw04_LiveOrder.j0, Bool.not_true]
        rw [if_neg (by decide), bools_f a b (by omega) _ (by omega)]
        simp only [Option.bind_some, less_f, count_f, le_refl, if_true, ← hs]
        cases hab : le a b
        · simp
        · have hc := hc hab
          have hci : ((a.count true : Nat) : Int) ≤ ((b.count true : Nat) : Int) := by omega
          rw [decide_eq_true hci]
          cases hbc : le b c
          · simp
          · simp [ht hab hbc]
      · rw [decide_eq_false h'', Bool.not_false, skip]
    · rw [if_neg h']
  · rw [if_neg h]
end Go.Proofs.Ytjjdnefonmlanaa.Pure
