/- Of two numbers that may be one is below the other one, or both are the same; what is below what is below is below: ScoreOrder answers true for every input. -/
import Derived.Test.YtljpdpfflmoheaaSFunScoreOrder
import Derived.Test.YtljpdpfflmoheaaSSum
namespace Go.Proofs.Ytljpdpfflmoheaa.Pure
open Go Go.RowKit Go.Proofs.Ytljpdpfflmoheaa.PScoreOrder Go.Proofs.YtljpdpfflmoheaaW.PrintWords Go.Proofs.YtljpdpfflmoheaaW.PrintLast Go.Proofs.Ytljpdpfflmoheaa.SSpec Go.Proofs.Ytljpdpfflmoheaa.SScoreOrder

theorem awake_ScoreOrder : catchwordlaw19_awake.f 100 = some true := by decide +kernel
theorem ScoreOrder : catchwordlaw19_ScoreOrder.Pure := by
  intro a b c d e f wa wb wc wd we wf
  obtain ⟨a, rfl, ha⟩ := wf_u64 wa
  obtain ⟨b, rfl, hb⟩ := wf_u64 wb
  obtain ⟨c, rfl, hc⟩ := wf_u64 wc
  obtain ⟨d, rfl, hd⟩ := wf_u64 wd
  obtain ⟨e, rfl, he⟩ := wf_u64 we
  obtain ⟨f, rfl, hf⟩ := wf_u64 wf
  have main : ∀ k, 18446744073709551616 < k → catchwordlaw19_ScoreOrder.f (k + 2) a b c d e f = some true := by
    intro k hk
    unfold catchwordlaw19_ScoreOrder.f
    rw [at_rounds (fun k => catchwordlaw19_awake.mono k) (show 100 ≤ k + 2 by omega) awake_ScoreOrder]
    simp only [Option.bind_some, if_true]
    have skip : catchwordlaw19_ScoreOrder.j0 (k + 2) true true a b c d e f = some true := by simp only [catchwordlaw19_ScoreOrder.j0, if_true]
    rw [may_f a b _ ha hb (by omega)]
    simp only [Option.bind_some]
    by_cases h1 : may a b = true
    · rw [if_pos h1, may_f c d _ hc hd (by omega)]
      simp only [Option.bind_some]
      by_cases h2 : may c d = true
      · rw [if_pos h2, may_f e f _ he hf (by omega)]
        simp only [Option.bind_some]
        cases h3 : may e f with
        | false => exact skip
        | true =>
          simp only [catchwordlaw19_ScoreOrder.j0, catchwordlaw19_ScoreOrder.j1, Bool.not_true]
          rw [if_neg (by decide), less_f a b c d _ ha hb hc hd (by omega) (by omega), less_f c d a b _ hc hd ha hb (by omega) (by omega), less_f c d e f _ hc hd he hf (by omega) (by omega), less_f a b e f _ ha hb he hf (by omega) (by omega)]
          simp only [Option.bind_some]
          have hs := less_some h1 h2
          have hne : (!((a : Int) == c) || !((b : Int) == d)) = true ↔ ¬ (a = c ∧ b = d) := by
            simp only [Bool.or_eq_true, Bool.not_eq_true', beq_eq_false_iff_ne, ne_eq]
            omega
          cases l1 : less a b c d with
          | true =>
            have hq := hne.2 (hs.1 (.inl l1))
            rw [if_pos rfl, hq, if_pos (by decide), less_one h1 h2 l1, if_neg (by decide)]
            cases l2 : less c d e f with
            | true => rw [if_pos rfl, less_trans h1 h2 h3 l1 l2]
            | false => rw [if_neg (by decide)]
          | false =>
            rw [if_neg (by decide)]
            cases l2 : less c d a b with
            | true => rw [hne.2 (hs.1 (.inr l2)), if_pos (by decide)]
            | false =>
              have : (!((a : Int) == c) || !((b : Int) == d)) = false := by
                rw [Bool.eq_false_iff]
                intro hh
                rcases hs.2 (hne.1 hh) with h | h
                · rw [l1] at h; cases h
                · rw [l2] at h; cases h
              rw [this, if_pos (by decide)]
      · rw [if_neg h2, skip]
    · rw [if_neg h1, skip]
  exact ⟨18446744073709551620, main 18446744073709551618 (by omega)⟩

end Go.Proofs.Ytljpdpfflmoheaa.Pure
