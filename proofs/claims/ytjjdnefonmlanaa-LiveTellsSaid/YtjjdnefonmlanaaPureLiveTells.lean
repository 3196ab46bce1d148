/- Of any lists which live, how many, whose are no more, and those of both, are what the document says: LiveTells answers true for every input. -/
import Derived.Test.YtjjdnefonmlanaaLRefALiveTells
namespace Go.Proofs.Ytjjdnefonmlanaa.Pure
open Go Go.RowKit Go.Proofs.Ytjjdnefonmlanaa.PLiveTells Go.Proofs.YtjjdnefonmlanaaW.PrintWords Go.Proofs.YtjjdnefonmlanaaW.PrintLast Go.Proofs.Ytjjdnefonmlanaa.VSpec Go.Proofs.Ytjjdnefonmlanaa.LSpec Go.Proofs.Ytjjdnefonmlanaa.VLiveTells

theorem LiveTells : catchwordlaw04_LiveTells.Pure := by
  intro a b i _ _ _
  obtain ⟨k, hk⟩ : ∃ k : Nat, 1000 ≤ k := ⟨1000, Nat.le_refl _⟩
  refine ⟨k + 1, ?_⟩
  unfold catchwordlaw04_LiveTells.f catchwordlaw04_few.f
  have skip : catchwordlaw04_LiveTells.j0 (k + 1) a b i true true = some true := by simp only [catchwordlaw04_LiveTells.j0, if_true]
  rw [live_awake' (k + 1) (by omega)]
  simp only [Option.bind_some, if_true, skip, decide_eq_true_eq]
  by_cases h : (a.length : Int) ≤ 100
  · rw [if_pos h]
    by_cases h' : (b.length : Int) ≤ 100
    · rw [decide_eq_true h']
      have hkl := kill_len a i
      have hbl : (both a b).length ≤ 100 := by
        by_cases he : a.length = b.length
        · rw [both_len a b he]; omega
        · unfold both; rw [if_neg he]; simp
      have hnl : (newR i).length ≤ 64 := by
        unfold newR; split
        · rw [List.length_replicate]; omega
        · simp
      simp only [catchwordlaw04_LiveTells.j0]
      rw [if_neg (by decide), kill_f a i (by omega), rkill_f a i (by omega), and_f a b (by omega) k (by omega), rand_f a b (by omega) k (by omega), new_f, rnew_f i k (by omega)]
      simp only [Option.bind_some]
      rw [bools_f _ _ (by omega) k (by omega), bools_f _ _ (by omega) k (by omega), bools_f _ _ (by omega) k (by omega)]
      simp only [Option.bind_some, beq_self_eq_true, if_true, lmay_f, rmay_f, count_f, rcount_f a (by omega) k (by omega), less_f, rless_f a b (by omega) k (by omega)]
    · rw [decide_eq_false h', Bool.not_false, skip]
  · rw [if_neg h]
end Go.Proofs.Ytjjdnefonmlanaa.Pure
