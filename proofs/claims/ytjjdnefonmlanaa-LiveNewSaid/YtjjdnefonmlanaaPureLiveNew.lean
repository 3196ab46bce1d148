/- Of those that begin all live; nothing lives more than they: LiveNew answers true for every input. -/
import Derived.Test.YtjjdnefonmlanaaLFunLiveNew
namespace Go.Proofs.Ytjjdnefonmlanaa.Pure
open Go Go.RowKit Go.Proofs.Ytjjdnefonmlanaa.PLiveNew Go.Proofs.YtjjdnefonmlanaaW.PrintWords Go.Proofs.YtjjdnefonmlanaaW.PrintLast Go.Proofs.Ytjjdnefonmlanaa.VSpec Go.Proofs.Ytjjdnefonmlanaa.LSpec Go.Proofs.Ytjjdnefonmlanaa.VLiveNew

theorem LiveNew : catchwordlaw04_LiveNew.Pure := by
  intro n l _ _
  refine ⟨1000, ?_⟩
  unfold catchwordlaw04_LiveNew.f catchwordlaw04_few.f
  rw [live_awake' _ (by omega)]
  simp only [Option.bind_some, if_true, catchwordlaw04_LiveNew.j0]
  by_cases h : l.length ≤ 100
  · rw [if_neg (by simp; omega), new_f, Option.bind_some]
    unfold newR
    by_cases h0 : n < 0
    · rw [if_pos h0, if_neg (by omega)]
      simp [catchwordlaw04_LiveNew.j1]
    · rw [if_neg h0]
      by_cases h1 : n ≤ 64
      · obtain ⟨n, rfl⟩ : ∃ m : Nat, n = m := ⟨n.toNat, by omega⟩
        rw [if_pos ⟨by omega, h1⟩, decide_eq_false (by omega)]
        simp only [catchwordlaw04_LiveNew.j1, Int.toNat_natCast, List.length_replicate, if_true]
        rw [if_neg (by decide), count_f, lmay_f, less_f]
        simp only [Option.bind_some, List.count_replicate_self, if_true, List.length_replicate]
        rw [if_pos (decide_eq_true (by omega))]
        by_cases h2 : (l.length : Int) = n
        · rw [if_pos h2]
          obtain rfl : n = l.length := by omega
          rw [le_new]
        · rw [if_neg h2]
      · rw [if_neg (by omega), decide_eq_true (by omega)]
        simp [catchwordlaw04_LiveNew.j1]
  · rw [if_pos (by simp; omega)]
end Go.Proofs.Ytjjdnefonmlanaa.Pure
