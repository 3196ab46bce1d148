/- The chapter's example, and what Pack tells, for the functions printed for one law. -/
import Derived.Test.YtepmcdcncjimeaaQUnpPostPacks
namespace Go.Proofs.Ytepmcdcncjimeaa.VPostPacks
set_option linter.unusedVariables false
set_option linter.unusedSimpArgs false
open Go Go.RowKit Go.Proofs.Ytepmcdcncjimeaa.PPostPacks Go.Proofs.YtepmcdcncjimeaaW.PrintWords Go.Proofs.YtepmcdcncjimeaaW.PrintLast Go.Proofs.YtepmcdcncjimeaaW.PrintMore Go.Proofs.Ytepmcdcncjimeaa.VSpec

theorem pack_f (l : List S39) (hm : l.length ≤ 4398046511104) (hp : ∀ p ∈ l, p.f1.length ≤ 140737488355328) (k : Nat) (hk : 2 * l.length + 200 < k) : post_Pack.f k l = some (if mayR l = true then (packF l, 0) else ([], 1)) := by
  unfold post_Pack.f
  rw [may_f l hm hp k hk, Option.bind_some]
  cases hmo : mayR l
  · rw [if_neg (by decide), if_neg (by decide)]
  · obtain ⟨h1, h2, _⟩ := mayR_iff.1 hmo
    rw [if_pos rfl, if_pos rfl, if_pos ⟨by omega, fun p hp => (okP_iff.1 (h1 p hp)).2.1⟩]
theorem awake_f : catchwordlaw06_awake.f = some true := rfl
end Go.Proofs.Ytepmcdcncjimeaa.VPostPacks
