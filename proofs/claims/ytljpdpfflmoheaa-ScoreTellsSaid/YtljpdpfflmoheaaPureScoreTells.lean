/- Any numbers may be, or not, are below one another, and have the sum, or none, that the document says: ScoreTells answers true for every input. -/
import Derived.Test.YtljpdpfflmoheaaSRefLScoreTells
namespace Go.Proofs.Ytljpdpfflmoheaa.Pure
open Go Go.RowKit Go.Proofs.Ytljpdpfflmoheaa.PScoreTells Go.Proofs.YtljpdpfflmoheaaW.PrintWords Go.Proofs.YtljpdpfflmoheaaW.PrintLast Go.Proofs.Ytljpdpfflmoheaa.SSpec Go.Proofs.Ytljpdpfflmoheaa.SScoreTells

theorem awake_ScoreTells : catchwordlaw19_awake.f 100 = some true := by decide +kernel
theorem ScoreTells : catchwordlaw19_ScoreTells.Pure := by
  intro a b c d wa wb wc wd
  obtain ⟨a, rfl, ha⟩ := wf_u64 wa
  obtain ⟨b, rfl, hb⟩ := wf_u64 wb
  obtain ⟨c, rfl, hc⟩ := wf_u64 wc
  obtain ⟨d, rfl, hd⟩ := wf_u64 wd
  have main : ∀ k, 36893488147419103301 < k → catchwordlaw19_ScoreTells.f (k + 1) a b c d = some true := by
    intro k hk
    unfold catchwordlaw19_ScoreTells.f
    rw [at_rounds (fun k => catchwordlaw19_awake.mono k) (show 100 ≤ k + 1 by omega) awake_ScoreTells, add_f a b c d _ ha hb hc hd (by omega), radd_f a b c d _ hb hd (by omega), make_f a b _ ha hb (by omega), rmake_f a b _ ha hb (by omega),
      may_f a b _ ha hb (by omega), rmay_f a b _ (by omega), less_f a b c d _ ha hb hc hd (by omega) (by omega), rless_f a b c d _ ha hb hc hd (by omega)]
    simp [catchwordlaw19_ScoreTells.j0]
  exact ⟨36893488147419103304, main 36893488147419103303 (by omega)⟩

end Go.Proofs.Ytljpdpfflmoheaa.Pure
