/- How much any word weighs, and what any numbers are together, is what the document says: ScoreWeighs answers true for every input. -/
import Derived.Test.YtljpdpfflmoheaaSRefAScoreWeighs
namespace Go.Proofs.Ytljpdpfflmoheaa.Pure
open Go Go.RowKit Go.Proofs.Ytljpdpfflmoheaa.PScoreWeighs Go.Proofs.YtljpdpfflmoheaaW.PrintWords Go.Proofs.YtljpdpfflmoheaaW.PrintLast Go.Proofs.Ytljpdpfflmoheaa.SSpec Go.Proofs.Ytljpdpfflmoheaa.SScoreWeighs

theorem awake_ScoreWeighs : catchwordlaw19_awake.f 100 = some true := by decide +kernel
theorem ScoreWeighs : catchwordlaw19_ScoreWeighs.Pure := by
  intro t i n l _ _ _ hl
  have hfit : ∃ m : List (Nat × Nat), l = m.map toS ∧ Fit m := by
    refine ⟨l.map (fun x => (x.f0.toNat, x.f1.toNat)), ?_, ?_⟩
    · rw [List.map_map]
      conv => lhs; rw [← List.map_id l]
      refine List.map_congr_left (fun x hx => ?_)
      obtain ⟨h0, h1⟩ := hl.2 x hx
      obtain ⟨p, hp, _⟩ := wf_u64 h0
      obtain ⟨q, hq, _⟩ := wf_u64 h1
      obtain ⟨x0, x1⟩ := x
      simp only at hp hq
      subst hp; subst hq
      rfl
    · intro y hy
      obtain ⟨x, hx, rfl⟩ := List.mem_map.1 hy
      obtain ⟨h0, h1⟩ := hl.2 x hx
      obtain ⟨p, hp, _⟩ := wf_u64 h0
      obtain ⟨q, hq, _⟩ := wf_u64 h1
      simp only [hp, hq]
      omega
  obtain ⟨m, rfl, hm⟩ := hfit
  have hlen : m.length ≤ 140737488355328 := by have := hl.1; rw [List.length_map] at this; omega
  have main : ∀ k, 18446744073709551720 + m.length < k → catchwordlaw19_ScoreWeighs.f (k + 2) t i n (m.map toS) = some true := by
    intro k hk
    unfold catchwordlaw19_ScoreWeighs.f
    rw [at_rounds (fun k => catchwordlaw19_awake.mono k) (show 100 ≤ k + 2 by omega) awake_ScoreWeighs]
    simp only [Option.bind_some, if_true, catchwordlaw19_ScoreWeighs.j0]
    cases h : decide (((m.map toS).length : Int) > 100) with
    | true => rfl
    | false =>
      rw [if_neg (by decide), all_f m hm hlen _ (by omega), rall_f m hm hlen _ (by omega), weight_f t i n _ (by omega), rweight_f t i n _ (by omega)]
      simp [catchwordlaw19_ScoreWeighs.j1]
  exact ⟨_, main (18446744073709551721 + m.length) (by omega)⟩

end Go.Proofs.Ytljpdpfflmoheaa.Pure
