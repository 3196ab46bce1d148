/- What is opened, wrapped again, is the same bytes: FrameOnce answers true for every input. -/
import Derived.Test.YtoedahdhlcagkaaFFunFrameOnce
import Derived.Test.YtoedahdhlcagkaaFCut
import Derived.Test.YtoedahdhlcagkaaVList
namespace Go.Proofs.Ytoedahdhlcagkaa.Pure
open Go Go.RowKit Go.Proofs.Ytoedahdhlcagkaa.PFrameOnce Go.Proofs.YtoedahdhlcagkaaW.PrintWords Go.Proofs.YtoedahdhlcagkaaW.PrintLast Go.Proofs.Ytoedahdhlcagkaa.VSpec Go.Proofs.Ytoedahdhlcagkaa.FSpec Go.Proofs.Ytoedahdhlcagkaa.VFrameOnce

theorem awake_FrameOnce : catchwordlaw02_awake.f 100 = some true := by decide +kernel
theorem FrameOnce : catchwordlaw02_FrameOnce.Pure := by
  intro b kind _ _ hb hk
  have hb := Byt.of hb
  have hk := wf_u8 hk
  refine ⟨b.length + 201, ?_⟩
  unfold catchwordlaw02_FrameOnce.f
  rw [at_rounds (fun k => catchwordlaw02_awake.mono k) (show 100 ≤ b.length + 201 by omega) awake_FrameOnce]
  simp only [Option.bind_some, if_true, catchwordlaw02_FrameOnce.j0]
  by_cases h : b.length > 3000
  · rw [if_pos (decide_eq_true (by omega))]
  · rw [if_neg (by simp; omega), open_f b kind hb (by omega) _ (by omega), Option.bind_some]
    by_cases he : (openR b kind).2 = 0
    · obtain ⟨hw, hl⟩ := wrap_open (x := (openR b kind).1) hb (Prod.ext rfl he)
      have hx : Byt (openR b kind).1 := fun x hx => hb x (by
        have : x ∈ wrap kind (openR b kind).1 := List.mem_append_left _ (List.mem_append_right _ hx)
        rw [hw] at this
        exact this)
      have hlen := wrap_length kind (openR b kind).1
      rw [hw] at hlen
      rw [if_pos he, wrap_f kind _ hk hx _ (by omega), Option.bind_some, wrapR, if_pos hl, hw, bytes_f b b (by omega) _ (by omega), Option.bind_some, beq_self_eq_true]
    · obtain ⟨h1, h2⟩ := open_err he
      rw [if_neg he, h1, if_pos (show (([] : List Int).length : Int) = 0 from rfl)]
      rcases h2 with h2 | h2
      · rw [if_pos h2]
      · rw [h2, if_neg (by decide)]; rfl
end Go.Proofs.Ytoedahdhlcagkaa.Pure
