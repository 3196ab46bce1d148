/- What is wrapped is opened as it, as of its kind alone: FrameBack answers true for every input. -/
import Derived.Test.YtoedahdhlcagkaaFFunFrameBack
import Derived.Test.YtoedahdhlcagkaaFCut
import Derived.Test.YtoedahdhlcagkaaVList
namespace Go.Proofs.Ytoedahdhlcagkaa.Pure
open Go Go.RowKit Go.Proofs.Ytoedahdhlcagkaa.PFrameBack Go.Proofs.YtoedahdhlcagkaaW.PrintWords Go.Proofs.YtoedahdhlcagkaaW.PrintLast Go.Proofs.Ytoedahdhlcagkaa.VSpec Go.Proofs.Ytoedahdhlcagkaa.FSpec Go.Proofs.Ytoedahdhlcagkaa.VFrameBack

theorem awake_FrameBack : catchwordlaw02_awake.f 100 = some true := by decide +kernel
theorem FrameBack : catchwordlaw02_FrameBack.Pure := by
  intro b kind other _ _ hb hk ho
  have hb := Byt.of hb
  have hk := wf_u8 hk
  have ho := wf_u8 ho
  refine ⟨b.length + 201, ?_⟩
  unfold catchwordlaw02_FrameBack.f
  rw [at_rounds (fun k => catchwordlaw02_awake.mono k) (show 100 ≤ b.length + 201 by omega) awake_FrameBack]
  simp only [Option.bind_some, if_true, catchwordlaw02_FrameBack.j0]
  by_cases h : b.length > 2000
  · rw [if_pos (decide_eq_true (by omega))]
  · rw [if_neg (by simp; omega), wrap_f kind b hk hb _ (by omega), Option.bind_some]
    have hw : wrapR kind b = wrap kind b := if_pos (by omega)
    have hl := wrap_len (k := kind) (b := b) (by omega)
    rw [hw, open_f _ kind (wrap_byt hk hb) (by omega) _ (by omega), Option.bind_some, open_f _ other (wrap_byt hk hb) (by omega) _ (by omega), Option.bind_some, open_wrap (by omega), bytes_f b b (by omega) _ (by omega), Option.bind_some, if_pos (beq_self_eq_true _), if_pos rfl]
    by_cases he : kind = other
    · subst he
      rw [if_pos rfl, open_wrap (by omega), if_pos rfl]
    · rw [if_neg he, open_other b he, if_pos rfl]
      rfl
end Go.Proofs.Ytoedahdhlcagkaa.Pure
