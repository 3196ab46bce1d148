/- A frame that is cut, or has more behind it, is none: FrameCuts answers true for every input. -/
import Derived.Test.YtoedahdhlcagkaaFFunFrameCuts
import Derived.Test.YtoedahdhlcagkaaFCut
import Derived.Test.YtoedahdhlcagkaaVList
namespace Go.Proofs.Ytoedahdhlcagkaa.Pure
open Go Go.RowKit Go.Proofs.Ytoedahdhlcagkaa.PFrameCuts Go.Proofs.YtoedahdhlcagkaaW.PrintWords Go.Proofs.YtoedahdhlcagkaaW.PrintLast Go.Proofs.Ytoedahdhlcagkaa.VSpec Go.Proofs.Ytoedahdhlcagkaa.FSpec Go.Proofs.Ytoedahdhlcagkaa.VFrameCuts

theorem awake_FrameCuts : catchwordlaw02_awake.f 100 = some true := by decide +kernel
theorem cuts_done (k : Nat) (a1 a2 : Int) (l w : List Int) : catchwordlaw02_FrameCuts.j0 (k + 1) a1 a2 l true w true = some true := by
  simp only [catchwordlaw02_FrameCuts.j0, if_true]
theorem FrameCuts : catchwordlaw02_FrameCuts.Pure := by
  intro b kind cut more _ _ hb hk _ _ _ hm
  have hb := Byt.of hb
  have hk := wf_u8 hk
  have hm := Byt.of hm
  refine ⟨b.length + 401, ?_⟩
  unfold catchwordlaw02_FrameCuts.f
  rw [at_rounds (fun k => catchwordlaw02_awake.mono k) (show 100 ≤ b.length + 401 by omega) awake_FrameCuts, Option.bind_some, wrap_f kind b hk hb _ (by omega), Option.bind_some, if_pos rfl]
  by_cases h : (b.length : Int) > 2000
  · rw [if_pos h, cuts_done]
  · rw [if_neg h]
    have hw : wrapR kind b = wrap kind b := if_pos (by omega)
    have hl := wrap_len (k := kind) (b := b) (by omega)
    rw [hw]
    by_cases h0 : cut < 0
    · rw [if_pos h0, cuts_done]
    · rw [if_neg h0]
      by_cases h1 : cut ≥ ((wrap kind b).length : Int)
      · rw [if_pos h1, cuts_done]
      · rw [if_neg h1]
        by_cases h2 : (more.length : Int) > 100
        · rw [decide_eq_true h2, cuts_done]
        · rw [decide_eq_false h2]
          simp only [catchwordlaw02_FrameCuts.j0]
          have hwb := wrap_byt hk hb
          rw [if_neg (by decide), if_pos (by omega), if_pos (by omega), open_f _ kind (hwb.take _) (by rw [List.length_take]; omega) _ (by rw [List.length_take]; omega), Option.bind_some]
          rw [if_pos (by simp only [List.length_nil]; omega), Option.bind_some, List.nil_append, if_pos (by omega)]
          rw [open_f _ kind (hwb.app hm) (by rw [List.length_append]; omega) _ (by rw [List.length_append]; omega), Option.bind_some, if_pos (open_cut hb (by omega) _ (by omega))]
          by_cases hn : more = []
          · subst hn
            rw [if_pos (show (([] : List Int).length : Int) = 0 from rfl), List.append_nil, open_wrap (by omega), if_pos rfl]
          · have := List.length_pos_iff.2 hn
            rw [if_neg (by omega), open_more (by omega) hn, if_pos (by omega)]
            rfl
end Go.Proofs.Ytoedahdhlcagkaa.Pure
