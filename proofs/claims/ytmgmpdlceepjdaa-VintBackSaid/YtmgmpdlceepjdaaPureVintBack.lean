/- A number's bytes are read as it, whatever stands ahead of them, and behind: VintBack answers true for every input. -/
import Derived.Test.YtmgmpdlceepjdaaVGetVintBack
import Derived.Test.YtmgmpdlceepjdaaVList
namespace Go.Proofs.Ytmgmpdlceepjdaa.Pure
open Go Go.RowKit Go.Proofs.Ytmgmpdlceepjdaa.PVintBack Go.Proofs.YtmgmpdlceepjdaaW.PrintWords Go.Proofs.YtmgmpdlceepjdaaW.PrintLast Go.Proofs.Ytmgmpdlceepjdaa.VSpec Go.Proofs.Ytmgmpdlceepjdaa.VVintBack

theorem awake_VintBack : catchwordlaw01_awake.f 100 = some true := by decide +kernel
theorem VintBack : catchwordlaw01_VintBack.Pure := by
  intro n h t _ _ hh hbh _ ht hbt
  refine ⟨101, ?_⟩
  unfold catchwordlaw01_VintBack.f
  rw [at_rounds (fun k => catchwordlaw01_awake.mono k) (show 100 ≤ 101 by omega) awake_VintBack, put_f n _ (by omega)]
  simp only [Option.bind_some, if_true]
  have key : (if ((putR n).length : Int) > 0 then (some true) else (if n < 0 then (some true) else (some (decide (n > 34359738367))))) = some true := by
    by_cases hn : Num n
    · have hp := enc_pos n
      rw [if_pos (by unfold putR; rw [if_pos hn]; omega)]
    · rw [if_neg (by unfold putR; rw [if_neg hn]; simp)]
      by_cases h0 : n < 0
      · rw [if_pos h0]
      · rw [if_neg h0]
        unfold Num at hn
        rw [decide_eq_true (by omega)]
  by_cases h1 : (h.length : Int) > 1000
  · rw [if_pos h1, key]
  · rw [if_neg h1]
    by_cases h2 : (t.length : Int) > 1000
    · rw [if_pos h2, key]
    · rw [if_neg h2]
      by_cases hn : Num n
      · have hp := enc_pos n
        have h5 := hn.len
        have e : putR n = enc n := by unfold putR; rw [if_pos hn]
        rw [e, if_neg (by omega), if_pos (by simp; omega)]
        simp only [List.nil_append]
        rw [if_pos (by omega), if_pos (by simp; omega), get_f (h ++ enc n ++ t) _ (((Byt.of hbh).app (enc_byt hn.1)).app (Byt.of hbt)) (by simp; omega) _ (by omega), decR_enc hn]
        simp only [Option.bind_some]
        rw [if_pos trivial, w64 (by omega) (by omega), if_pos (by omega), if_pos trivial, decide_eq_true (by omega)]
      · rw [if_pos (by unfold putR; rw [if_neg hn]; rfl), key]

end Go.Proofs.Ytmgmpdlceepjdaa.Pure
