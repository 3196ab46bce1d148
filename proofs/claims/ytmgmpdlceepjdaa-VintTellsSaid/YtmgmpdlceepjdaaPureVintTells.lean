/- Any number has the bytes, and any bytes have the number, from any place on, that the document says: VintTells answers true for every input. -/
import Derived.Test.YtmgmpdlceepjdaaRGetVintTells
namespace Go.Proofs.Ytmgmpdlceepjdaa.Pure
open Go Go.RowKit Go.Proofs.Ytmgmpdlceepjdaa.PVintTells Go.Proofs.YtmgmpdlceepjdaaW.PrintWords Go.Proofs.YtmgmpdlceepjdaaW.PrintLast Go.Proofs.Ytmgmpdlceepjdaa.VSpec Go.Proofs.Ytmgmpdlceepjdaa.VVintTells

theorem awake_VintTells : catchwordlaw01_awake.f 100 = some true := by decide +kernel
theorem VintTells : catchwordlaw01_VintTells.Pure := by
  intro n b a _ _ hm hb _
  refine ⟨101, ?_⟩
  unfold catchwordlaw01_VintTells.f
  rw [at_rounds (fun k => catchwordlaw01_awake.mono k) (show 100 ≤ 101 by decide) awake_VintTells]
  simp only [Option.bind_some, if_true, catchwordlaw01_VintTells.j0]
  by_cases h : (b.length : Int) > 3000
  · simp [h]
  · rw [if_neg (by simpa using h), get_f b a (Byt.of hb) (by omega) 100 (by omega), rget_f b a (Byt.of hb) (by omega) 100 (by omega), put_f n 100 (by omega), rput_f n 100 (by omega)]
    have h5 : (putR n).length ≤ 5 := by
      unfold putR; split
      · rename_i hn; exact hn.len
      · simp
    simp only [Option.bind_some]
    rw [bytes_f _ _ (by omega) 100 (by omega)]
    simp

end Go.Proofs.Ytmgmpdlceepjdaa.Pure
