/- Any list has the bytes, and any bytes have the list, from any place on, that the document says: VintLists answers true for every input. -/
import Derived.Test.YtmgmpdlceepjdaaRReadVintLists
namespace Go.Proofs.Ytmgmpdlceepjdaa.Pure
open Go Go.RowKit Go.Proofs.Ytmgmpdlceepjdaa.PVintLists Go.Proofs.YtmgmpdlceepjdaaW.PrintWords Go.Proofs.YtmgmpdlceepjdaaW.PrintLast Go.Proofs.Ytmgmpdlceepjdaa.VSpec Go.Proofs.Ytmgmpdlceepjdaa.VVintLists

theorem awake_VintLists : catchwordlaw01_awake.f 100 = some true := by decide +kernel
theorem VintLists : catchwordlaw01_VintLists.Pure := by
  intro l b a _ hl _ _ hm hb _
  refine ⟨l.length + 30001, ?_⟩
  unfold catchwordlaw01_VintLists.f
  rw [at_rounds (fun k => catchwordlaw01_awake.mono k) (show 100 ≤ l.length + 30001 by omega) awake_VintLists]
  simp only [Option.bind_some, if_true]
  have key : ∀ t : Bool, catchwordlaw01_VintLists.j0 (l.length + 30001) l b a true t = some true := by
    intro t
    simp only [catchwordlaw01_VintLists.j0]
    cases t with
    | true => rfl
    | false =>
      have hb' := Byt.of hb
      rw [if_neg (by decide), read_f b a hb' (by omega) _ (by omega), rread_f b a hb' (by omega) _ (by omega), rise_f l (by omega) _ (by omega), rrise_f l (by omega) _ (by omega)]
      have h1 := readR_len (a := a) hb'
      have h2 := riseR_len (l := l)
      simp only [Option.bind_some]
      rw [ints_f _ _ (by omega) _ (by omega), bytes_f _ _ (by omega) _ (by omega)]
      simp
  by_cases h : (l.length : Int) > 2100
  · rw [if_pos h, key]
  · rw [if_neg h, key]

end Go.Proofs.Ytmgmpdlceepjdaa.Pure
