/- What is read, a number, or a list, is put again by just the bytes that were read: VintTwice answers true for every input. -/
import Derived.Test.YtmgmpdlceepjdaaVReadVintTwice
namespace Go.Proofs.Ytmgmpdlceepjdaa.Pure
open Go Go.RowKit Go.Proofs.Ytmgmpdlceepjdaa.PVintTwice Go.Proofs.YtmgmpdlceepjdaaW.PrintWords Go.Proofs.YtmgmpdlceepjdaaW.PrintLast Go.Proofs.Ytmgmpdlceepjdaa.VSpec Go.Proofs.Ytmgmpdlceepjdaa.VVintTwice

theorem awake_VintTwice : catchwordlaw01_awake.f 100 = some true := by decide +kernel
theorem VintTwice : catchwordlaw01_VintTwice.Pure := by
  intro b a _ hm hb _
  have hb' := Byt.of hb
  refine ⟨20002, ?_⟩
  unfold catchwordlaw01_VintTwice.f
  rw [at_rounds (fun k => catchwordlaw01_awake.mono k) (show 100 ≤ 20002 by omega) awake_VintTwice]
  simp only [Option.bind_some, if_true, catchwordlaw01_VintTwice.j0]
  by_cases h : (b.length : Int) > 3000
  · simp [h]
  · rw [if_neg (by simpa using h), get_f b a hb' (by omega) _ (by omega), read_f b a hb' (by omega) _ (by omega)]
    simp only [Option.bind_some]
    have key : ∀ k, 18000 ≤ k → catchwordlaw01_VintTwice.j1 k b a (readR b a).1 (readR b a).2.1 (readR b a).2.2 = some true := by
      intro k hk
      obtain ⟨k, rfl⟩ : ∃ m, k = m + 1 := ⟨k - 1, by omega⟩
      simp only [catchwordlaw01_VintTwice.j1]
      by_cases h0 : (readR b a).2.2 = 0
      · obtain ⟨z1, q, z2, z3, z4, z5⟩ := readR_ok hb' h0
        have hlen : (readR b a).1.length ≤ 2000 := by
          have : (riseR (readR b a).1).2 = 0 := by rw [z5]
          unfold riseR at this
          split at this
          · rename_i h; exact h.2
          · simp at this
        rw [if_pos h0, rise_f _ (by omega) _ (by omega), z5, z2]
        simp only [Option.bind_some]
        rw [if_pos trivial, if_pos (by omega), if_pos (by omega), if_pos (by omega), if_pos (by omega), if_pos (by omega), bytes_f _ _ (by simp; omega) _ (by simp; omega)]
        simp only [Option.bind_some, Int.toNat_natCast, List.drop_take, show a.toNat + q - a.toNat = q by omega]
        simp
      · rw [if_neg h0]
    by_cases h0 : (decR b a).2.2 = 0
    · obtain ⟨z1, q, z2, z3, z4, z5⟩ := decR_ok hb' h0
      rw [if_pos h0, z2, if_pos (by omega), if_pos (by omega), if_pos (by omega), put_f _ _ (by omega)]
      simp only [Option.bind_some]
      rw [if_pos (by omega), if_pos (by omega), z5, bytes_f _ _ (by simp; omega) _ (by simp; omega)]
      simp only [Option.bind_some, Int.toNat_natCast, List.drop_take, show a.toNat + q - a.toNat = q by omega, beq_self_eq_true, if_true]
      exact key _ (by omega)
    · rw [if_neg h0]
      exact key _ (by omega)

end Go.Proofs.Ytmgmpdlceepjdaa.Pure
