/- No number's bytes begin another one's; of two numbers the greater one has no fewer bytes: VintFirst answers true for every input. -/
import Derived.Test.YtmgmpdlceepjdaaVGetVintFirst
namespace Go.Proofs.Ytmgmpdlceepjdaa.Pure
open Go Go.RowKit Go.Proofs.Ytmgmpdlceepjdaa.PVintFirst Go.Proofs.YtmgmpdlceepjdaaW.PrintWords Go.Proofs.YtmgmpdlceepjdaaW.PrintLast Go.Proofs.Ytmgmpdlceepjdaa.VSpec Go.Proofs.Ytmgmpdlceepjdaa.VVintFirst

theorem awake_VintFirst : catchwordlaw01_awake.f 100 = some true := by decide +kernel
theorem enc_mono (a b : Int) (h : a ≤ b) : (enc a).length ≤ (enc b).length := by
  by_cases ha : a < 128
  · rw [enc_small ha]
    have := enc_pos b
    simp; omega
  · rw [enc_big (show 128 ≤ a by omega), enc_big (show 128 ≤ b by omega)]
    have := enc_mono (a / 128) (b / 128) (by omega)
    simp; omega
termination_by a.toNat
decreasing_by omega
theorem enc_first {a b : Int} (ha : Num a) (hb : Num b) (h : enc a = (enc b).take (enc a).length) : a = b := by
  have h1 := dec5_enc hb []
  have h2 := dec5_enc ha ((enc b).drop (enc a).length)
  have h3 : enc a ++ (enc b).drop (enc a).length = enc b := by
    conv => lhs; lhs; rw [h]
    exact List.take_append_drop ..
  rw [h3] at h2
  rw [List.append_nil, h2] at h1
  simp only [Option.some.injEq, Prod.mk.injEq] at h1
  exact h1.1
theorem VintFirst : catchwordlaw01_VintFirst.Pure := by
  intro a b _ _
  refine ⟨101, ?_⟩
  unfold catchwordlaw01_VintFirst.f
  rw [at_rounds (fun k => catchwordlaw01_awake.mono k) (show 100 ≤ 101 by omega) awake_VintFirst, put_f a _ (by omega), put_f b _ (by omega)]
  simp only [Option.bind_some, if_true]
  have h5 : ∀ n : Int, (putR n).length ≤ 5 := by
    intro n
    unfold putR; split
    · rename_i hn; exact hn.len
    · simp
  have ha5 := h5 a
  have hb5 := h5 b
  by_cases ha : Num a
  · have hpa := enc_pos a
    have ea : putR a = enc a := by unfold putR; rw [if_pos ha]
    rw [if_neg (by rw [ea]; omega)]
    by_cases hb : Num b
    · have hpb := enc_pos b
      have eb : putR b = enc b := by unfold putR; rw [if_pos hb]
      rw [if_neg (by rw [eb]; omega)]
      simp only [catchwordlaw01_VintFirst.j0]
      by_cases he : a = b
      · subst he
        simp only [beq_self_eq_true, if_true]
        rw [bytes_f _ _ (by omega) _ (by omega)]
        simp
      · rw [if_neg (by simpa using he)]
        rw [ea] at ha5; rw [eb] at hb5
        rw [ea, eb]
        by_cases hl : ((enc b).length : Int) < (enc a).length
        · rw [if_pos hl, if_pos (by omega), if_pos (by omega), if_pos (by omega), bytes_f _ _ (by simp; omega) _ (by simp; omega)]
          simp only [Option.bind_some, Int.toNat_natCast, List.take_length]
          have hne : ¬ List.take (enc b).length (enc a) = enc b := fun h => he (enc_first hb ha h.symm).symm
          have hlt : ¬ a < b := fun h => by have := enc_mono a b (by omega); omega
          rw [if_neg (by simpa using hne), if_neg hlt, if_pos (by omega)]
          simp; omega
        · rw [if_neg hl, if_pos (by omega), if_pos (by omega), if_pos (by omega), bytes_f _ _ (by simp; omega) _ (by simp; omega)]
          simp only [Option.bind_some, Int.toNat_natCast, List.take_length]
          have hne : ¬ enc a = List.take (enc a).length (enc b) := fun h => he (enc_first ha hb h)
          rw [if_neg (by simpa using hne)]
          by_cases hlt : a < b
          · rw [if_pos hlt]
          · have := enc_mono b a (by omega)
            rw [if_neg hlt, if_pos (by omega)]
            simp; omega
    · have eb : putR b = [] := by unfold putR; rw [if_neg hb]
      have he : ¬ a = b := fun h => hb (h ▸ ha)
      rw [if_pos (by rw [eb]; rfl)]
      simp only [catchwordlaw01_VintFirst.j0, if_true]
      rw [if_neg he]
  · have ea : putR a = [] := by unfold putR; rw [if_neg ha]
    rw [if_pos (by rw [ea]; rfl)]
    simp only [catchwordlaw01_VintFirst.j0, if_true]
    by_cases he : a = b
    · subst he
      rw [if_pos rfl, bytes_f _ _ (by omega) _ (by omega)]
      simp
    · rw [if_neg he]

end Go.Proofs.Ytmgmpdlceepjdaa.Pure
