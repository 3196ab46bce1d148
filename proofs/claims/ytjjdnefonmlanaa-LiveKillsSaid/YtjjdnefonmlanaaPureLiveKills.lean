/- One that dies is one fewer, and no other one does; it dies once: LiveKills answers true for every input. -/
import Derived.Test.YtjjdnefonmlanaaLFunLiveKills
namespace Go.Proofs.Ytjjdnefonmlanaa.Pure
open Go Go.RowKit Go.Proofs.Ytjjdnefonmlanaa.PLiveKills Go.Proofs.YtjjdnefonmlanaaW.PrintWords Go.Proofs.YtjjdnefonmlanaaW.PrintLast Go.Proofs.Ytjjdnefonmlanaa.VSpec Go.Proofs.Ytjjdnefonmlanaa.LSpec Go.Proofs.Ytjjdnefonmlanaa.VLiveKills

theorem LiveKills : catchwordlaw04_LiveKills.Pure := by
  intro l i j _ _ _
  refine ⟨1000, ?_⟩
  unfold catchwordlaw04_LiveKills.f catchwordlaw04_few.f
  rw [live_awake' _ (by omega)]
  simp only [Option.bind_some, if_true, catchwordlaw04_LiveKills.j0]
  by_cases h : l.length ≤ 100
  · rw [if_neg (by simp; omega), kill_f l i (by omega)]
    simp only [Option.bind_some]
    have hkl := kill_len l i
    rw [kill_f _ i (by omega)]
    simp only [Option.bind_some]
    by_cases hk : 0 ≤ i ∧ i < l.length ∧ rdOf false l i = true
    · have e : killR l i = (l.set i.toNat false, true) := by unfold killR; rw [if_pos hk]
      obtain ⟨h0, h1, h2⟩ := hk
      obtain ⟨i, rfl⟩ : ∃ m : Nat, i = m := ⟨i.toNat, by omega⟩
      have hi : i < l.length := by omega
      rw [rdb l i hi] at h2
      simp only [Int.toNat_natCast] at e
      have hz : rdOf false (l.set i false) (i : Int) = false := by rw [rdb _ i (by simp; exact hi)]; simp
      have e2 : killR (l.set i false) i = (l.set i false, false) := by
        unfold killR
        rw [if_neg (by rw [hz]; simp)]
      rw [e]
      simp only
      rw [e2]
      simp only
      rw [if_neg (by decide), if_pos (by simp)]
      have hn : ((((l.set i false).length : Nat) : Int) != ((l.length : Nat) : Int)) = false := by simp
      have hc := set_count l i hi h2
      have hcl := List.count_le_length (a := true) (l := l)
      have hw : Aside0 (wrap64 (((l.count true : Nat) : Int) - 1) = (((l.set i false).count true : Nat) : Int)) := ⟨w64n _ (by omega) (by omega)⟩
      rw [hn]
      simp only [catchwordlaw04_LiveKills.j1, if_true]
      rw [if_neg (by decide), if_neg (by omega), if_neg (by omega), if_pos (by omega), if_pos (by simp; omega), hz, if_neg (by decide), count_f, count_f]
      simp only [Option.bind_some]
      rw [hw.out, bne_self_eq_false]
      simp only [catchwordlaw04_LiveKills.j2]
      rw [if_neg (by decide), less_f, less_f]
      simp only [Option.bind_some, set_le, if_true, set_nle l i hi h2]
      rw [if_neg (by decide)]
      by_cases j0 : j < 0
      · rw [if_pos j0]
      · rw [if_neg j0]
        by_cases j1 : j ≥ l.length
        · rw [if_pos j1]
        · rw [if_neg j1]
          by_cases j2 : j = i
          · rw [if_pos j2]
          · obtain ⟨j, rfl⟩ : ∃ m : Nat, j = m := ⟨j.toNat, by omega⟩
            have hj : j < l.length := by omega
            rw [if_neg j2, if_pos (by omega), if_pos (by simp; omega), if_pos (by omega), rdb l j hj, rdb _ j (by simp; exact hj)]
            rw [List.getElem_set_ne (by omega)]
            simp
    · have e : killR l i = (l, false) := by unfold killR; rw [if_neg hk]
      rw [e]
      simp only
      rw [e]
      simp only
      rw [if_neg (by decide), if_pos trivial]
      simp only [catchwordlaw04_LiveKills.j1, bne_self_eq_false]
      rw [if_neg (by decide), if_neg (by decide), bools_f l l (by omega) _ (by omega)]
      simp only [Option.bind_some, beq_self_eq_true, if_true]
      by_cases j0 : i < 0
      · rw [if_pos j0]
      · rw [if_neg j0]
        by_cases j1 : i ≥ l.length
        · rw [if_pos j1]
        · rw [if_neg j1, if_pos (by omega), if_pos (by omega)]
          have : rdOf false l i = false := by
            cases hq : rdOf false l i with
            | false => rfl
            | true => exact absurd ⟨by omega, by omega, hq⟩ hk
          rw [this]
          rfl
  · rw [if_pos (by simp; omega)]
end Go.Proofs.Ytjjdnefonmlanaa.Pure
