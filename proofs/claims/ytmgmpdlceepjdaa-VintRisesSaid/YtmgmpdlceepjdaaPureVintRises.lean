/- A rising list's bytes are read as it, whatever stands ahead of them, and behind; cut off they are none: VintRises answers true for every input. -/
import Derived.Test.YtmgmpdlceepjdaaVReadVintRises
namespace Go.Proofs.Ytmgmpdlceepjdaa.Pure
open Go Go.RowKit Go.Proofs.Ytmgmpdlceepjdaa.PVintRises Go.Proofs.YtmgmpdlceepjdaaW.PrintWords Go.Proofs.YtmgmpdlceepjdaaW.PrintLast Go.Proofs.Ytmgmpdlceepjdaa.VSpec Go.Proofs.Ytmgmpdlceepjdaa.VVintRises

theorem awake_VintRises : catchwordlaw01_awake.f 100 = some true := by decide +kernel
theorem VintRises : catchwordlaw01_VintRises.Pure := by
  intro l h t c _ hl _ _ hh hbh _ ht hbt hc
  have hc := wf_i64 hc
  have hbh := Byt.of hbh
  have hbt := Byt.of hbt
  refine ⟨l.length + 30001, ?_⟩
  unfold catchwordlaw01_VintRises.f
  rw [at_rounds (fun k => catchwordlaw01_awake.mono k) (show 100 ≤ l.length + 30001 by omega) awake_VintRises]
  simp only [Option.bind_some, if_true]
  have hskip : catchwordlaw01_VintRises.j0 (l.length + 30001) l h t c true true = some true := by
    simp only [catchwordlaw01_VintRises.j0, if_true]
  by_cases h1 : (l.length : Int) > 500
  · rw [if_pos h1, hskip]
  · rw [if_neg h1]
    by_cases h2 : (h.length : Int) > 500
    · rw [if_pos h2, hskip]
    · rw [if_neg h2]
      by_cases h3 : (t.length : Int) > 500
      · rw [decide_eq_true h3, hskip]
      · rw [decide_eq_false h3]
        simp only [catchwordlaw01_VintRises.j0]
        rw [if_neg (by decide), rise_f l (by omega) _ (by omega)]
        simp only [Option.bind_some]
        have hlen := riseR_len (l := l)
        cases hr : riseR l with
        | mk p e =>
          rw [hr] at hlen
          simp only at hlen ⊢
          by_cases he : e = 0
          · subst he
            have hbp := riseR_byt hr
            simp only [List.nil_append, List.length_nil]
            rw [if_pos trivial, if_pos (by omega), if_pos (by omega), if_pos (by simp; omega), read_f (h ++ p ++ t) _ ((hbh.app hbp).app hbt) (by simp; omega) _ (by omega), readR_rise hr]
            simp only [Option.bind_some]
            rw [ints_f l l (by omega) _ (by omega)]
            rw [Option.bind_some, if_pos (beq_self_eq_true l)]
            rw [w64 (x := (h.length : Int) + p.length) (by omega) (by omega), if_pos (by omega)]
            simp only [catchwordlaw01_VintRises.j1]
            rw [if_neg (by decide)]
            by_cases c0 : c < 0
            · rw [if_pos c0]
            · rw [if_neg c0]
              by_cases c1 : c ≥ p.length
              · rw [if_pos c1]
              · obtain ⟨c, rfl⟩ : ∃ n : Nat, c = n := ⟨c.toNat, by omega⟩
                rw [if_neg c1, w64n (x := (h.length : Int) + (c : Int)) (h.length + c) (by omega) (by omega), if_pos (by omega), if_pos (by simp; omega), Int.toNat_natCast]
                have htk : (h ++ p ++ t).take (h.length + c) = h ++ p.take c := by
                  rw [List.append_assoc, List.take_length_add_append, List.take_append_of_le_length (by omega)]
                rw [htk, read_f _ _ (hbh.app (hbp.take c)) (by simp; omega) _ (by omega)]
                simp only [Option.bind_some]
                rw [readR_cut hr hbp h hbh c (by omega)]
                rfl
          · unfold riseR at hr
            split at hr
            · simp only [Prod.mk.injEq] at hr; omega
            · simp only [Prod.mk.injEq] at hr
              obtain ⟨rfl, rfl⟩ := hr
              rfl

end Go.Proofs.Ytmgmpdlceepjdaa.Pure
