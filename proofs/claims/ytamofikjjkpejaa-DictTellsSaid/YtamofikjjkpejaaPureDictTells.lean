/- Any words may be, or not, any word is where, and has as many below it, as the document says: DictTells answers true for every input. -/
import Derived.Test.YtamofikjjkpejaaDRefADictTells
namespace Go.Proofs.Ytamofikjjkpejaa.Pure
open Go Go.RowKit Go.Proofs.Ytamofikjjkpejaa.PDictTells Go.Proofs.YtamofikjjkpejaaW.PrintWords Go.Proofs.YtamofikjjkpejaaW.PrintLast Go.Proofs.Ytamofikjjkpejaa.VSpec Go.Proofs.Ytamofikjjkpejaa.DSpec Go.Proofs.Ytamofikjjkpejaa.VDictTells

theorem DictTells : catchwordlaw07_DictTells.Pure := by
  intro l t _ _
  obtain ⟨k, hk⟩ : ∃ k : Nat, 5000 ≤ k := ⟨5000, Nat.le_refl _⟩
  refine ⟨k + 1, ?_⟩
  unfold catchwordlaw07_DictTells.f
  have skip : catchwordlaw07_DictTells.j0 (k + 1) l t true true = some true := by simp only [catchwordlaw07_DictTells.j0, if_true]
  rw [dict_awake' (k + 1) (by omega), few_f l (k + 1) (by omega)]
  simp only [Option.bind_some, if_true, skip]
  cases hf : fewR l with
  | false => rfl
  | true =>
    obtain ⟨h1, h2⟩ := (fewR_iff l).1 hf
    rw [if_pos rfl]
    by_cases h' : (t.size : Int) > 40
    · rw [decide_eq_true h', skip]
    · rw [decide_eq_false h']
      simp only [catchwordlaw07_DictTells.j0]
      rw [if_neg (by decide), dmay_f l (by omega) k (by omega), rmay_f l (by omega) h2 k (by omega), find_f l t (by omega) k (by omega), rfind_f l t (by omega) h2 k (by omega), below_f l t (by omega) k (by omega), rcnt_f l t (by omega) h2 k (by omega)]
      simp only [Option.bind_some, beq_self_eq_true, if_true]
end Go.Proofs.Ytamofikjjkpejaa.Pure
