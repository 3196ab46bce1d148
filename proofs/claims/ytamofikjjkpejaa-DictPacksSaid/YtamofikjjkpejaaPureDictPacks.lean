/- Any words have the bytes, and any bytes have the words, that the document says: DictPacks answers true for every input. -/
import Derived.Test.YtamofikjjkpejaaDRefPDictPacks
namespace Go.Proofs.Ytamofikjjkpejaa.Pure
open Go Go.RowKit Go.Proofs.Ytamofikjjkpejaa.PDictPacks Go.Proofs.YtamofikjjkpejaaW.PrintWords Go.Proofs.YtamofikjjkpejaaW.PrintLast Go.Proofs.Ytamofikjjkpejaa.VSpec Go.Proofs.Ytamofikjjkpejaa.DSpec Go.Proofs.Ytamofikjjkpejaa.VDictPacks

theorem packs_small (l : List ByteArray) : (packR (ws l)).length ≤ 7000 := by
  unfold packR
  split
  · rename_i h
    have := (packR_len h).2.2
    rw [show packR (ws l) = enc (ws l).length ++ packW [] (ws l) from if_pos h] at this
    exact this
  · simp
theorem DictPacks : catchwordlaw07_DictPacks.Pure := by
  intro l b _ hb
  have hm : b.length ≤ 140737488351232 := by rw [← Nat.mul_one b.length]; exact hb.1
  have hb := Byt.of hb.2
  obtain ⟨k, hk⟩ : ∃ k : Nat, 200000 ≤ k := ⟨_, Nat.le_refl _⟩
  refine ⟨k + 1, ?_⟩
  unfold catchwordlaw07_DictPacks.f
  have skip : catchwordlaw07_DictPacks.j0 (k + 1) l b true true = some true := by simp only [catchwordlaw07_DictPacks.j0, if_true]
  rw [dict_awake' (k + 1) (by omega), few_f l (k + 1) (by omega)]
  simp only [Option.bind_some, if_true, skip]
  cases hf : fewR l with
  | false => rfl
  | true =>
    obtain ⟨h1, h2⟩ := (fewR_iff l).1 hf
    rw [if_pos rfl]
    by_cases h' : (b.length : Int) > 3000
    · rw [decide_eq_true h', skip]
    · rw [decide_eq_false h']
      simp only [catchwordlaw07_DictPacks.j0]
      have hlen : (unpackO b).1.length ≤ 200 := by
        rcases unpackO_cases b hb with ⟨m, m1, _, e⟩ | e
        · rw [e]; exact (may_sorted m1).2
        · rw [e]; simp
      rw [if_neg (by decide), unpack_f b hb (by omega) k (by omega), Option.bind_some, runpack_f b hb (by omega) k (by omega), Option.bind_some, texts_f _ _ (by omega) k (by omega), Option.bind_some, pack_f l (by omega) h2 k (by omega), Option.bind_some, rpack_f l (by omega) (fun _ => h2) k (by omega), Option.bind_some, bytes_f _ _ (by have := packs_small l; omega) k (by have := packs_small l; omega), Option.bind_some, beq_self_eq_true, beq_self_eq_true, if_pos rfl, if_pos rfl, beq_self_eq_true]
end Go.Proofs.Ytamofikjjkpejaa.Pure
