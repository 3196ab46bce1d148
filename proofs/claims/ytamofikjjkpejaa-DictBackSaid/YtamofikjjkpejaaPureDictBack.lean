/- What is packed is unpacked as it; what is unpacked, packed, is the same bytes: DictBack answers true for every input. -/
import Derived.Test.YtamofikjjkpejaaDPackFDictBack
namespace Go.Proofs.Ytamofikjjkpejaa.Pure
open Go Go.RowKit Go.Proofs.Ytamofikjjkpejaa.PDictBack Go.Proofs.YtamofikjjkpejaaW.PrintWords Go.Proofs.YtamofikjjkpejaaW.PrintLast Go.Proofs.Ytamofikjjkpejaa.VSpec Go.Proofs.Ytamofikjjkpejaa.DSpec Go.Proofs.Ytamofikjjkpejaa.VDictBack

theorem DictBack_j1 (b : List Int) (hb : Byt b) (hm : b.length ≤ 3000) (k : Nat) (hk : 10000 ≤ k) : catchwordlaw07_DictBack.j1 k b = some true := by
  obtain ⟨k, rfl⟩ : ∃ m, k = m + 1 := ⟨k - 1, by omega⟩
  simp only [catchwordlaw07_DictBack.j1]
  rw [unpack_f b hb (by omega) k (by omega), Option.bind_some]
  rcases unpackO_cases b hb with ⟨l, m1, m2, e⟩ | e
  · obtain ⟨_, h200⟩ := may_sorted m1
    rw [e, if_pos rfl, pack_f l (by omega) (may_size m1) k (by omega), Option.bind_some, m2, bytes_f b b (by omega) k (by omega), Option.bind_some, if_pos (beq_self_eq_true _), dmay_f l (by omega) k (by omega), m1]
    rfl
  · rw [e, if_neg (by simp)]
    rfl
theorem DictBack : catchwordlaw07_DictBack.Pure := by
  intro l b _ hb
  have hm : b.length ≤ 140737488351232 := by rw [← Nat.mul_one b.length]; exact hb.1
  have hb := Byt.of hb.2
  obtain ⟨k, hk⟩ : ∃ k : Nat, 20000 ≤ k := ⟨20000, Nat.le_refl _⟩
  refine ⟨k + 1, ?_⟩
  unfold catchwordlaw07_DictBack.f
  have skip : catchwordlaw07_DictBack.j0 (k + 1) l b true true = some true := by simp only [catchwordlaw07_DictBack.j0, if_true]
  rw [dict_awake' (k + 1) (by omega), few_f l (k + 1) (by omega)]
  simp only [Option.bind_some, if_true, skip]
  cases hf : fewR l with
  | false => rfl
  | true =>
    obtain ⟨h1, h2⟩ := (fewR_iff l).1 hf
    rw [if_pos rfl]
    by_cases h' : (b.length : Int) > 3000
    · rw [decide_eq_true h', skip]
    · rw [decide_eq_false h']
      have hj := DictBack_j1 b hb (by omega) k (by omega)
      simp only [catchwordlaw07_DictBack.j0]
      rw [if_neg (by decide), dmay_f l (by omega) k (by omega), Option.bind_some]
      cases hmay : mayR (ws l) with
      | false => exact hj
      | true =>
        have hpl := (packR_len hmay).2.2
        rw [if_pos rfl, pack_f l (by omega) h2 k (by omega), Option.bind_some, unpack_f _ (packR_byt (ws_byt l)) (by omega) k (by omega), unpackO_pack l hmay, Option.bind_some, texts_f l l (by omega) k (by omega), Option.bind_some, if_pos (beq_self_eq_true _), if_pos rfl]
        exact hj
end Go.Proofs.Ytamofikjjkpejaa.Pure
