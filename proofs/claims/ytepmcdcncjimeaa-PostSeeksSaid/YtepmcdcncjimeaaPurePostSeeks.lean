/- Of any bytes the first posting from any document on, and how many blocks stand ahead, are what the document says: PostSeeks answers true for every input. -/
import Derived.Test.YtepmcdcncjimeaaQRefSPostSeeks
import Derived.Test.YtepmcdcncjimeaaQAwakePostSeeks
namespace Go.Proofs.Ytepmcdcncjimeaa.Pure
open Go Go.RowKit Go.Proofs.Ytepmcdcncjimeaa.PPostSeeks Go.Proofs.YtepmcdcncjimeaaW.PrintWords Go.Proofs.YtepmcdcncjimeaaW.PrintLast Go.Proofs.Ytepmcdcncjimeaa.VSpec Go.Proofs.Ytepmcdcncjimeaa.VPostSeeks

theorem PostSeeks : catchwordlaw06_PostSeeks.Pure := by
  intro b doc hl0 hl hb hd
  have hb' := Byt.of hb
  obtain ⟨k, hk⟩ : ∃ k : Nat, 400000000 ≤ k := ⟨400000000, Nat.le_refl _⟩
  refine ⟨k + 1, ?_⟩
  unfold catchwordlaw06_PostSeeks.f
  have skip : catchwordlaw06_PostSeeks.j0 (k + 1) b doc true true = some true := by simp only [catchwordlaw06_PostSeeks.j0, if_true]
  rw [awake_f]
  simp only [Option.bind_some, if_true]
  by_cases h' : (b.length : Int) > 3000
  · rw [decide_eq_true h', skip]
  · rw [decide_eq_false h']
    simp only [catchwordlaw06_PostSeeks.j0]
    have hlen := seekR_len doc hb'
    rw [if_neg (by decide), seek_f b doc hb' (by omega), Option.bind_some, rseek_f b doc hb' (by omega) k (by omega), Option.bind_some, rsame_f _ _ (by simp) (fun p hp => by rw [List.mem_singleton.1 hp]; simp only; omega) k (by omega), eqPs_refl, Option.bind_some, if_pos rfl, if_pos rfl, beq_self_eq_true]
end Go.Proofs.Ytepmcdcncjimeaa.Pure
