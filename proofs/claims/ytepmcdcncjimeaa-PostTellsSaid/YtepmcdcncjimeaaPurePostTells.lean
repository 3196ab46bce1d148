/- Any postings may be, or not, any document's is where, any place is put, or not, as the document says; two are the same, or not: PostTells answers true for every input. -/
import Derived.Test.YtepmcdcncjimeaaQRefTPostTells
namespace Go.Proofs.Ytepmcdcncjimeaa.Pure
open Go Go.RowKit Go.Proofs.Ytepmcdcncjimeaa.PPostTells Go.Proofs.YtepmcdcncjimeaaW.PrintWords Go.Proofs.YtepmcdcncjimeaaW.PrintLast Go.Proofs.Ytepmcdcncjimeaa.VSpec Go.Proofs.Ytepmcdcncjimeaa.VPostTells

theorem awake_f : catchwordlaw06_awake.f = some true := rfl
theorem putRes_size {l : List S39} (d a : Int) (h1 : l.length ≤ 70) (h2 : ∀ p ∈ l, p.f1.length ≤ 130) : (putRes l d a).1.length ≤ 70 ∧ ∀ p ∈ (putRes l d a).1, p.f1.length ≤ 130 := by
  unfold putRes
  by_cases hc : mayR l = true ∧ inR d a = true
  · rw [if_pos hc]
    split
    · exact ⟨h1, h2⟩
    · obtain ⟨w1, w2, _⟩ := mayR_iff.1 (putS_may hc.1 hc.2)
      exact ⟨by simp only; omega, fun p hp => by have := (okP_iff.1 (w1 p hp)).2.1; omega⟩
  · rw [if_neg hc]
    exact ⟨h1, h2⟩
theorem PostTells : catchwordlaw06_PostTells.Pure := by
  intro l m d a hl hm hd ha
  obtain ⟨k, hk⟩ : ∃ k : Nat, 400000000 ≤ k := ⟨400000000, Nat.le_refl _⟩
  refine ⟨k + 1, ?_⟩
  unfold catchwordlaw06_PostTells.f
  have skip : catchwordlaw06_PostTells.j0 (k + 1) l m d a true true = some true := by simp only [catchwordlaw06_PostTells.j0, if_true]
  rw [awake_f, few_f l (k + 1) (by omega), few_f m (k + 1) (by omega)]
  simp only [Option.bind_some, if_true]
  cases hf : fewR l with
  | false => exact skip
  | true =>
    cases hg : fewR m with
    | false => exact skip
    | true =>
      obtain ⟨h1, h2⟩ := fewR_iff.1 hf
      obtain ⟨z1, z2⟩ := putRes_size d a h1 h2
      rw [if_pos rfl]
      simp only [Bool.not_true, catchwordlaw06_PostTells.j0]
      have hb : ∀ p ∈ l, p.f1.length ≤ 140737488355328 := fun p h => by have := h2 p h; omega
      have hK : ∀ p ∈ l, p.f1.length < 200 := fun p h => by have := h2 p h; omega
      have h1000 : ∀ p ∈ l, p.f1.length ≤ 1000 := fun p h => by have := h2 p h; omega
      have hbig : ∀ p ∈ l, p.f1.length ≤ 100000000 := fun p h => by have := h2 p h; omega
      rw [if_neg (by decide), put_f l d a (by omega) h1000, Option.bind_some, r6put_f l d a 200 hb hK k (by omega), Option.bind_some, rsame_f _ _ (by omega) (fun p hp => by have := z2 p hp; omega) k (by omega), eqPs_refl, Option.bind_some, if_pos rfl, if_pos rfl,
        may_f l (by omega) hb k (by omega), Option.bind_some, rmay_f l 200 hb hK k (by omega), Option.bind_some, beq_self_eq_true, if_pos rfl, find_f l d (by omega) h1000 k (by omega), Option.bind_some, r6find_f l d 200 hb hK k (by omega), Option.bind_some, if_pos rfl,
        psame_f l m (by omega) hbig k (by omega), Option.bind_some, rsame_f l m (by omega) hbig k (by omega), Option.bind_some, beq_self_eq_true]
end Go.Proofs.Ytepmcdcncjimeaa.Pure
