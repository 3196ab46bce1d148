/- Any postings have the bytes, and any bytes have the postings, that the document says: PostPacks answers true for every input. -/
import Derived.Test.YtepmcdcncjimeaaQRefUPostPacks
import Derived.Test.YtepmcdcncjimeaaQAwakePostPacks
namespace Go.Proofs.Ytepmcdcncjimeaa.Pure
open Go Go.RowKit Go.Proofs.Ytepmcdcncjimeaa.PPostPacks Go.Proofs.YtepmcdcncjimeaaW.PrintWords Go.Proofs.YtepmcdcncjimeaaW.PrintLast Go.Proofs.Ytepmcdcncjimeaa.VSpec Go.Proofs.Ytepmcdcncjimeaa.VPostPacks

theorem PostPacks : catchwordlaw06_PostPacks.Pure := by
  intro l b hl hb
  have hb' := Byt.of hb.2
  obtain ⟨k, hk⟩ : ∃ k : Nat, 400000000 ≤ k := ⟨400000000, Nat.le_refl _⟩
  refine ⟨k + 1, ?_⟩
  unfold catchwordlaw06_PostPacks.f
  have skip : catchwordlaw06_PostPacks.j0 (k + 1) l b true true = some true := by simp only [catchwordlaw06_PostPacks.j0, if_true]
  rw [awake_f, few_f l (k + 1) (by omega)]
  simp only [Option.bind_some, if_true, skip]
  cases hf : fewR l with
  | false => rfl
  | true =>
    obtain ⟨h1, h2⟩ := fewR_iff.1 hf
    rw [if_pos rfl]
    by_cases h' : (b.length : Int) > 3000
    · rw [decide_eq_true h', skip]
    · rw [decide_eq_false h']
      simp only [catchwordlaw06_PostPacks.j0]
      have hux : (unpackR b).1.length ≤ 64 ∧ ∀ p ∈ (unpackR b).1, p.f1.length ≤ 120 := by
        rcases unpackR_err b with e | e
        · obtain ⟨m1, _⟩ := unpackR_ok hb' (by rw [e])
          obtain ⟨w1, w2, _⟩ := mayR_iff.1 m1
          exact ⟨w2, fun p hp => (okP_iff.1 (w1 p hp)).2.1⟩
        · rw [e]
          exact ⟨by simp, fun p hp => by cases hp⟩
      rw [if_neg (by decide), pack_f l (by omega) (fun p h => by have := h2 p h; omega) k (by omega), Option.bind_some, rpack_f l 200 (fun p h => by have := h2 p h; omega) (fun p h => by have := h2 p h; omega) k (by omega), Option.bind_some, unpack_f b hb' (by omega), Option.bind_some, runpack_f b hb' (by omega) k (by omega), Option.bind_some,
        rsame_f _ _ (by have := hux.1; omega) (fun p hp => by have := hux.2 p hp; omega) k (by omega), eqPs_refl]
      have hlen : (if mayR l = true then (packF l, (0 : Int)) else ([], 1)).1.length ≤ 2000000 := by
        split
        · rename_i h; exact packF_len h
        · simp
      rw [bytes_f _ _ (by omega) k (by omega), Option.bind_some, Option.bind_some, beq_self_eq_true, if_pos rfl, if_pos rfl, if_pos rfl, beq_self_eq_true]
end Go.Proofs.Ytepmcdcncjimeaa.Pure
