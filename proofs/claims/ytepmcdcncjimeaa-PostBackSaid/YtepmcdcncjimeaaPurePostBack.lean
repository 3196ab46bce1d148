/- What is packed is unpacked as it; what is unpacked, packed, is the same bytes: PostBack answers true for every input. -/
import Derived.Test.YtepmcdcncjimeaaQAwakePostBack
namespace Go.Proofs.Ytepmcdcncjimeaa.Pure
open Go Go.RowKit Go.Proofs.Ytepmcdcncjimeaa.PPostBack Go.Proofs.YtepmcdcncjimeaaW.PrintWords Go.Proofs.YtepmcdcncjimeaaW.PrintLast Go.Proofs.Ytepmcdcncjimeaa.VSpec Go.Proofs.Ytepmcdcncjimeaa.VPostBack

theorem PostBack_j1 (l : List S39) (b : List Int) (x : Int) (hl : l.length ≤ 70) (hp : ∀ p ∈ l, p.f1.length ≤ 130) (hb : Byt b) (hm : b.length ≤ 3000) (hx : (x == 0) = mayR l) (k : Nat) (hk : 400000000 ≤ k) : catchwordlaw06_PostBack.j1 k l b x = some true := by
  obtain ⟨k, rfl⟩ : ∃ m, k = m + 1 := ⟨k - 1, by omega⟩
  simp only [catchwordlaw06_PostBack.j1]
  rw [unpack_f b hb (by omega), Option.bind_some]
  have hml := may_f l (by omega) (fun p h => by have := hp p h; omega) k (by omega)
  rcases unpackR_err b with e | e
  · have h0 : (unpackR b).2 = 0 := by rw [e]
    obtain ⟨m1, m2⟩ := unpackR_ok hb h0
    obtain ⟨w1, w2, _⟩ := mayR_iff.1 m1
    have w3 : ∀ p ∈ (unpackR b).1, p.f1.length ≤ 140737488355328 := fun p hp => by have := (okP_iff.1 (w1 p hp)).2.1; omega
    rw [if_pos h0, pack_f _ (by omega) w3 k (by omega), if_pos m1, Option.bind_some, m2]
    simp only
    rw [bytes_f b b (by omega) k (by omega), Option.bind_some, beq_self_eq_true, if_pos rfl, if_pos trivial, may_f _ (by omega) w3 k (by omega), m1, Option.bind_some, if_pos rfl, hml, Option.bind_some, hx]
    simp
  · rw [e]
    simp only [List.length_nil]
    rw [if_neg (by decide), if_pos (by rfl), if_pos trivial, hml, Option.bind_some, hx]
    simp
theorem PostBack : catchwordlaw06_PostBack.Pure := by
  intro l b hl hb
  have hb' := Byt.of hb.2
  obtain ⟨k, hk⟩ : ∃ k : Nat, 400000000 ≤ k := ⟨400000000, Nat.le_refl _⟩
  refine ⟨k + 1, ?_⟩
  unfold catchwordlaw06_PostBack.f
  have skip : catchwordlaw06_PostBack.j0 (k + 1) l b true true = some true := by simp only [catchwordlaw06_PostBack.j0, if_true]
  rw [awake_f, few_f l (k + 1) (by omega)]
  simp only [Option.bind_some, if_true, skip]
  cases hf : fewR l with
  | false => rfl
  | true =>
    obtain ⟨h1, h2⟩ := fewR_iff.1 hf
    rw [if_pos rfl]
    by_cases h' : (b.length : Int) > 3000
    · rw [decide_eq_true h', skip]
    · rw [decide_eq_false h']
      simp only [catchwordlaw06_PostBack.j0]
      rw [if_neg (by decide), pack_f l (by omega) (fun p h => by have := h2 p h; omega) k (by omega), Option.bind_some]
      cases hmay : mayR l with
      | false =>
        simp only [Bool.false_eq_true, if_false]
        rw [if_neg (by decide)]
        exact PostBack_j1 l b 1 h1 h2 hb' (by omega) (by rw [hmay]; rfl) k hk
      | true =>
        simp only [if_true]
        rw [unpack_f _ (packF_byt hmay) (by have := packF_len hmay; omega), unpackR_pack hmay, Option.bind_some]
        simp only
        rw [rsame_f l l (by omega) (fun p h => by have := h2 p h; omega) k (by omega), eqPs_refl, Option.bind_some, if_pos rfl, if_pos trivial]
        exact PostBack_j1 l b 0 h1 h2 hb' (by omega) (by rw [hmay]; rfl) k hk
end Go.Proofs.Ytepmcdcncjimeaa.Pure
