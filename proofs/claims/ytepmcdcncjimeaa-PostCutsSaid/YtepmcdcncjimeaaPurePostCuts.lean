/- Bytes of postings that are cut, or have one more, are none's: PostCuts answers true for every input. -/
import Derived.Test.YtepmcdcncjimeaaQAwakePostCuts
namespace Go.Proofs.Ytepmcdcncjimeaa.Pure
open Go Go.RowKit Go.Proofs.Ytepmcdcncjimeaa.PPostCuts Go.Proofs.YtepmcdcncjimeaaW.PrintWords Go.Proofs.YtepmcdcncjimeaaW.PrintLast Go.Proofs.Ytepmcdcncjimeaa.VSpec Go.Proofs.Ytepmcdcncjimeaa.VPostCuts

theorem unpackR_not {b : List Int} (hb : Byt b) (h : ∀ l, mayR l = true → packF l ≠ b) : unpackR b = ([], 5) := by
  rcases unpackR_err b with e | e
  · obtain ⟨m1, m2⟩ := unpackR_ok hb (by rw [e])
    exact absurd m2 (h _ m1)
  · exact e
theorem PostCuts : catchwordlaw06_PostCuts.Pure := by
  intro l cut more hl hcut hmore
  have hc := wf_i64 hcut
  have hm := wf_u8 hmore
  have hl1 : l.length ≤ 4398046511104 := by have := hl.1; omega
  have hl2 : ∀ p ∈ l, p.f1.length ≤ 140737488355328 := fun p hp => by have := (hl.2 p hp).2.1; omega
  obtain ⟨k, hk⟩ : ∃ k : Nat, k = 400000000 + 2 * l.length := ⟨_, rfl⟩
  refine ⟨k + 1, ?_⟩
  unfold catchwordlaw06_PostCuts.f
  have skip : ∀ b, catchwordlaw06_PostCuts.j0 (k + 1) cut more true b true = some true := fun b => by simp only [catchwordlaw06_PostCuts.j0, if_true]
  rw [awake_f, few_f l (k + 1) (by omega), pack_f l hl1 hl2 (k + 1) (by omega)]
  simp only [Option.bind_some, if_true, skip]
  cases hf : fewR l with
  | false => rfl
  | true =>
    rw [if_pos rfl]
    cases hmay : mayR l with
    | false => rfl
    | true =>
      simp only [if_true]
      by_cases h0 : cut < 0
      · rw [if_pos h0]
      · rw [if_neg h0]
        by_cases h1 : cut ≥ ((packF l).length : Int)
        · rw [decide_eq_true h1, skip]
        · rw [decide_eq_false h1]
          have hlen := packF_len hmay
          have hbyt := packF_byt hmay
          obtain ⟨c, rfl⟩ := Int.eq_ofNat_of_zero_le (by omega : 0 ≤ cut)
          simp only [catchwordlaw06_PostCuts.j0, List.nil_append, List.length_nil, Nat.zero_add]
          have hbt : Byt ((packF l).take c) := hbyt.take c
          have hbm : Byt (packF l ++ [more]) := hbyt.app (Byt.cons hm Byt.nil)
          have e1 : unpackR ((packF l).take c) = ([], 5) := unpackR_not hbt (fun m hm e => by
            have h2 : packF l = packF m ++ (packF l).drop c := by rw [e, List.take_append_drop]
            have h3 := packF_first hmay hm h2
            have h4 := congrArg List.length h3
            rw [List.length_drop, List.length_nil] at h4
            omega)
          have e2 : unpackR (packF l ++ [more]) = ([], 5) := unpackR_not hbm (fun m hm e => by
            have h3 := packF_first hm hmay e
            cases h3)
          rw [if_neg (by decide), if_pos (by omega), if_pos (by omega), Int.toNat_natCast, unpack_f _ hbt (by rw [List.length_take]; omega), e1, Option.bind_some, if_pos (by omega), Option.bind_some, if_pos (by omega), unpack_f _ hbm (by rw [List.length_append, List.length_singleton]; omega), e2, Option.bind_some]
          rfl
end Go.Proofs.Ytepmcdcncjimeaa.Pure
