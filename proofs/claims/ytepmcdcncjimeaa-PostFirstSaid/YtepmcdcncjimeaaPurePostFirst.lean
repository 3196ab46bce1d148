/- What is sought is the first from there on, and a block stands ahead for each four postings that do: PostFirst answers true for every input. -/
import Derived.Test.YtepmcdcncjimeaaQSeekPostFirst
import Derived.Test.YtepmcdcncjimeaaQPutPostFirst
import Derived.Test.YtepmcdcncjimeaaQAwakePostFirst
namespace Go.Proofs.Ytepmcdcncjimeaa.Pure
set_option linter.unusedVariables false
open Go Go.RowKit Go.Proofs.Ytepmcdcncjimeaa.PPostFirst Go.Proofs.YtepmcdcncjimeaaW.PrintWords Go.Proofs.YtepmcdcncjimeaaW.PrintLast Go.Proofs.Ytepmcdcncjimeaa.VSpec Go.Proofs.Ytepmcdcncjimeaa.VPostFirst

theorem firstI_cases (doc : Int) : ∀ (l : List S39) (i : Nat), (∃ pre p post, l = pre ++ p :: post ∧ (∀ q ∈ pre, q.f0 < doc) ∧ p.f0 ≥ doc ∧ firstI doc i l = (p.f0, p.f1, (((i + pre.length) / 4 : Nat) : Int), 0)) ∨ ((∀ q ∈ l, q.f0 < doc) ∧ firstI doc i l = (0, [], 0, 2))
  | [], i => .inr ⟨fun q hq => (by cases hq), rfl⟩
  | p :: t, i => by
    simp only [firstI]
    by_cases h : p.f0 ≥ doc
    · rw [if_pos h]
      exact .inl ⟨[], p, t, rfl, fun q hq => (by cases hq), h, rfl⟩
    · rw [if_neg h]
      rcases firstI_cases doc t (i + 1) with ⟨pre, q, post, h1, h2, h3, h4⟩ | ⟨h1, h2⟩
      · refine .inl ⟨p :: pre, q, post, by rw [h1]; rfl, fun r hr => ?_, h3, ?_⟩
        · rcases List.mem_cons.1 hr with rfl | hr
          · omega
          · exact h2 r hr
        · rw [h4, List.length_cons, show i + 1 + pre.length = i + (pre.length + 1) by omega]
      · refine .inr ⟨fun r hr => ?_, h2⟩
        rcases List.mem_cons.1 hr with rfl | hr
        · omega
        · exact h1 r hr
theorem lowS_mid {e : Int} (y : Int) (post : List Int) : ∀ (pre : List Int) (last : Int), risE e last (pre ++ y :: post) = true → lowS y (pre ++ y :: post) = pre.length ∧ isS y (pre ++ y :: post) = true
  | [], last, h => by simp [lowS, isS]
  | x :: pre, last, h => by
    have h3 := (risE_cons.1 h).2.2
    have hx := risE_head h y (List.mem_append_right _ (List.mem_cons_self ..))
    obtain ⟨k1, k2⟩ := lowS_mid y post pre x h3
    simp only [List.cons_append, lowS, isS]
    rw [if_pos hx, if_pos hx, k1, k2]
    exact ⟨rfl, rfl⟩
theorem PostFirst : catchwordlaw06_PostFirst.Pure := by
  intro l doc hl hdoc
  have hd := wf_i64 hdoc
  have hl1 : l.length ≤ 4398046511104 := by have := hl.1; omega
  have hl2 : ∀ p ∈ l, p.f1.length ≤ 140737488355328 := fun p hp => by have := (hl.2 p hp).2.1; omega
  obtain ⟨k, hk⟩ : ∃ k : Nat, k = 400000000 + 2 * l.length := ⟨_, rfl⟩
  refine ⟨k + 1, ?_⟩
  unfold catchwordlaw06_PostFirst.f
  have skip : ∀ b, catchwordlaw06_PostFirst.j0 (k + 1) l doc true b true = some true := fun b => by simp only [catchwordlaw06_PostFirst.j0, if_true]
  rw [awake_f, few_f l (k + 1) (by omega), pack_f l hl1 hl2 (k + 1) (by omega)]
  simp only [Option.bind_some, if_true, skip]
  cases hf : fewR l with
  | false => rfl
  | true =>
    rw [if_pos rfl]
    cases hmay : mayR l with
    | false => exact skip _
    | true =>
      simp only [if_true, bne_self_eq_false]
      obtain ⟨w1, w2, w3⟩ := mayR_iff.1 hmay
      have hlen := packF_len hmay
      have hbyt := packF_byt hmay
      have hp2 : ∀ p ∈ l, p.f1.length ≤ 1000 := fun p hp => by have := (okP_iff.1 (w1 p hp)).2.1; omega
      have hs : seekR (packF l) doc = firstI doc 0 l := by
        unfold seekR
        rw [unpackR_pack hmay, if_pos rfl]
      simp only [catchwordlaw06_PostFirst.j0]
      rw [if_neg (by decide), seek_f _ doc hbyt (by omega), hs, Option.bind_some]
      rcases firstI_cases doc l 0 with ⟨pre, p, post, h1, h2, h3, h4⟩ | ⟨h1, h2⟩
      · rw [h4]
        simp only
        have hmem : p ∈ l := by rw [h1]; exact List.mem_append_right _ (List.mem_cons_self ..)
        have hin := risE_in w3 p.f0 (List.mem_map.2 ⟨p, hmem, rfl⟩)
        have hmap : l.map (·.f0) = pre.map (·.f0) ++ p.f0 :: post.map (·.f0) := by rw [h1, List.map_append, List.map_cons]
        have hlow := lowS_mid p.f0 (post.map (·.f0)) (pre.map (·.f0)) (-1) (by rw [← hmap]; exact w3)
        rw [← hmap, List.length_map] at hlow
        have hfind : findR l p.f0 = (pre.length : Int) := by
          unfold findR
          rw [if_pos ⟨hmay, by omega, by omega, hlow.2⟩, hlow.1]
        have hll : pre.length < l.length := by rw [h1, List.length_append, List.length_cons]; omega
        have hat : l[pre.length] = p := by
          have : l[pre.length]? = some p := by rw [h1, List.getElem?_append_right (Nat.le_refl _), Nat.sub_self]; rfl
          rw [List.getElem?_eq_getElem hll] at this
          exact Option.some.inj this
        have hcut : (l.take (pre.length + 1)).drop pre.length = [p] := by
          rw [h1, List.take_append, List.take_of_length_le (by omega), show pre.length + 1 - pre.length = 1 by omega]
          simp
        have hsame : catchwordref06_Same.f k [(⟨p.f0, p.f1⟩ : S39)] [p] = some true := by
          have : (⟨p.f0, p.f1⟩ : S39) = p := by cases p; rfl
          rw [this, rsame_f [p] [p] (by simp) (fun q hq => by rw [List.mem_singleton.1 hq]; have := hp2 p hmem; omega) k (by omega), eqPs_refl]
        have hw1 : wrap64 ((pre.length : Int) + 1) = ((pre.length + 1 : Nat) : Int) := w64n (pre.length + 1) (by omega) (by omega)
        have hdiv : ((((0 + pre.length) / 4 : Nat) : Int) == wrap64 (Int.tdiv (pre.length : Int) 4)) = true := by
          rw [show Int.tdiv (pre.length : Int) 4 = ((pre.length / 4 : Nat) : Int) by rw [Int.tdiv_eq_ediv_of_nonneg (by omega)]; omega, w64 (by omega) (by omega), Nat.zero_add]
          exact beq_self_eq_true _
        have htail : ((catchwordref06_Same.f k [(⟨p.f0, p.f1⟩ : S39)] ((l.take (wrap64 ((pre.length : Int) + 1)).toNat).drop ((pre.length : Int)).toNat)).bind fun t => if t = true then some ((((0 + pre.length) / 4 : Nat) : Int) == wrap64 (Int.tdiv (pre.length : Int) 4)) else some false) = some true := by
          rw [hw1, Int.toNat_natCast, Int.toNat_natCast, hcut, hsame, Option.bind_some, if_pos rfl, hdiv]
        rw [if_pos trivial, find_f l p.f0 (by omega) hp2 k (by omega), hfind, Option.bind_some, if_neg (by omega), if_neg (by omega), if_neg (by omega)]
        by_cases hpos : (pre.length : Int) > 0
        · have hwm : wrap64 ((pre.length : Int) - 1) = ((pre.length - 1 : Nat) : Int) := w64n (pre.length - 1) (by omega) (by omega)
          rw [if_pos hpos, hwm, if_pos (by omega), if_pos (by omega), rd39_getD l _ (by omega)]
          have hq : l[pre.length - 1] ∈ pre := by
            have hmm : ∀ (m : List S39) (i : Nat) (h : i < m.length), m = l → i = pre.length - 1 → m[i] ∈ pre := fun m i h e1 e2 => by
              have h3 : m[i]? = some m[i] := List.getElem?_eq_getElem h
              have h4 : m[i]? = pre[i]? := by
                rw [e1, h1, List.getElem?_append_left (by omega)]
              rw [h4] at h3
              exact List.mem_of_getElem? h3
            exact hmm l _ _ rfl rfl
          have := h2 _ hq
          rw [if_neg (by omega), if_pos (by omega), if_pos (by rw [hw1]; omega), if_pos (by rw [hw1]; omega)]
          exact htail
        · rw [if_neg hpos, if_pos (by omega), if_pos (by rw [hw1]; omega), if_pos (by rw [hw1]; omega)]
          exact htail
      · rw [h2]
        simp only
        rw [if_neg (by decide), if_pos trivial]
        by_cases h0 : (l.length : Int) = 0
        · rw [if_pos h0]
        · have hwm : wrap64 ((l.length : Int) - 1) = ((l.length - 1 : Nat) : Int) := w64n (l.length - 1) (by omega) (by omega)
          rw [if_neg h0, hwm, if_pos (by omega), if_pos (by omega), rd39_getD l _ (by omega), decide_eq_true (h1 _ (List.getElem_mem _))]
end Go.Proofs.Ytepmcdcncjimeaa.Pure
