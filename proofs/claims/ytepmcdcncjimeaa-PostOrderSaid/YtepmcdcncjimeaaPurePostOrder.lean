/- In whatever order two places are put the postings are the same: PostOrder answers true for every input. -/
import Derived.Test.YtepmcdcncjimeaaQPutPostOrder
namespace Go.Proofs.Ytepmcdcncjimeaa.Pure
set_option linter.unusedVariables false
open Go Go.RowKit Go.Proofs.Ytepmcdcncjimeaa.PPostOrder Go.Proofs.YtepmcdcncjimeaaW.PrintWords Go.Proofs.YtepmcdcncjimeaaW.PrintLast Go.Proofs.Ytepmcdcncjimeaa.VSpec Go.Proofs.Ytepmcdcncjimeaa.VPostOrder

theorem may_size {l : List S39} (h : mayR l = true) : l.length ≤ 64 ∧ ∀ p ∈ l, p.f1.length ≤ 120 := by
  obtain ⟨h1, h2, _⟩ := mayR_iff.1 h
  exact ⟨h2, fun p hp => (okP_iff.1 (h1 p hp)).2.1⟩
theorem awake_f : catchwordlaw06_awake.f = some true := rfl
theorem hasS_is (d a : Int) : ∀ l : List S39, hasS d a l = true → isS d (l.map (·.f0)) = true
  | [], h => by cases h
  | p :: t, h => by
    simp only [hasS] at h
    simp only [List.map_cons, isS]
    split at h
    · cases h
    · split at h
      · rename_i h1 h2
        rw [if_neg (by omega), decide_eq_true h2.symm]
      · rename_i h1 h2
        rw [if_pos (by omega)]
        exact hasS_is d a t h
theorem PostOrder : catchwordlaw06_PostOrder.Pure := by
  intro l d a o t hl hd ha ho ht
  obtain ⟨k, hk⟩ : ∃ k : Nat, 400000000 ≤ k := ⟨400000000, Nat.le_refl _⟩
  refine ⟨k + 4, ?_⟩
  unfold catchwordlaw06_PostOrder.f
  have skip : catchwordlaw06_PostOrder.j0 (k + 4) l d a o t true true = some true := by simp only [catchwordlaw06_PostOrder.j0, if_true]
  rw [awake_f, few_f l (k + 4) (by omega)]
  simp only [Option.bind_some, if_true]
  cases hf : fewR l with
  | false => exact skip
  | true =>
    obtain ⟨h1, h2⟩ := fewR_iff.1 hf
    simp only [Bool.not_true, catchwordlaw06_PostOrder.j0]
    have hsm : ∀ K, 300000000 < K → post_Same.f K l l = some true := fun K hK => by rw [psame_f l l (by omega) (fun p hp => by have := h2 p hp; omega) K hK, eqPs_refl]
    have hl2 : ∀ p ∈ l, p.f1.length ≤ 1000 := fun p hp => by have := h2 p hp; omega
    rw [if_neg (by decide), put_f l d a (by omega) hl2, Option.bind_some, put_f l o t (by omega) hl2, Option.bind_some]
    have hcase : ∀ d a, (putRes l d a = (putS d a l, 0) ∧ mayR l = true ∧ inR d a = true ∧ hasS d a l = false) ∨ ((putRes l d a).1 = l ∧ (putRes l d a).2 ≠ 0) := fun d a => by
      unfold putRes
      by_cases hc : mayR l = true ∧ inR d a = true
      · rw [if_pos hc]
        cases hh : hasS d a l
        · exact .inl ⟨by rw [if_neg (by decide)], hc.1, hc.2, rfl⟩
        · rw [if_pos rfl]; exact .inr ⟨rfl, by simp⟩
      · rw [if_neg hc]; exact .inr ⟨rfl, by simp⟩
    have hbadway : ∀ (x13 x15 : List S39) (x14 x16 : Int), (x14 = 0 ∨ x13 = l) → (x16 = 0 ∨ x15 = l) → catchwordlaw06_PostOrder.j1 (k + 3) l d a o t x13 x14 x15 x16 true = some true := fun x13 x15 x14 x16 e1 e2 => by
      simp only [catchwordlaw06_PostOrder.j1, if_true]
      by_cases c1 : x14 = 0
      · rw [if_pos c1]
        by_cases c2 : x16 = 0
        · rw [if_pos c2]
        · rw [if_neg c2, e2.resolve_left c2, hsm _ (by omega), Option.bind_some]
      · rw [if_neg c1, e1.resolve_left c1, hsm _ (by omega), Option.bind_some, if_pos rfl]
        by_cases c2 : x16 = 0
        · rw [if_pos c2]
        · rw [if_neg c2, e2.resolve_left c2, hsm _ (by omega), Option.bind_some]
    rcases hcase d a with ⟨e1, hm, hi, hh⟩ | ⟨e1, e2⟩
    · rcases hcase o t with ⟨f1, _, hj, hg⟩ | ⟨f1, f2⟩
      · rw [e1, f1]
        simp only
        rw [if_pos trivial]
        simp only [catchwordlaw06_PostOrder.j1, bne_self_eq_false]
        have mx := putS_may hm hi
        have my := putS_may hm hj
        obtain ⟨x1, x2⟩ := may_size mx
        obtain ⟨y1, y2⟩ := may_size my
        have hx2 : ∀ p ∈ putS d a l, p.f1.length ≤ 1000 := fun p hp => by have := x2 p hp; omega
        have hy2 : ∀ p ∈ putS o t l, p.f1.length ≤ 1000 := fun p hp => by have := y2 p hp; omega
        have hagain : putRes (putS d a l) d a = (putS d a l, 3) := by
          unfold putRes
          rw [if_pos ⟨mx, hi⟩, if_pos (hasS_put d a l)]
        obtain ⟨i1, i2, _, _⟩ := inR_iff.1 hi
        have hfind : findR (putS d a l) d = (lowS d ((putS d a l).map (·.f0)) : Int) := by
          unfold findR
          rw [if_pos ⟨mx, i1, i2, hasS_is d a _ (hasS_put d a l)⟩]
        rw [if_neg (by decide), put_f _ d a (by omega) hx2, hagain, Option.bind_some]
        simp only
        rw [if_pos trivial, may_f _ (by omega) (fun p hp => by have := x2 p hp; omega) _ (by omega), mx, Option.bind_some, if_pos rfl, find_f _ d (by omega) hx2 _ (by omega), hfind, Option.bind_some, decide_eq_false (by omega)]
        simp only [catchwordlaw06_PostOrder.j2]
        rw [if_neg (by decide), put_f _ o t (by omega) hx2, Option.bind_some, put_f _ d a (by omega) hy2, Option.bind_some]
        have hdone : ∀ b : Bool, b = decide (d = o ∧ a = t) → catchwordlaw06_PostOrder.j3 (k + 1) (putS d a l) (putS o t l) (putRes (putS d a l) o t).1 (putRes (putS d a l) o t).2 (putRes (putS o t l) d a).1 (putRes (putS o t l) d a).2 b = some true := fun b hb => by
          simp only [catchwordlaw06_PostOrder.j3]
          by_cases hs : d = o ∧ a = t
          · obtain ⟨rfl, rfl⟩ := hs
            rw [hb, decide_eq_true ⟨rfl, rfl⟩, if_pos rfl, hagain]
            simp only
            rw [if_pos trivial, if_pos trivial, psame_f _ _ (by omega) (fun p hp => by have := x2 p hp; omega) k (by omega), eqPs_refl, Option.bind_some]
          · rw [hb, decide_eq_false hs, if_neg (by decide)]
            have g1 : putRes (putS d a l) o t = (putS o t (putS d a l), 0) := by
              unfold putRes
              rw [if_pos ⟨mx, hj⟩, hasS_other hs, hg, if_neg (by decide)]
            have g2 : putRes (putS o t l) d a = (putS d a (putS o t l), 0) := by
              unfold putRes
              rw [if_pos ⟨my, hi⟩, hasS_other (fun e => hs ⟨e.1.symm, e.2.symm⟩), hh, if_neg (by decide)]
            rw [g1, g2]
            simp only
            obtain ⟨z1, z2⟩ := may_size (putS_may mx hj)
            rw [if_pos trivial, if_pos trivial, putS_comm d a o t l, psame_f _ _ (by rw [← putS_comm d a o t l]; omega) (fun p hp => by rw [← putS_comm d a o t l] at hp; have := z2 p hp; omega) k (by omega), eqPs_refl, Option.bind_some]
        by_cases c : d = o
        · rw [if_pos c]
          exact hdone _ (by rw [Bool.eq_iff_iff]; simp [c])
        · rw [if_neg c]
          exact hdone _ (by rw [decide_eq_false (fun e => c e.1)])
      · rw [e1]
        simp only
        rw [if_pos trivial]
        have : (((putRes l o t).2 != 0) : Bool) = true := by simpa using f2
        rw [this]
        exact hbadway _ _ _ _ (.inl rfl) (.inr f1)
    · rw [if_neg e2]
      rcases hcase o t with ⟨f1, _⟩ | ⟨f1, _⟩
      · exact hbadway _ _ _ _ (.inr e1) (.inl (by rw [f1]))
      · exact hbadway _ _ _ _ (.inr e1) (.inr f1)
end Go.Proofs.Ytepmcdcncjimeaa.Pure
