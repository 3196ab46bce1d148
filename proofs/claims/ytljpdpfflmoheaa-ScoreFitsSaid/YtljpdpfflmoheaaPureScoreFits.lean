/- At most six weights always have a sum, in whichever order: ScoreFits answers true for every input. -/
import Derived.Test.YtljpdpfflmoheaaSAllScoreFits
namespace Go.Proofs.Ytljpdpfflmoheaa.Pure
open Go Go.RowKit Go.Proofs.Ytljpdpfflmoheaa.PScoreFits Go.Proofs.YtljpdpfflmoheaaW.PrintWords Go.Proofs.YtljpdpfflmoheaaW.PrintLast Go.Proofs.Ytljpdpfflmoheaa.SSpec Go.Proofs.Ytljpdpfflmoheaa.SScoreFits

theorem awake_ScoreFits : catchwordlaw19_awake.f 100 = some true := by decide +kernel
/-- The weights of the first i words. -/
def ws (t i n : List Int) (m : Nat) : List (Nat × Nat) := (List.range m).map fun j : Nat => weight (rd t (j : Int)) (rd i (j : Int)) (rd n (j : Int))
theorem ws_len (t i n : List Int) (m : Nat) : (ws t i n m).length = m := by simp [ws]
theorem ws_succ (t i n : List Int) (m : Nat) : ws t i n (m + 1) = ws t i n m ++ [weight (rd t m) (rd i m) (rd n m)] := by simp [ws, List.range_succ]
theorem ws_small (t i n : List Int) (m : Nat) : ∀ x ∈ ws t i n m, Small x := by
  intro x hx
  simp only [ws, List.mem_map] at hx
  obtain ⟨j, _, rfl⟩ := hx
  exact weight_small ..
theorem small_fit {l : List (Nat × Nat)} (h : ∀ x ∈ l, Small x) : Fit l := fun x hx => by
  obtain ⟨_, h1, h2⟩ := h x hx
  omega
theorem fits_l1 (l : List (Nat × Nat)) (hl : l.length ≤ 6) (hs : ∀ x ∈ l, Small x) : ∀ (j k : Nat), j ≤ l.length → 18446744073709552000 + j < k →
    catchwordlaw19_ScoreFits.l1 k (l.map toS) ((l.drop j).reverse.map toS) j = some true
  | 0, k, hj, hk => by
    obtain ⟨k, rfl⟩ : ∃ m, k = m + 1 := ⟨k - 1, by omega⟩
    simp only [catchwordlaw19_ScoreFits.l1]
    obtain ⟨N, D, r1, r2, r3, r4, r5⟩ := all_fits l hl hs
    have hD := (may_iff.1 r3).1
    have e184 : (184 : Nat) ^ 6 = 38806720086016 := by decide
    rw [e184] at r5
    rw [if_neg (by omega), List.drop_zero, all_f l (small_fit hs) (by omega) k (by omega), all_f l.reverse (small_fit (fun x hx => hs x (List.mem_reverse.1 hx))) (by simp; omega) k (by simp; omega), r1, r2]
    simp only [Option.bind_some, I3, if_true, beq_self_eq_true, Bool.and_self]
    rw [may_f N D k (by omega) (by omega) (by omega), r3]
    simp only [Option.bind_some, if_true]
    have h1 := less_f N D 1153 1 k (by omega) (by omega) (by omega) (by omega) (by omega) (by omega)
    rw [show (((1 : Nat) : Int)) = 1 from rfl, show (((1153 : Nat) : Int)) = 1153 from rfl] at h1
    have h2 : less N D 1153 1 = true := (less_iff r3 (by simp [may])).2 (by omega)
    rw [h1, h2]
    rfl
  | j + 1, k, hj, hk => by
    obtain ⟨k, rfl⟩ : ∃ m, k = m + 1 := ⟨k - 1, by omega⟩
    simp only [catchwordlaw19_ScoreFits.l1]
    rw [if_pos (by omega), w64n (x := ((j + 1 : Nat) : Int) - 1) j (by omega) (by omega), if_pos (by omega), if_pos (by rw [List.length_map]; omega), if_pos (by simp; omega), rd_toS l j (by omega)]
    have := fits_l1 l hl hs j k (by omega) (by omega)
    rw [List.drop_eq_getElem_cons (show j < l.length by omega), List.reverse_cons, List.map_append] at this
    exact this
theorem fits_l0 (t i n : List Int) (ht : t.length ≤ 6) (hi : t.length ≤ i.length) (hn : t.length ≤ n.length) : ∀ (d k m : Nat), d = t.length - m → m ≤ t.length → 18446744073709553000 + d < k →
    catchwordlaw19_ScoreFits.l0 k t i n ((ws t i n m).map toS) m = some true
  | 0, k, m, hd, hm, hk => by
    obtain ⟨k, rfl⟩ : ∃ m, k = m + 1 := ⟨k - 1, by omega⟩
    simp only [catchwordlaw19_ScoreFits.l0]
    have h := fits_l1 (ws t i n m) (by rw [ws_len]; omega) (ws_small t i n m) m k (by rw [ws_len]; omega) (by omega)
    rw [List.drop_eq_nil_of_le (by rw [ws_len]; omega)] at h
    rw [if_neg (by omega), List.length_map, ws_len]
    exact h
  | d + 1, k, m, hd, hm, hk => by
    obtain ⟨k, rfl⟩ : ∃ m, k = m + 1 := ⟨k - 1, by omega⟩
    simp only [catchwordlaw19_ScoreFits.l0]
    rw [if_pos (by omega), if_pos (by omega), if_pos (by omega), if_pos (by omega), weight_f _ _ _ k (by omega)]
    simp only [Option.bind_some, I2]
    rw [if_pos (by rw [List.length_map, ws_len]; omega), w64n (x := (m : Int) + 1) (m + 1) (by omega) (by omega)]
    have h := fits_l0 t i n ht hi hn d k (m + 1) (by omega) (by omega) (by omega)
    rw [ws_succ, List.map_append] at h
    exact h
theorem ScoreFits : catchwordlaw19_ScoreFits.Pure := by
  intro t i n _ _ _ _ _ _ _ _ _
  refine ⟨18446744073709554002, ?_⟩
  unfold catchwordlaw19_ScoreFits.f
  rw [at_rounds (fun k => catchwordlaw19_awake.mono k) (show 100 ≤ 18446744073709554002 by omega) awake_ScoreFits]
  simp only [Option.bind_some, if_true]
  have skip : ∀ k, catchwordlaw19_ScoreFits.j0 (k + 1) t i n true true = some true := fun k => by simp only [catchwordlaw19_ScoreFits.j0, if_true]
  by_cases h1 : (t.length : Int) > 6
  · rw [if_pos h1, skip 18446744073709554001]
  · rw [if_neg h1]
    by_cases h2 : (i.length : Int) < t.length
    · rw [if_pos h2, skip 18446744073709554001]
    · rw [if_neg h2]
      by_cases h3 : (n.length : Int) < t.length
      · rw [decide_eq_true h3, skip 18446744073709554001]
      · rw [decide_eq_false h3]
        have go : ∀ k, 18446744073709553500 < k → catchwordlaw19_ScoreFits.j0 (k + 1) t i n true false = some true := fun k hk => by
          simp only [catchwordlaw19_ScoreFits.j0]
          rw [if_neg (by decide)]
          have h := fits_l0 t i n (by omega) (by omega) (by omega) t.length k 0 (by omega) (by omega) (by omega)
          rw [show ws t i n 0 = [] from rfl, List.map_nil] at h
          exact h
        exact go 18446744073709554001 (by omega)

end Go.Proofs.Ytljpdpfflmoheaa.Pure
