/- What the reference's May tells, for the functions printed for one law. -/
import Derived.Test.YtepmcdcncjimeaaQMayPostTells
namespace Go.Proofs.Ytepmcdcncjimeaa.VPostTells
set_option linter.unusedVariables false
set_option linter.unusedSimpArgs false
open Go Go.RowKit Go.Proofs.Ytepmcdcncjimeaa.PPostTells Go.Proofs.YtepmcdcncjimeaaW.PrintWords Go.Proofs.YtepmcdcncjimeaaW.PrintLast Go.Proofs.YtepmcdcncjimeaaW.PrintMore Go.Proofs.Ytepmcdcncjimeaa.VSpec

theorem r6rising_l0 (e : Int) (l : List Int) (hm : l.length ≤ 140737488355328) : ∀ (d k i : Nat) (last : Int), d = l.length - i → i ≤ l.length → d < k → (i = 0 → last = -1) → (0 < i → rd l ((i - 1 : Nat) : Int) = last ∧ 0 ≤ last) →
    catchwordref06_rising.l0 k l e i = some (risE e last (l.drop i))
  | 0, k, i, last, hd, hi, hk, h0, h1 => by
    obtain ⟨k, rfl⟩ : ∃ m, k = m + 1 := ⟨k - 1, by omega⟩
    simp only [catchwordref06_rising.l0]
    rw [if_neg (by omega), List.drop_eq_nil_of_le (by omega)]
    rfl
  | d + 1, k, i, last, hd, hi, hk, h0, h1 => by
    obtain ⟨k, rfl⟩ : ∃ m, k = m + 1 := ⟨k - 1, by omega⟩
    simp only [catchwordref06_rising.l0]
    have hl : i < l.length := by omega
    rw [if_pos (by omega), if_pos (by omega), w64n (x := (i : Int) + 1) (i + 1) (by omega) (by omega), rd_at l i hl]
    have ih : 0 ≤ rd l i → catchwordref06_rising.l0 k l e ((i + 1 : Nat) : Int) = some (risE e (rd l i) (l.drop (i + 1))) := fun hh =>
      r6rising_l0 e l hm d k (i + 1) (rd l i) (by omega) (by omega) (by omega) (by omega) (fun _ => ⟨by simp, hh⟩)
    simp only [risE]
    have hlast : -1 ≤ last := by
      rcases Nat.eq_zero_or_pos i with h | h
      · rw [h0 h]; omega
      · have := (h1 h).2; omega
    generalize rd l i = n at ih
    by_cases c1 : n < 0
    · rw [if_pos c1, decide_eq_false (by omega : ¬ last < n)]; rfl
    · rw [if_neg c1]
      by_cases c2 : n ≥ e
      · rw [if_pos c2, decide_eq_false (by omega : ¬ n < e)]; simp
      · rw [if_neg c2, decide_eq_true (by omega : n < e)]
        by_cases c3 : (i : Int) > 0
        · obtain ⟨z1, z2⟩ := h1 (by omega)
          rw [if_pos c3, w64n (x := (i : Int) - 1) (i - 1) (by omega) (by omega), if_pos (by omega), if_pos (by omega), z1]
          by_cases c4 : n ≤ last
          · rw [if_pos c4, decide_eq_false (by omega : ¬ last < n)]; rfl
          · rw [if_neg c4, decide_eq_true (by omega : last < n), ih (by omega)]; rfl
        · have := h0 (by omega)
          rw [if_neg c3, decide_eq_true (by omega : last < n), ih (by omega)]; rfl
theorem r6rising_f (e : Int) (l : List Int) (hm : l.length ≤ 140737488355328) (k : Nat) (hk : l.length < k) : catchwordref06_rising.f k l e = some (risE e (-1) l) := by
  have := r6rising_l0 e l hm l.length k 0 (-1) (by omega) (by omega) hk (fun _ => rfl) (fun h => by omega)
  rw [List.drop_zero] at this
  exact this
theorem risE_size {e : Int} : ∀ {l : List Int} {last : Int}, last < e → risE e last l = true → (l.length : Int) ≤ e - last - 1
  | [], _, h, _ => by simp; omega
  | n :: t, last, h, hr => by
    obtain ⟨h1, h2, h3⟩ := risE_cons.1 hr
    have := risE_size h2 h3
    simp only [List.length_cons]
    omega
theorem rmay_l0 (l : List S39) (hm : l.length ≤ 64) (hp : ∀ p ∈ l, p.f1.length ≤ 140737488355328) (K : Nat) (hK : ∀ p ∈ l, p.f1.length < K) : ∀ (d k i : Nat) (last : Int), d = l.length - i → i ≤ l.length → d + K < k → (i = 0 → last = -1) → (0 < i → (rd_T39 l ((i - 1 : Nat) : Int)).f0 = last ∧ 0 ≤ last) →
    catchwordref06_May.l0 k l i = some ((l.drop i).all okP && risE 64 last ((l.drop i).map (·.f0)))
  | 0, k, i, last, hd, hi, hk, h0, h1 => by
    obtain ⟨k, rfl⟩ : ∃ m, k = m + 1 := ⟨k - 1, by omega⟩
    simp only [catchwordref06_May.l0]
    rw [if_neg (by omega), List.drop_eq_nil_of_le (by omega)]
    rfl
  | d + 1, k, i, last, hd, hi, hk, h0, h1 => by
    obtain ⟨k, rfl⟩ : ∃ m, k = m + 1 := ⟨k - 1, by omega⟩
    simp only [catchwordref06_May.l0]
    have hl : i < l.length := by omega
    have hmem : rd_T39 l i ∈ l := List.mem_of_mem_drop (rd39_at l i hl ▸ List.mem_cons_self ..)
    have hlast : -1 ≤ last := by
      rcases Nat.eq_zero_or_pos i with h | h
      · rw [h0 h]; omega
      · have := (h1 h).2; omega
    rw [if_pos (by omega), if_pos (by omega), w64n (x := (i : Int) + 1) (i + 1) (by omega) (by omega), rd39_at l i hl]
    have ih : 0 ≤ (rd_T39 l i).f0 → catchwordref06_May.l0 k l ((i + 1 : Nat) : Int) = some ((l.drop (i + 1)).all okP && risE 64 (rd_T39 l i).f0 ((l.drop (i + 1)).map (·.f0))) := fun hh =>
      rmay_l0 l hm hp K hK d k (i + 1) (rd_T39 l i).f0 (by omega) (by omega) (by omega) (by omega) (fun _ => ⟨by simp, hh⟩)
    have := hK _ hmem
    have := hp _ hmem
    generalize rd_T39 l (i : Int) = x at *
    rw [r6rising_f 120 x.f1 (by omega) k (by omega), Option.bind_some, List.all_cons, List.map_cons]
    simp only [risE]
    cases hr : risE 120 (-1) x.f1 with
    | false => rw [if_neg (by decide), show okP x = false by simp [okP, hr]]; rfl
    | true =>
      have hs := risE_size (by omega) hr
      rw [if_pos rfl]
      by_cases c1 : (x.f1.length : Int) < 1
      · rw [if_pos c1, show okP x = false by simp [okP, show x.f1.length = 0 by omega]]; rfl
      · rw [if_neg c1, show okP x = true from okP_iff.2 ⟨by omega, by omega, hr⟩]
        by_cases c2 : x.f0 < 0
        · rw [if_pos c2, decide_eq_false (by omega : ¬ last < x.f0)]; simp
        · rw [if_neg c2]
          by_cases c3 : x.f0 > 63
          · rw [if_pos c3, decide_eq_false (by omega : ¬ x.f0 < 64)]; simp
          · rw [if_neg c3, decide_eq_true (by omega : x.f0 < 64)]
            by_cases c4 : (i : Int) > 0
            · obtain ⟨z1, z2⟩ := h1 (by omega)
              rw [if_pos c4, w64n (x := (i : Int) - 1) (i - 1) (by omega) (by omega), if_pos (by omega), if_pos (by omega), z1]
              by_cases c5 : x.f0 ≤ last
              · rw [if_pos c5, decide_eq_false (by omega : ¬ last < x.f0)]; simp
              · rw [if_neg c5, decide_eq_true (by omega : last < x.f0), ih (by omega)]; simp
            · have := h0 (by omega)
              rw [if_neg c4, decide_eq_true (by omega : last < x.f0), ih (by omega)]; simp
theorem rmay_f (l : List S39) (K : Nat) (hp : ∀ p ∈ l, p.f1.length ≤ 140737488355328) (hK : ∀ p ∈ l, p.f1.length < K) (k : Nat) (hk : K + 100 < k) : catchwordref06_May.f k l = some (mayR l) := by
  unfold catchwordref06_May.f
  by_cases h : (l.length : Int) > 64
  · rw [if_pos h]
    simp [mayR, show ¬ l.length ≤ 64 by omega]
  · have := rmay_l0 l (by omega) hp K hK l.length k 0 (-1) (by omega) (by omega) (by omega) (fun _ => rfl) (fun h => by omega)
    rw [List.drop_zero] at this
    rw [if_neg h, show (0 : Int) = ((0 : Nat) : Int) from rfl, this]
    simp [mayR, show l.length ≤ 64 by omega]
end Go.Proofs.Ytepmcdcncjimeaa.VPostTells
