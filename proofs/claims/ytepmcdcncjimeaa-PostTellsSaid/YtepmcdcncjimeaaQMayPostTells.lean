/- What the program's May, the law's Few and the reference's Same tell, for the functions printed for one law. -/
import Derived.Test.YtepmcdcncjimeaaPPostTellsx
import Derived.Test.YtepmcdcncjimeaaVList
namespace Go.Proofs.Ytepmcdcncjimeaa.VPostTells
set_option linter.unusedVariables false
set_option linter.unusedSimpArgs false
open Go Go.RowKit Go.Proofs.Ytepmcdcncjimeaa.PPostTells Go.Proofs.YtepmcdcncjimeaaW.PrintWords Go.Proofs.YtepmcdcncjimeaaW.PrintLast Go.Proofs.YtepmcdcncjimeaaW.PrintMore Go.Proofs.Ytepmcdcncjimeaa.VSpec

/-- Each number is above the one ahead, and below an end. -/
def risE (e last : Int) : List Int → Bool
  | [] => true
  | n :: t => decide (last < n) && decide (n < e) && risE e n t
theorem risE_cons {e last n : Int} {t : List Int} : risE e last (n :: t) = true ↔ last < n ∧ n < e ∧ risE e n t = true := by
  simp [risE, and_assoc]
/-- May a posting be? -/
def okP (p : S39) : Bool := decide (1 ≤ p.f1.length) && decide (p.f1.length ≤ 120) && risE 120 (-1) p.f1
theorem okP_iff {p : S39} : okP p = true ↔ 1 ≤ p.f1.length ∧ p.f1.length ≤ 120 ∧ risE 120 (-1) p.f1 = true := by simp [okP, and_assoc]
def mayR (l : List S39) : Bool := l.all okP && decide (l.length ≤ 64) && risE 64 (-1) (l.map (·.f0))
theorem mayR_iff {l : List S39} : mayR l = true ↔ (∀ p ∈ l, okP p = true) ∧ l.length ≤ 64 ∧ risE 64 (-1) (l.map (·.f0)) = true := by simp [mayR, and_assoc]
theorem rd39_at (l : List S39) (i : Nat) (h : i < l.length) : l.drop i = rd_T39 l i :: l.drop (i + 1) := by
  rw [List.drop_eq_getElem_cons h]
  congr 1
  simp [rd_T39, List.getD_eq_getElem?_getD, List.getElem?_eq_getElem h]
theorem prising_l0 (e : Int) (l : List Int) (hm : l.length ≤ 140737488355328) : ∀ (d k i : Nat) (last : Int), d = l.length - i → i ≤ l.length → d < k → post_rising.l0 k e last l (l.length : Int) i = some (risE e last (l.drop i))
  | 0, k, i, last, hd, hi, hk => by
    obtain ⟨k, rfl⟩ : ∃ m, k = m + 1 := ⟨k - 1, by omega⟩
    simp only [post_rising.l0]
    rw [if_neg (by omega), List.drop_eq_nil_of_le (by omega)]
    rfl
  | d + 1, k, i, last, hd, hi, hk => by
    obtain ⟨k, rfl⟩ : ∃ m, k = m + 1 := ⟨k - 1, by omega⟩
    simp only [post_rising.l0]
    have hl : i < l.length := by omega
    rw [if_pos (by omega), if_pos (by omega), if_pos (by omega), w64n (x := (i : Int) + 1) (i + 1) (by omega) (by omega), prising_l0 e l hm d k (i + 1) _ (by omega) (by omega) (by omega), rd_at l i hl]
    simp only [risE]
    by_cases h1 : rd l (i : Int) ≤ last
    · rw [if_pos h1, decide_eq_false (by omega : ¬ last < rd l (i : Int))]; rfl
    · rw [if_neg h1, decide_eq_true (by omega : last < rd l (i : Int))]
      by_cases h2 : rd l (i : Int) ≥ e
      · rw [if_pos h2, decide_eq_false (by omega : ¬ rd l (i : Int) < e)]; rfl
      · rw [if_neg h2, decide_eq_true (by omega : rd l (i : Int) < e)]; rfl
theorem prising_f (e : Int) (l : List Int) (hm : l.length ≤ 140737488355328) (k : Nat) (hk : l.length < k) : post_rising.f k l e = some (risE e (-1) l) := by
  have := prising_l0 e l hm l.length k 0 (-1) (by omega) (by omega) hk
  rw [List.drop_zero] at this
  exact this
theorem may_l0 (x0 l : List S39) (hm : l.length ≤ 4398046511104) (h0 : x0.length = l.length) : ∀ (d k i : Nat) (docs : List Int), d = l.length - i → i ≤ l.length → docs.length = i → (∀ p ∈ l, p.f1.length < 1000 ∨ p.f1.length ≤ 140737488355328) → d + l.length + 200 < k →
    post_May.l0 k x0 docs l (l.length : Int) i = some ((l.drop i).all okP && decide (l.length ≤ 64) && risE 64 (-1) (docs ++ (l.drop i).map (·.f0)))
  | 0, k, i, docs, hd, hi, hdl, hp, hk => by
    obtain ⟨k, rfl⟩ : ∃ m, k = m + 1 := ⟨k - 1, by omega⟩
    simp only [post_May.l0]
    rw [if_neg (by omega), List.drop_eq_nil_of_le (by omega), h0]
    simp only [List.all_nil, List.map_nil, List.append_nil, Bool.true_and]
    by_cases h : l.length ≤ 64
    · rw [if_pos (by omega), prising_f 64 docs (by omega) k (by omega), decide_eq_true h]
      rfl
    · rw [if_neg (by omega), decide_eq_false h]
      rfl
  | d + 1, k, i, docs, hd, hi, hdl, hp, hk => by
    obtain ⟨k, rfl⟩ : ∃ m, k = m + 1 := ⟨k - 1, by omega⟩
    simp only [post_May.l0]
    have hl : i < l.length := by omega
    have hmem : rd_T39 l i ∈ l := List.mem_of_mem_drop (rd39_at l i hl ▸ List.mem_cons_self ..)
    rw [if_pos (by omega), if_pos (by omega), if_pos (by omega), rd39_at l i hl]
    generalize hx : rd_T39 l (i : Int) = x at hmem ⊢
    have e1 : docs ++ List.map (·.f0) (x :: l.drop (i + 1)) = (docs ++ [x.f0]) ++ (l.drop (i + 1)).map (·.f0) := by simp
    rw [List.all_cons, e1]
    by_cases h1 : (x.f1.length : Int) = 0
    · rw [if_pos h1, show okP x = false by simp [okP, show x.f1.length = 0 by omega]]
      rfl
    · rw [if_neg h1]
      by_cases h2 : (x.f1.length : Int) > 120
      · rw [if_pos h2, show okP x = false by simp [okP, show ¬ x.f1.length ≤ 120 by omega]]
        rfl
      · rw [if_neg h2, prising_f 120 x.f1 (by omega) k (by omega), Option.bind_some]
        have hok : okP x = risE 120 (-1) x.f1 := by simp [okP, show 1 ≤ x.f1.length by omega, show x.f1.length ≤ 120 by omega]
        rw [hok]
        cases risE 120 (-1) x.f1
        · rw [if_neg (by decide)]; rfl
        · rw [if_pos rfl, if_pos (by omega), w64n (x := (i : Int) + 1) (i + 1) (by omega) (by omega), may_l0 x0 l hm h0 d k (i + 1) (docs ++ [x.f0]) (by omega) (by omega) (by simp [hdl]) hp (by omega)]
          rfl
theorem may_f (l : List S39) (hm : l.length ≤ 4398046511104) (hp : ∀ p ∈ l, p.f1.length ≤ 140737488355328) (k : Nat) (hk : 2 * l.length + 200 < k) : post_May.f k l = some (mayR l) := by
  have := may_l0 l l hm rfl l.length k 0 [] (by omega) (by omega) rfl (fun p h => .inr (hp p h)) (by omega)
  rw [List.drop_zero] at this
  exact this
/-! ### Few -/
def fewR (l : List S39) : Bool := decide (l.length ≤ 70) && l.all (fun p => decide (p.f1.length ≤ 130))
theorem fewR_iff {l : List S39} : fewR l = true ↔ l.length ≤ 70 ∧ ∀ p ∈ l, p.f1.length ≤ 130 := by simp [fewR]
theorem few_l0 (l : List S39) (hm : l.length ≤ 70) : ∀ (d k i : Nat), d = l.length - i → i ≤ l.length → d < k → catchwordlaw06_Few.l0 k l i = some ((l.drop i).all (fun p => decide (p.f1.length ≤ 130)))
  | 0, k, i, hd, hi, hk => by
    obtain ⟨k, rfl⟩ : ∃ m, k = m + 1 := ⟨k - 1, by omega⟩
    simp only [catchwordlaw06_Few.l0]
    rw [if_neg (by omega), List.drop_eq_nil_of_le (by omega)]
    rfl
  | d + 1, k, i, hd, hi, hk => by
    obtain ⟨k, rfl⟩ : ∃ m, k = m + 1 := ⟨k - 1, by omega⟩
    simp only [catchwordlaw06_Few.l0]
    have hl : i < l.length := by omega
    rw [if_pos (by omega), if_pos (by omega), rd39_at l i hl, List.all_cons, w64n (x := (i : Int) + 1) (i + 1) (by omega) (by omega), few_l0 l hm d k (i + 1) (by omega) (by omega) (by omega)]
    by_cases h : ((rd_T39 l (i : Int)).f1.length : Int) > 130
    · rw [if_pos h, decide_eq_false (by omega : ¬ (rd_T39 l (i : Int)).f1.length ≤ 130)]; rfl
    · rw [if_neg h, decide_eq_true (by omega : (rd_T39 l (i : Int)).f1.length ≤ 130)]; rfl
theorem few_f (l : List S39) (k : Nat) (hk : 100 < k) : catchwordlaw06_Few.f k l = some (fewR l) := by
  unfold catchwordlaw06_Few.f
  by_cases h : (l.length : Int) > 70
  · rw [if_pos h]
    simp [fewR, show ¬ l.length ≤ 70 by omega]
  · rw [if_neg h, show (0 : Int) = ((0 : Nat) : Int) from rfl, few_l0 l (by omega) l.length k 0 (by omega) (by omega) (by omega)]
    simp [fewR, show l.length ≤ 70 by omega]
/-! ### ref06.Same -/
theorem ints_l0 (x y : List Int) (he : x.length = y.length) (hm : x.length ≤ 140737488355328) : ∀ (d k i : Nat), d = x.length - i → i ≤ x.length → d < k → catchwordref01_Ints.l0 k x y i = some (x.drop i == y.drop i)
  | 0, k, i, hd, hi, hk => by
    obtain ⟨k, rfl⟩ : ∃ m, k = m + 1 := ⟨k - 1, by omega⟩
    simp only [catchwordref01_Ints.l0]
    rw [if_neg (by omega), List.drop_eq_nil_of_le (by omega), List.drop_eq_nil_of_le (by omega)]
    rfl
  | d + 1, k, i, hd, hi, hk => by
    obtain ⟨k, rfl⟩ : ∃ m, k = m + 1 := ⟨k - 1, by omega⟩
    simp only [catchwordref01_Ints.l0]
    rw [if_pos (by omega), if_pos (by omega), if_pos (by omega), rd_at x i (by omega), rd_at y i (by omega), w64n (x := (i : Int) + 1) (i + 1) (by omega) (by omega), ints_l0 x y he hm d k (i + 1) (by omega) (by omega) (by omega)]
    by_cases h : rd x (i : Int) = rd y (i : Int)
    · rw [if_pos h, h]
      simp
    · rw [if_neg h]
      simp [h]
theorem ints_f (x y : List Int) (hm : x.length ≤ 140737488355328) (k : Nat) (hk : x.length < k) : catchwordref01_Ints.f k x y = some (x == y) := by
  unfold catchwordref01_Ints.f
  by_cases h : (x.length : Int) = (y.length : Int)
  · rw [if_pos h, show (0 : Int) = ((0 : Nat) : Int) from rfl, ints_l0 x y (by omega) hm x.length k 0 (by omega) (by omega) hk, List.drop_zero, List.drop_zero]
  · rw [if_neg h]
    have : x ≠ y := fun e => h (by rw [e])
    simp [this]
def eqP (p q : S39) : Bool := (p.f1 == q.f1) && decide (p.f0 = q.f0)
def eqPs : List S39 → List S39 → Bool
  | [], [] => true
  | p :: l, q :: m => eqP p q && eqPs l m
  | _, _ => false
theorem eqPs_refl : ∀ l, eqPs l l = true
  | [] => rfl
  | p :: l => by simp [eqPs, eqP, eqPs_refl l]
theorem eqPs_len : ∀ l m, eqPs l m = true → l.length = m.length
  | [], [], _ => rfl
  | p :: l, q :: m, h => by
    simp only [eqPs, Bool.and_eq_true] at h
    simp [eqPs_len l m h.2]
  | [], _ :: _, h => by simp [eqPs] at h
  | _ :: _, [], h => by simp [eqPs] at h
theorem rsame_l0 (x y : List S39) (he : x.length = y.length) (hm : x.length ≤ 100000000) (hx : ∀ p ∈ x, p.f1.length ≤ 100000000) : ∀ (d k i : Nat), d = x.length - i → i ≤ x.length → d + 100000001 < k → catchwordref06_Same.l0 k x y i = some (eqPs (x.drop i) (y.drop i))
  | 0, k, i, hd, hi, hk => by
    obtain ⟨k, rfl⟩ : ∃ m, k = m + 1 := ⟨k - 1, by omega⟩
    simp only [catchwordref06_Same.l0]
    rw [if_neg (by omega), List.drop_eq_nil_of_le (by omega), List.drop_eq_nil_of_le (by omega)]
    rfl
  | d + 1, k, i, hd, hi, hk => by
    obtain ⟨k, rfl⟩ : ∃ m, k = m + 1 := ⟨k - 1, by omega⟩
    simp only [catchwordref06_Same.l0]
    have hl : i < x.length := by omega
    have hmem : rd_T39 x i ∈ x := List.mem_of_mem_drop (rd39_at x i hl ▸ List.mem_cons_self ..)
    have := hx _ hmem
    rw [if_pos (by omega), if_pos (by omega), if_pos (by omega), rd39_at x i hl, rd39_at y i (by omega), ints_f _ _ (by omega) k (by omega), Option.bind_some, w64n (x := (i : Int) + 1) (i + 1) (by omega) (by omega), rsame_l0 x y he hm hx d k (i + 1) (by omega) (by omega) (by omega)]
    simp only [eqPs, eqP]
    cases (rd_T39 x (i : Int)).f1 == (rd_T39 y (i : Int)).f1
    · rw [if_neg (by decide)]; rfl
    · rw [if_pos rfl]
      by_cases h : (rd_T39 x (i : Int)).f0 = (rd_T39 y (i : Int)).f0
      · rw [if_pos h, decide_eq_true h]; rfl
      · rw [if_neg h, decide_eq_false h]; rfl
theorem eqPs_ne : ∀ l m : List S39, l.length ≠ m.length → eqPs l m = false := fun l m h => by
  cases e : eqPs l m
  · rfl
  · exact absurd (eqPs_len l m e) h
theorem rsame_f (x y : List S39) (hm : x.length ≤ 100000000) (hx : ∀ p ∈ x, p.f1.length ≤ 100000000) (k : Nat) (hk : 300000000 < k) : catchwordref06_Same.f k x y = some (eqPs x y) := by
  unfold catchwordref06_Same.f
  by_cases h : (x.length : Int) = (y.length : Int)
  · rw [if_pos h, show (0 : Int) = ((0 : Nat) : Int) from rfl, rsame_l0 x y (by omega) hm hx x.length k 0 (by omega) (by omega) (by omega), List.drop_zero, List.drop_zero]
  · rw [if_neg h, eqPs_ne x y (fun e => h (by rw [e]))]
end Go.Proofs.Ytepmcdcncjimeaa.VPostTells
