/- What the reference's Put and Find tell, for the functions printed for one law. -/
import Derived.Test.YtepmcdcncjimeaaQRefMPostTells
import Derived.Test.YtepmcdcncjimeaaQPutPostTells
namespace Go.Proofs.Ytepmcdcncjimeaa.VPostTells
set_option linter.unusedVariables false
set_option linter.unusedSimpArgs false
open Go Go.RowKit Go.Proofs.Ytepmcdcncjimeaa.PPostTells Go.Proofs.YtepmcdcncjimeaaW.PrintWords Go.Proofs.YtepmcdcncjimeaaW.PrintLast Go.Proofs.YtepmcdcncjimeaaW.PrintMore Go.Proofs.Ytepmcdcncjimeaa.VSpec

theorem r6has_l0 (l : List Int) (a : Int) (hm : l.length ≤ 140737488355328) : ∀ (d k i : Nat), d = l.length - i → i ≤ l.length → d < k → catchwordref06_has.l0 k l a i = some ((l.drop i).any (fun x => decide (x = a)))
  | 0, k, i, hd, hi, hk => by
    obtain ⟨k, rfl⟩ : ∃ m, k = m + 1 := ⟨k - 1, by omega⟩
    simp only [catchwordref06_has.l0]
    rw [if_neg (by omega), List.drop_eq_nil_of_le (by omega)]
    rfl
  | d + 1, k, i, hd, hi, hk => by
    obtain ⟨k, rfl⟩ : ∃ m, k = m + 1 := ⟨k - 1, by omega⟩
    simp only [catchwordref06_has.l0]
    have hl : i < l.length := by omega
    rw [if_pos (by omega), if_pos (by omega), w64n (x := (i : Int) + 1) (i + 1) (by omega) (by omega), r6has_l0 l a hm d k (i + 1) (by omega) (by omega) (by omega), rd_at l i hl, List.any_cons]
    by_cases h : rd l (i : Int) = a
    · rw [if_pos h, decide_eq_true h]; rfl
    · rw [if_neg h, decide_eq_false h]; rfl
theorem any_hasI (a e : Int) : ∀ (l : List Int) (last : Int), risE e last l = true → l.any (fun x => decide (x = a)) = hasI a l
  | [], _, _ => rfl
  | y :: t, last, h => by
    have ih := any_hasI a e t y (risE_cons.1 h).2.2
    rw [List.any_cons, ih]
    simp only [hasI]
    by_cases h1 : a < y
    · rw [if_pos h1, decide_eq_false (by omega), ← ih, Bool.false_or, Bool.eq_false_iff]
      intro hc
      obtain ⟨x, hx, hxa⟩ := List.any_eq_true.1 hc
      have := risE_head h x hx
      have := of_decide_eq_true hxa
      omega
    · rw [if_neg h1]
      by_cases h2 : a = y
      · rw [if_pos h2, decide_eq_true h2.symm]; rfl
      · rw [if_neg h2, decide_eq_false (fun e => h2 e.symm)]; rfl
theorem r6has_f (l : List Int) (a e last : Int) (hr : risE e last l = true) (hm : l.length ≤ 140737488355328) (k : Nat) (hk : l.length < k) : catchwordref06_has.f k l a = some (hasI a l) := by
  have := r6has_l0 l a hm l.length k 0 (by omega) (by omega) hk
  rw [List.drop_zero, any_hasI a e l last hr] at this
  exact this
def withR (a : Int) : List Int → List Int
  | [] => [a]
  | y :: t => if y < a then y :: withR a t else a :: y :: t
theorem withR_ins (a : Int) : ∀ l, hasI a l = false → withR a l = insS a l
  | [], _ => rfl
  | y :: t, h => by
    simp only [hasI] at h
    simp only [withR, insS]
    by_cases h1 : a < y
    · rw [if_pos h1, if_neg (by omega)]
    · rw [if_neg h1] at h ⊢
      by_cases h2 : a = y
      · rw [if_pos h2] at h; cases h
      · rw [if_neg h2] at h ⊢
        rw [if_pos (by omega), withR_ins a t h]
theorem r6with_l0 (l : List Int) (a : Int) (hm : l.length ≤ 1000000) : ∀ (d k i : Nat) (o : List Int), d = l.length - i → i ≤ l.length → o.length = i → d < k → catchwordref06_with.l0 k l a o i = some (o ++ withR a (l.drop i))
  | 0, k, i, o, hd, hi, ho, hk => by
    obtain ⟨k, rfl⟩ : ∃ m, k = m + 1 := ⟨k - 1, by omega⟩
    simp only [catchwordref06_with.l0]
    rw [if_neg (by omega), if_pos (by omega), Option.bind_some, if_pos (by omega), if_pos (by omega), Int.toNat_natCast, List.drop_eq_nil_of_le (by omega), if_pos (by rw [List.length_append]; simp; omega)]
    simp [withR]
  | d + 1, k, i, o, hd, hi, ho, hk => by
    obtain ⟨k, rfl⟩ : ∃ m, k = m + 1 := ⟨k - 1, by omega⟩
    simp only [catchwordref06_with.l0]
    have hl : i < l.length := by omega
    rw [if_pos (by omega), if_pos (by omega)]
    by_cases h : rd l (i : Int) < a
    · rw [if_pos h, if_pos (by omega), w64n (x := (i : Int) + 1) (i + 1) (by omega) (by omega), r6with_l0 l a hm d k (i + 1) _ (by omega) (by omega) (by rw [List.length_append, ho]; rfl) (by omega), rd_at l i hl]
      simp only [withR]
      rw [if_pos h]
      simp
    · rw [if_neg h, if_pos (by omega), Option.bind_some, if_pos (by omega), Int.toNat_natCast, if_pos (by rw [List.length_append, List.length_drop]; simp; omega), rd_at l i hl]
      simp only [withR]
      rw [if_neg h]
      simp
theorem r6with_f (l : List Int) (a : Int) (hm : l.length ≤ 1000000) (k : Nat) (hk : l.length < k) : catchwordref06_with.f k l a = some (withR a l) := by
  have := r6with_l0 l a hm l.length k 0 [] (by omega) (by omega) rfl hk
  rw [List.drop_zero, List.nil_append] at this
  exact this
theorem ps_nil (d a : Int) : hasS d a [] = false ∧ putS d a [] = [⟨d, [a]⟩] := ⟨rfl, rfl⟩
theorem is_eq (d y : Int) (t : List Int) (h : y = d) : isS d (y :: t) = true ∧ lowS d (y :: t) = 0 := by
  constructor
  · simp only [isS]; rw [if_neg (by omega), decide_eq_true h]
  · simp only [lowS]; rw [if_neg (by omega)]
theorem is_lt (d y : Int) (t : List Int) (h : y < d) : isS d (y :: t) = isS d t ∧ lowS d (y :: t) = lowS d t + 1 := by
  constructor
  · simp only [isS]; rw [if_pos h]
  · simp only [lowS]; rw [if_pos h]
theorem is_gt (d y : Int) (t : List Int) (h : d < y) : isS d (y :: t) = false := by
  simp only [isS]; rw [if_neg (by omega), decide_eq_false (by omega)]
theorem ps_lt (d a : Int) (p : S39) (t : List S39) (h : d < p.f0) : hasS d a (p :: t) = false ∧ putS d a (p :: t) = ⟨d, [a]⟩ :: p :: t := by
  constructor
  · simp only [hasS]; rw [if_pos h]
  · simp only [putS]; rw [if_pos h]
theorem ps_eq (d a : Int) (p : S39) (t : List S39) (h : d = p.f0) : hasS d a (p :: t) = hasI a p.f1 ∧ putS d a (p :: t) = ⟨p.f0, insS a p.f1⟩ :: t := by
  constructor
  · simp only [hasS]; rw [if_neg (by omega), if_pos h]
  · simp only [putS]; rw [if_neg (by omega), if_pos h]
theorem ps_gt (d a : Int) (p : S39) (t : List S39) (h : p.f0 < d) : hasS d a (p :: t) = hasS d a t ∧ putS d a (p :: t) = p :: putS d a t := by
  constructor
  · simp only [hasS]; rw [if_neg (by omega), if_neg (by omega)]
  · simp only [putS]; rw [if_neg (by omega), if_neg (by omega)]
theorem r6put_l0 (l : List S39) (d a : Int) (hm : l.length ≤ 64) (hp : ∀ p ∈ l, okP p = true) : ∀ (n k i : Nat) (o : List S39), n = l.length - i → i ≤ l.length → o.length = i → n + 200 < k →
    catchwordref06_Put.l0 k l d a o i = some (if hasS d a (l.drop i) = true then (l, 3) else (o ++ putS d a (l.drop i), 0))
  | 0, k, i, o, hn, hi, ho, hk => by
    obtain ⟨k, rfl⟩ : ∃ m, k = m + 1 := ⟨k - 1, by omega⟩
    simp only [catchwordref06_Put.l0]
    rw [if_neg (by omega), r6has_f [] a 120 (-1) rfl (by simp) k (by simp; omega), Option.bind_some, r6with_f [] a (by simp) k (by simp; omega), show l.drop i = [] from List.drop_eq_nil_of_le (by omega), (ps_nil d a).1, (ps_nil d a).2]
    simp only [hasI, withR, Option.bind_some]
    rw [if_neg (by decide), if_pos (by omega), if_pos (by omega), if_pos (by omega), List.drop_eq_nil_of_le (by omega), if_pos (by simp; omega), if_neg (by decide)]
    simp
  | n + 1, k, i, o, hn, hi, ho, hk => by
    obtain ⟨k, rfl⟩ : ∃ m, k = m + 1 := ⟨k - 1, by omega⟩
    simp only [catchwordref06_Put.l0]
    have hl : i < l.length := by omega
    have hmem : rd_T39 l i ∈ l := List.mem_of_mem_drop (rd39_at l i hl ▸ List.mem_cons_self ..)
    have hok := hp _ hmem
    have ih := fun o' ho' => r6put_l0 l d a hm hp n k (i + 1) o' (by omega) (by omega) ho' (by omega)
    rw [if_pos (by omega), if_pos (by omega), w64n (x := (i : Int) + 1) (i + 1) (by omega) (by omega)]
    have hdl : (l.drop (i + 1)).length ≤ 64 := by rw [List.length_drop]; omega
    have hdl2 : (l.drop i).length ≤ 64 := by rw [List.length_drop]; omega
    have hcons := rd39_at l i hl
    generalize rd_T39 l (i : Int) = p at *
    obtain ⟨o1, o2, o3⟩ := okP_iff.1 hok
    by_cases h1 : p.f0 < d
    · rw [if_pos h1, if_pos (by omega), ih _ (by rw [List.length_append, ho]; rfl), hcons, (ps_gt d a p _ h1).1, (ps_gt d a p _ h1).2]
      simp
    · rw [if_neg h1]
      by_cases h2 : p.f0 = d
      · rw [if_pos h2, r6has_f p.f1 a 120 (-1) o3 (by omega) k (by omega), Option.bind_some, hcons, (ps_eq d a p _ h2.symm).1, (ps_eq d a p _ h2.symm).2]
        cases hh : hasI a p.f1
        · rw [if_neg (by decide), if_neg (by decide), r6with_f p.f1 a (by omega) k (by omega), Option.bind_some, if_pos (by omega), Option.bind_some, if_pos (by omega), if_pos (by omega), Option.bind_some, Int.toNat_natCast, if_pos (by rw [List.length_append]; simp only [List.length_singleton]; omega), withR_ins a _ hh]
          simp
        · rw [if_pos rfl, if_pos rfl]
      · rw [if_neg h2, r6has_f [] a 120 (-1) rfl (by simp) k (by simp; omega), Option.bind_some, r6with_f [] a (by simp) k (by simp; omega)]
        simp only [hasI, withR, Option.bind_some]
        rw [if_neg (by decide), if_pos (by omega), if_pos (by omega), Int.toNat_natCast, if_pos (by rw [List.length_append]; simp only [List.length_singleton]; omega), hcons, (ps_lt d a p _ (by omega)).1, (ps_lt d a p _ (by omega)).2, if_neg (by decide)]
        simp
theorem r6put_f (l : List S39) (d a : Int) (K : Nat) (hp : ∀ p ∈ l, p.f1.length ≤ 140737488355328) (hK : ∀ p ∈ l, p.f1.length < K) (k : Nat) (hk : K + 1000 < k) : catchwordref06_Put.f k l d a = some (putRes l d a) := by
  unfold catchwordref06_Put.f putRes
  rw [rmay_f l K hp hK k (by omega), Option.bind_some]
  cases hmay : mayR l
  · rw [if_neg (by decide), if_neg (by simp)]
  · rw [if_pos rfl]
    by_cases c1 : d < 0
    · rw [if_pos c1, if_neg (fun h => by have := inR_iff.1 h.2; omega)]
    · rw [if_neg c1]
      by_cases c2 : d > 63
      · rw [if_pos c2, if_neg (fun h => by have := inR_iff.1 h.2; omega)]
      · rw [if_neg c2]
        by_cases c3 : a < 0
        · rw [if_pos c3, if_neg (fun h => by have := inR_iff.1 h.2; omega)]
        · rw [if_neg c3]
          by_cases c4 : a > 119
          · rw [if_pos c4, if_neg (fun h => by have := inR_iff.1 h.2; omega)]
          · obtain ⟨w1, w2, _⟩ := mayR_iff.1 hmay
            have := r6put_l0 l d a w2 w1 l.length k 0 [] (by omega) (by omega) rfl (by omega)
            simp only [Int.natCast_zero, List.drop_zero, List.nil_append] at this
            rw [if_neg c4, if_pos ⟨by first | rfl | trivial, inR_iff.2 ⟨by omega, by omega, by omega, by omega⟩⟩, this]
theorem isS_gt (d : Int) : ∀ l : List Int, (∀ x ∈ l, d < x) → isS d l = false
  | [], _ => rfl
  | y :: t, h => by
    have := h y (List.mem_cons_self ..)
    simp only [isS]
    rw [if_neg (by omega), decide_eq_false (by omega)]
theorem r6find_l0 (l : List S39) (d : Int) (hm : l.length ≤ 64) : ∀ (n k i : Nat) (last : Int), n = l.length - i → i ≤ l.length → 2 * n + 2 < k → risE 64 last ((l.drop i).map (·.f0)) = true →
    catchwordref06_Find.l0 k l d true i = some (if isS d ((l.drop i).map (·.f0)) = true then ((i + lowS d ((l.drop i).map (·.f0)) : Nat) : Int) else -1)
  | 0, k, i, last, hn, hi, hk, hr => by
    obtain ⟨k, rfl⟩ : ∃ m, k = m + 2 := ⟨k - 2, by omega⟩
    simp only [catchwordref06_Find.l0, catchwordref06_Find.j1]
    rw [if_neg (by omega), if_neg (by decide), List.drop_eq_nil_of_le (by omega)]
    rfl
  | n + 1, k, i, last, hn, hi, hk, hr => by
    obtain ⟨k, rfl⟩ : ∃ m, k = m + 2 := ⟨k - 2, by omega⟩
    simp only [catchwordref06_Find.l0, catchwordref06_Find.j1]
    have hl : i < l.length := by omega
    have hcons := rd39_at l i hl
    rw [hcons, List.map_cons] at hr
    have hr3 := (risE_cons.1 hr).2.2
    rw [if_pos (by omega), if_pos trivial, if_pos (by omega), if_pos (by omega), w64n (x := (i : Int) + 1) (i + 1) (by omega) (by omega), r6find_l0 l d hm n k (i + 1) _ (by omega) (by omega) (by omega) hr3, hcons, List.map_cons]
    generalize rd_T39 l (i : Int) = p at *
    by_cases h1 : p.f0 = d
    · rw [if_pos h1, (is_eq d p.f0 _ h1).1, (is_eq d p.f0 _ h1).2, if_pos rfl]
      rfl
    · rw [if_neg h1]
      by_cases h2 : p.f0 < d
      · rw [(is_lt d p.f0 _ h2).1, (is_lt d p.f0 _ h2).2]
        split
        · congr 1; omega
        · rfl
      · rw [is_gt d p.f0 _ (by omega), isS_gt d _ (fun x hx => by have := risE_head hr x hx; omega), if_neg (by decide), if_neg (by decide)]
theorem r6find_f (l : List S39) (d : Int) (K : Nat) (hp : ∀ p ∈ l, p.f1.length ≤ 140737488355328) (hK : ∀ p ∈ l, p.f1.length < K) (k : Nat) (hk : K + 1000 < k) : catchwordref06_Find.f k l d = some (findR l d) := by
  unfold catchwordref06_Find.f findR
  rw [rmay_f l K hp hK k (by omega), Option.bind_some]
  cases hmay : mayR l
  · obtain ⟨k, rfl⟩ : ∃ m, k = m + 2 := ⟨k - 2, by omega⟩
    have e : ∀ x, catchwordref06_Find.j1 (k + 1) l d false x false = some (-1) := fun x => by
      simp only [catchwordref06_Find.j1]
      rw [if_neg (by decide)]
    simp only [catchwordref06_Find.l0]
    rw [e, show (if (false = true ∧ 0 ≤ d ∧ d < 64 ∧ isS d (l.map (·.f0)) = true) then ((lowS d (l.map (·.f0)) : Nat) : Int) else -1) = -1 from if_neg (fun h => Bool.false_ne_true h.1)]
    split <;> rfl
  · obtain ⟨w1, w2, w3⟩ := mayR_iff.1 hmay
    have := r6find_l0 l d w2 l.length k 0 (-1) (by omega) (by omega) (by omega) (by rw [List.drop_zero]; exact w3)
    simp only [Int.natCast_zero, List.drop_zero, Nat.zero_add] at this
    rw [this]
    by_cases h : isS d (l.map (·.f0)) = true
    · have hin : d ∈ l.map (·.f0) := by
        have hx := isS_at d (l.map (·.f0))
        rw [h] at hx
        split at hx
        · rename_i h'
          have := of_decide_eq_true hx.symm
          rw [← this]
          exact List.getElem_mem _
        · cases hx
      have := risE_in w3 d hin
      rw [if_pos h, if_pos ⟨by first | rfl | trivial, by omega, by omega, h⟩]
    · rw [if_neg h, if_neg (fun hh => h hh.2.2.2)]
end Go.Proofs.Ytepmcdcncjimeaa.VPostTells
