/- What the program's Put, Find and Same tell, for the functions printed for one law. -/
import Derived.Test.YtepmcdcncjimeaaQMayPostTells
namespace Go.Proofs.Ytepmcdcncjimeaa.VPostTells
set_option linter.unusedVariables false
set_option linter.unusedSimpArgs false
open Go Go.RowKit Go.Proofs.Ytepmcdcncjimeaa.PPostTells Go.Proofs.YtepmcdcncjimeaaW.PrintWords Go.Proofs.YtepmcdcncjimeaaW.PrintLast Go.Proofs.YtepmcdcncjimeaaW.PrintMore Go.Proofs.Ytepmcdcncjimeaa.VSpec

/-- How many stand below, ahead of the first that does not. -/
def lowS (d : Int) : List Int → Nat
  | [] => 0
  | y :: t => if y < d then lowS d t + 1 else 0
theorem lowS_le (d : Int) : ∀ l, lowS d l ≤ l.length
  | [] => Nat.le_refl _
  | y :: t => by
    have := lowS_le d t
    simp only [lowS, List.length_cons]
    split <;> omega
/-- Does it stand there? -/
def isS (d : Int) : List Int → Bool
  | [] => false
  | y :: t => if y < d then isS d t else decide (y = d)
theorem risE_head {e last n : Int} : ∀ {t : List Int}, risE e last (n :: t) = true → ∀ x ∈ t, n < x
  | [], _, x, hx => by cases hx
  | m :: t, h, x, hx => by
    obtain ⟨_, _, h3⟩ := risE_cons.1 h
    obtain ⟨h4, _, _⟩ := risE_cons.1 h3
    rcases List.mem_cons.1 hx with rfl | hx
    · exact h4
    · have := risE_head h3 x hx
      omega
theorem lowS_at (d e : Int) : ∀ (l : List Int) (last : Int), risE e last l = true → ∀ j (h : j < l.length), (l[j] < d ↔ j < lowS d l)
  | [], _, _, j, h => by simp at h
  | y :: t, last, hr, j, h => by
    have h3 := (risE_cons.1 hr).2.2
    simp only [lowS]
    cases j with
    | zero =>
      simp only [List.getElem_cons_zero]
      split <;> omega
    | succ j =>
      simp only [List.getElem_cons_succ]
      have ih := lowS_at d e t y h3 j (by simpa using h)
      split
      · rw [ih]; omega
      · have := risE_head hr _ (List.getElem_mem (l := t) (n := j) (by simpa using h))
        omega
theorem isS_at (d : Int) : ∀ (l : List Int), isS d l = (if h : lowS d l < l.length then decide (l[lowS d l] = d) else false)
  | [] => rfl
  | y :: t => by
    have ih := isS_at d t
    simp only [isS, lowS]
    by_cases h : y < d
    · rw [if_pos h, ih]
      simp only [h, if_true, List.length_cons, Nat.add_lt_add_iff_right, List.getElem_cons_succ]
    · rw [if_neg h]
      simp only [h, if_false, List.length_cons, Nat.zero_lt_succ, dif_pos, List.getElem_cons_zero]
theorem mid_eq (lo hi : Nat) (h : lo < hi) (hh : hi ≤ 1000000) : wrap64 ((IntKind.u64.wrap (wrap64 ((lo : Int) + (hi : Int)))) / 2) = (((lo + hi) / 2 : Nat) : Int) := by
  rw [w64n (x := (lo : Int) + hi) (lo + hi) (by omega) (by omega)]
  have : IntKind.u64.wrap ((lo + hi : Nat) : Int) = ((lo + hi : Nat) : Int) := by
    simp only [IntKind.wrap, IntKind.signed, IntKind.bits]
    simp
    omega
  rw [this, w64 (by omega) (by omega)]
  omega
theorem rd_getD (l : List Int) (i : Nat) (h : i < l.length) : rd l (i : Int) = l[i] := by
  have := rd_at l i h
  rw [List.drop_eq_getElem_cons h] at this
  exact (List.cons.inj this).1.symm
theorem bs_l0 (l : List Int) (e last x : Int) (hr : risE e last l = true) (hm : l.length ≤ 100000) : ∀ (d k lo hi : Nat), d = hi - lo → lo ≤ lowS x l → lowS x l ≤ hi → hi ≤ l.length → d < k →
    slices_BinarySearch_int_int.l0 k l x (l.length : Int) (lo : Int) (hi : Int) = some ((lowS x l : Int), isS x l)
  | d, k, lo, hi, hd, h1, h2, h3, hk => by
    obtain ⟨k, rfl⟩ : ∃ m, k = m + 1 := ⟨k - 1, by omega⟩
    simp only [slices_BinarySearch_int_int.l0]
    by_cases hlt : lo < hi
    · have hmid : (lo + hi) / 2 < l.length := by omega
      rw [if_pos (by omega), mid_eq lo hi hlt (by omega), if_pos (by omega), if_pos (by omega), rd_getD l _ hmid]
      have hat := lowS_at x e l last hr _ hmid
      have hless : ∀ a b : Int, cmp_Less_int.f a b = some (decide (a < b)) := fun a b => by simp [cmp_Less_int.f, cmp_isNaN_int.f]
      rw [hless, Option.bind_some]
      by_cases hc : l[(lo + hi) / 2] < x
      · rw [decide_eq_true hc, if_pos rfl, w64n (x := (((lo + hi) / 2 : Nat) : Int) + 1) ((lo + hi) / 2 + 1) (by omega) (by omega)]
        have := hat.1 hc
        exact bs_l0 l e last x hr hm (hi - ((lo + hi) / 2 + 1)) k _ hi rfl (by omega) h2 h3 (by omega)
      · rw [decide_eq_false hc, if_neg (by decide)]
        have : ¬ (lo + hi) / 2 < lowS x l := fun h => hc (hat.2 h)
        exact bs_l0 l e last x hr hm ((lo + hi) / 2 - lo) k lo _ rfl h1 (by omega) (by omega) (by omega)
    · have he : lo = lowS x l := by omega
      rw [if_neg (by omega), he, isS_at]
      by_cases hl : lowS x l < l.length
      · rw [dif_pos hl, if_pos (by omega), if_pos (by omega), if_pos (by omega), rd_getD l _ hl]
        by_cases hx : l[lowS x l] = x
        · rw [if_pos hx, decide_eq_true hx]
        · rw [if_neg hx, decide_eq_false hx]
          simp [slices_isNaN_int.f]
      · rw [dif_neg hl, if_neg (by omega)]
termination_by d => d
decreasing_by all_goals omega
theorem bs_f (l : List Int) (e last x : Int) (hr : risE e last l = true) (hm : l.length ≤ 100000) (k : Nat) (hk : l.length < k) : slices_BinarySearch_int_int.f k l x = some ((lowS x l : Int), isS x l) :=
  bs_l0 l e last x hr hm l.length k 0 l.length rfl (Nat.zero_le _) (lowS_le x l) (Nat.le_refl _) hk
theorem rd39_getD (l : List S39) (i : Nat) (h : i < l.length) : rd_T39 l (i : Int) = l[i] := by
  have := rd39_at l i h
  rw [List.drop_eq_getElem_cons h] at this
  exact (List.cons.inj this).1.symm
theorem place_l0 (l : List S39) (e last x : Int) (hr : risE e last (l.map (·.f0)) = true) (hm : l.length ≤ 100000) (hb : ∀ p ∈ l, -2305843009213693952 ≤ p.f0 ∧ p.f0 ≤ 2305843009213693952) (hx0 : -2305843009213693952 ≤ x) (hx1 : x ≤ 2305843009213693952) : ∀ (d k lo hi : Nat), d = hi - lo → lo ≤ lowS x (l.map (·.f0)) → lowS x (l.map (·.f0)) ≤ hi → hi ≤ l.length → d < k →
    api_Post_int.l0 k l x (l.length : Int) (lo : Int) (hi : Int) = some ((lowS x (l.map (·.f0)) : Int), isS x (l.map (·.f0)))
  | d, k, lo, hi, hd, h1, h2, h3, hk => by
    obtain ⟨k, rfl⟩ : ∃ m, k = m + 1 := ⟨k - 1, by omega⟩
    have hll : (l.map (·.f0)).length = l.length := by rw [List.length_map]
    have hsub : ∀ i (h : i < l.length), wrap64 (l[i].f0 - x) = l[i].f0 - x := fun i h => by
      have := hb l[i] (List.getElem_mem h)
      exact w64 (by omega) (by omega)
    simp only [api_Post_int.l0]
    by_cases hlt : lo < hi
    · have hmid : (lo + hi) / 2 < l.length := by omega
      rw [if_pos (by omega), mid_eq lo hi hlt (by omega), if_pos (by omega), if_pos (by omega), rd39_getD l _ hmid]
      have hat := lowS_at x e (l.map (·.f0)) last hr _ (by rw [hll]; exact hmid)
      rw [List.getElem_map] at hat
      simp only [post_place_1.f, Option.bind_some]
      rw [hsub _ hmid]
      by_cases hc : l[(lo + hi) / 2].f0 < x
      · rw [if_pos (by omega), w64n (x := (((lo + hi) / 2 : Nat) : Int) + 1) ((lo + hi) / 2 + 1) (by omega) (by omega)]
        have := hat.1 hc
        exact place_l0 l e last x hr hm hb hx0 hx1 (hi - ((lo + hi) / 2 + 1)) k _ hi rfl (by omega) h2 h3 (by omega)
      · rw [if_neg (by omega)]
        have : ¬ (lo + hi) / 2 < lowS x (l.map (·.f0)) := fun h => hc (hat.2 h)
        exact place_l0 l e last x hr hm hb hx0 hx1 ((lo + hi) / 2 - lo) k lo _ rfl h1 (by omega) (by omega) (by omega)
    · have he : lo = lowS x (l.map (·.f0)) := by omega
      rw [if_neg (by omega), he, isS_at]
      by_cases hl : lowS x (l.map (·.f0)) < l.length
      · rw [dif_pos (by rw [hll]; exact hl), if_pos (by omega), if_pos (by omega), if_pos (by omega), rd39_getD l _ hl]
        simp only [post_place_1.f, Option.bind_some, List.getElem_map]
        rw [hsub _ hl]
        congr 2
        rw [Bool.eq_iff_iff]
        simp only [beq_iff_eq, decide_eq_true_eq]
        omega
      · rw [dif_neg (by rw [hll]; exact hl), if_neg (by omega)]
termination_by d => d
decreasing_by all_goals omega
theorem place_f (l : List S39) (e last x : Int) (hr : risE e last (l.map (·.f0)) = true) (hm : l.length ≤ 100000) (hb : ∀ p ∈ l, -2305843009213693952 ≤ p.f0 ∧ p.f0 ≤ 2305843009213693952) (hx0 : -2305843009213693952 ≤ x) (hx1 : x ≤ 2305843009213693952) (k : Nat) (hk : l.length < k) : post_place.f k l x = some ((lowS x (l.map (·.f0)) : Int), isS x (l.map (·.f0))) := by
  unfold post_place.f api_Post_int.f
  have := place_l0 l e last x hr hm hb hx0 hx1 l.length k 0 l.length rfl (Nat.zero_le _) (by have := lowS_le x (l.map (·.f0)); rwa [List.length_map] at this) (Nat.le_refl _) hk
  rw [show (0 : Int) = ((0 : Nat) : Int) from rfl, this]
  rfl
/-! #### insertion -/
def insS (x : Int) : List Int → List Int
  | [] => [x]
  | y :: t => if x < y then x :: y :: t else if x = y then y :: t else y :: insS x t
def hasI (x : Int) : List Int → Bool
  | [] => false
  | y :: t => if x < y then false else if x = y then true else hasI x t
theorem isS_hasI (x : Int) : ∀ l, isS x l = hasI x l
  | [] => rfl
  | y :: t => by
    simp only [isS, hasI]
    by_cases h : y < x
    · rw [if_pos h, if_neg (by omega), if_neg (by omega), isS_hasI x t]
    · rw [if_neg h]
      by_cases h2 : x < y
      · rw [if_pos h2, decide_eq_false (by omega)]
      · rw [if_neg h2, if_pos (by omega), decide_eq_true (by omega)]
theorem insS_new (x : Int) : ∀ l, isS x l = false → insL l (lowS x l) x = insS x l
  | [], _ => rfl
  | y :: t, h => by
    simp only [isS] at h
    simp only [insL, lowS, insS]
    by_cases h1 : y < x
    · rw [if_pos h1] at h
      rw [if_pos h1, if_neg (by omega), if_neg (by omega), ← insS_new x t h]
      simp [insL]
    · rw [if_neg h1] at h
      have := of_decide_eq_false h
      rw [if_neg h1, if_pos (by omega)]
      simp
def putS (d a : Int) : List S39 → List S39
  | [] => [⟨d, [a]⟩]
  | p :: t => if d < p.f0 then ⟨d, [a]⟩ :: p :: t else if d = p.f0 then ⟨p.f0, insS a p.f1⟩ :: t else p :: putS d a t
def hasS (d a : Int) : List S39 → Bool
  | [] => false
  | p :: t => if d < p.f0 then false else if d = p.f0 then hasI a p.f1 else hasS d a t
theorem putS_new (d a : Int) : ∀ l : List S39, isS d (l.map (·.f0)) = false → l.take (lowS d (l.map (·.f0))) ++ [⟨d, [a]⟩] ++ l.drop (lowS d (l.map (·.f0))) = putS d a l ∧ hasS d a l = false
  | [], _ => ⟨rfl, rfl⟩
  | p :: t, h => by
    simp only [List.map_cons, isS] at h
    simp only [List.map_cons, lowS, putS, hasS]
    by_cases h1 : p.f0 < d
    · rw [if_pos h1] at h
      obtain ⟨k1, k2⟩ := putS_new d a t h
      rw [if_pos h1, if_neg (by omega), if_neg (by omega), if_neg (by omega), if_neg (by omega), ← k1]
      exact ⟨by simp, k2⟩
    · rw [if_neg h1] at h
      have := of_decide_eq_false h
      rw [if_neg h1, if_pos (by omega), if_pos (by omega)]
      exact ⟨by simp, rfl⟩
theorem putS_old (d a : Int) : ∀ l : List S39, isS d (l.map (·.f0)) = true → ∃ h : lowS d (l.map (·.f0)) < l.length, hasS d a l = hasI a (l[lowS d (l.map (·.f0))]).f1 ∧ l.set (lowS d (l.map (·.f0))) ⟨(l[lowS d (l.map (·.f0))]).f0, insS a (l[lowS d (l.map (·.f0))]).f1⟩ = putS d a l
  | [], h => by cases h
  | p :: t, h => by
    simp only [List.map_cons, isS] at h
    simp only [List.map_cons, lowS, putS, hasS]
    by_cases h1 : p.f0 < d
    · rw [if_pos h1] at h
      obtain ⟨k0, k1, k2⟩ := putS_old d a t h
      simp only [h1, if_true, show ¬ d < p.f0 by omega, show ¬ d = p.f0 by omega, if_false]
      exact ⟨by simpa using k0, by simpa using k1, by rw [← k2]; simp⟩
    · rw [if_neg h1] at h
      have := of_decide_eq_true h
      simp only [h1, if_false, show ¬ d < p.f0 by omega, show d = p.f0 by omega, if_true]
      exact ⟨by simp, by simp, by simp⟩
def inR (d a : Int) : Bool := decide (0 ≤ d) && decide (d < 64) && decide (0 ≤ a) && decide (a < 120)
theorem inR_iff {d a : Int} : inR d a = true ↔ 0 ≤ d ∧ d < 64 ∧ 0 ≤ a ∧ a < 120 := by simp [inR, and_assoc]
def putRes (l : List S39) (d a : Int) : List S39 × Int := if mayR l = true ∧ inR d a = true then (if hasS d a l = true then (l, 3) else (putS d a l, 0)) else (l, 1)
theorem putBad_eq (m : Bool) (d a : Int) : putBad m d a = !(m && inR d a) := by
  unfold putBad inR
  cases m
  · rfl
  · rw [if_neg (by decide)]
    by_cases h1 : d < 0
    · rw [if_pos h1, decide_eq_false (by omega : ¬ 0 ≤ d)]; rfl
    · rw [if_neg h1, decide_eq_true (by omega : 0 ≤ d)]
      by_cases h2 : d ≥ 64
      · rw [if_pos h2, decide_eq_false (by omega : ¬ d < 64)]; rfl
      · rw [if_neg h2, decide_eq_true (by omega : d < 64)]
        by_cases h3 : a < 0
        · rw [if_pos h3, decide_eq_false (by omega : ¬ 0 ≤ a)]; rfl
        · rw [if_neg h3, decide_eq_true (by omega : 0 ≤ a)]
          by_cases h4 : a ≥ 120
          · rw [decide_eq_true h4, decide_eq_false (by omega : ¬ a < 120)]; rfl
          · rw [decide_eq_false h4, decide_eq_true (by omega : a < 120)]; rfl
theorem risE_in {e : Int} : ∀ {l : List Int} {last : Int}, risE e last l = true → ∀ x ∈ l, last < x ∧ x < e
  | [], _, _, x, hx => by cases hx
  | n :: t, last, h, x, hx => by
    obtain ⟨h1, h2, h3⟩ := risE_cons.1 h
    rcases List.mem_cons.1 hx with rfl | hx
    · exact ⟨h1, h2⟩
    · have := risE_in h3 x hx
      exact ⟨by omega, this.2⟩
theorem put_f (l : List S39) (d a : Int) (hl : l.length ≤ 1000) (hp : ∀ p ∈ l, p.f1.length ≤ 1000) : post_Put.f l d a = some (putRes l d a) := by
  unfold post_Put.f post_Put.g
  rw [if_pos ⟨hl, hp⟩, may_f l (by omega) (fun p h => by have := hp p h; omega) 100000 (by omega), Option.bind_some, putBad_eq]
  unfold putRes
  by_cases hc : mayR l = true ∧ inR d a = true
  · obtain ⟨hm, hi⟩ := hc
    obtain ⟨h1, h2, h3⟩ := mayR_iff.1 hm
    obtain ⟨i1, i2, i3, i4⟩ := inR_iff.1 hi
    rw [hm, hi, if_neg (by decide), if_pos ⟨rfl, rfl⟩]
    have hb : ∀ p ∈ l, -2305843009213693952 ≤ p.f0 ∧ p.f0 ≤ 2305843009213693952 := fun p hp => by
      have := risE_in h3 p.f0 (List.mem_map.2 ⟨p, hp, rfl⟩)
      omega
    rw [place_f l 64 (-1) d h3 (by omega) hb (by omega) (by omega) 100000 (by omega), Option.bind_some]
    simp only
    cases his : isS d (l.map (·.f0))
    · obtain ⟨k1, k2⟩ := putS_new d a l his
      have hle := lowS_le d (l.map (·.f0))
      rw [List.length_map] at hle
      rw [if_neg (by decide), if_pos (by omega), Int.toNat_natCast, k1, k2, if_neg (by decide)]
    · obtain ⟨k0, k1, k2⟩ := putS_old d a l his
      rw [if_pos rfl, if_pos (by omega), rd39_getD l _ k0]
      have hok := h1 _ (List.getElem_mem k0)
      obtain ⟨o1, o2, o3⟩ := okP_iff.1 hok
      rw [bs_f _ 120 (-1) a o3 (by omega) 100000 (by omega), Option.bind_some]
      simp only
      rw [k1, isS_hasI]
      cases hh : hasI a (l[lowS d (l.map (·.f0))]).f1
      · have hle := lowS_le a (l[lowS d (l.map (·.f0))]).f1
        rw [if_neg (by decide), if_pos (by omega), if_neg (by decide), Int.toNat_natCast, Int.toNat_natCast, insS_new a _ (by rw [isS_hasI]; exact hh), k2]
      · rw [if_pos rfl, if_pos rfl]
  · rw [if_neg hc]
    have : (mayR l && inR d a) = false := by
      rw [Bool.eq_false_iff]
      intro e
      exact hc (by simpa using e)
    rw [this, if_pos (by rfl)]
/-! #### what is put -/
theorem risE_len {e : Int} : ∀ {l : List Int} {last : Int}, last < e → risE e last l = true → (l.length : Int) ≤ e - last - 1
  | [], _, h, _ => by simp; omega
  | n :: t, last, h, hr => by
    obtain ⟨h1, h2, h3⟩ := risE_cons.1 hr
    have := risE_len h2 h3
    simp only [List.length_cons]
    omega
theorem insS_ris {e x : Int} (hx : x < e) : ∀ {l : List Int} {last : Int}, last < x → risE e last l = true → risE e last (insS x l) = true
  | [], last, h, _ => by simp [insS, risE]; omega
  | y :: t, last, h, hr => by
    obtain ⟨h1, h2, h3⟩ := risE_cons.1 hr
    simp only [insS]
    by_cases c1 : x < y
    · rw [if_pos c1]
      exact risE_cons.2 ⟨h, hx, risE_cons.2 ⟨c1, h2, h3⟩⟩
    · rw [if_neg c1]
      by_cases c2 : x = y
      · rw [if_pos c2]; exact hr
      · rw [if_neg c2]
        exact risE_cons.2 ⟨h1, h2, insS_ris hx (by omega) h3⟩
theorem insS_ne (x : Int) : ∀ l, 1 ≤ (insS x l).length
  | [] => Nat.le_refl _
  | y :: t => by
    simp only [insS]
    split
    · simp
    · split <;> simp
theorem putS_docs (d a : Int) : ∀ l : List S39, (putS d a l).map (·.f0) = insS d (l.map (·.f0))
  | [] => rfl
  | p :: t => by
    simp only [putS, List.map_cons, insS]
    split
    · rfl
    · split
      · rfl
      · rw [List.map_cons, putS_docs d a t]
theorem putS_ok {d a : Int} (h0 : 0 ≤ a) (h1 : a < 120) : ∀ {l : List S39}, (∀ p ∈ l, okP p = true) → ∀ p ∈ putS d a l, okP p = true
  | [], _, p, hp => by
    rw [List.mem_singleton.1 hp]
    exact okP_iff.2 ⟨by simp, by simp, by simp [risE]; omega⟩
  | q :: t, h, p, hp => by
    simp only [putS] at hp
    split at hp
    · rcases List.mem_cons.1 hp with rfl | hp
      · exact okP_iff.2 ⟨by simp, by simp, by simp [risE]; omega⟩
      · exact h p hp
    · split at hp
      · rcases List.mem_cons.1 hp with rfl | hp
        · obtain ⟨o1, o2, o3⟩ := okP_iff.1 (h q (List.mem_cons_self ..))
          have hr := insS_ris h1 (by omega) o3
          have := risE_len (by omega) hr
          exact okP_iff.2 ⟨insS_ne a _, by simp only; omega, hr⟩
        · exact h p (List.mem_cons_of_mem _ hp)
      · rcases List.mem_cons.1 hp with rfl | hp
        · exact h _ (List.mem_cons_self ..)
        · exact putS_ok h0 h1 (fun p hp => h p (List.mem_cons_of_mem _ hp)) p hp
theorem putS_may {d a : Int} {l : List S39} (h : mayR l = true) (hi : inR d a = true) : mayR (putS d a l) = true := by
  obtain ⟨h1, h2, h3⟩ := mayR_iff.1 h
  obtain ⟨i1, i2, i3, i4⟩ := inR_iff.1 hi
  have hr := insS_ris i2 (by omega) h3
  have hl := risE_len (by omega) hr
  rw [← putS_docs d a, List.length_map] at hl
  exact mayR_iff.2 ⟨putS_ok i3 i4 h1, by omega, by rw [putS_docs]; exact hr⟩
theorem hasI_ins (x : Int) : ∀ l, hasI x (insS x l) = true
  | [] => by simp [insS, hasI]
  | y :: t => by
    simp only [insS]
    split
    · simp [hasI]
    · split
      · rename_i h1 h2
        simp only [hasI]
        rw [if_neg h1, if_pos h2]
      · rename_i h1 h2
        simp only [hasI]
        rw [if_neg h1, if_neg h2, hasI_ins x t]
theorem hasS_put (d a : Int) : ∀ l, hasS d a (putS d a l) = true
  | [] => by simp [putS, hasS, hasI]
  | p :: t => by
    simp only [putS]
    split
    · simp [hasS, hasI]
    · split
      · rename_i h1 h2
        simp only [hasS]
        rw [if_neg h1, if_pos h2, hasI_ins]
      · rename_i h1 h2
        simp only [hasS]
        rw [if_neg h1, if_neg h2, hasS_put d a t]
theorem hasI_other {x z : Int} (h : x ≠ z) : ∀ l, hasI z (insS x l) = hasI z l
  | [] => by
    simp only [insS, hasI]
    split
    · rfl
    · rw [if_neg (by omega)]
  | y :: t => by
    have ih := hasI_other h t
    simp only [insS]
    by_cases c1 : x < y
    · rw [if_pos c1]
      simp only [hasI]
      by_cases c2 : z < x
      · rw [if_pos c2, if_pos (by omega)]
      · rw [if_neg c2, if_neg (by omega)]
    · rw [if_neg c1]
      by_cases c2 : x = y
      · rw [if_pos c2]
      · rw [if_neg c2]
        simp only [hasI, ih]
theorem hasS_other {d a o t : Int} (h : ¬ (d = o ∧ a = t)) : ∀ l, hasS o t (putS d a l) = hasS o t l
  | [] => by
    simp only [putS, hasS]
    split
    · rfl
    · split
      · rename_i h2 h3
        simp only [hasI]
        split
        · rfl
        · rw [if_neg (fun e => h ⟨h3.symm, e.symm⟩)]
      · rfl
  | p :: l => by
    have ih := hasS_other h l
    simp only [putS]
    by_cases c1 : d < p.f0
    · rw [if_pos c1]
      simp only [hasS]
      by_cases c2 : o < d
      · rw [if_pos c2, if_pos (by omega)]
      · rw [if_neg c2]
        by_cases c3 : o = d
        · rw [if_pos c3, if_pos (by omega)]
          simp only [hasI]
          split
          · rfl
          · rw [if_neg (fun e => h ⟨c3.symm, e.symm⟩)]
        · rw [if_neg c3]
    · rw [if_neg c1]
      by_cases c2 : d = p.f0
      · rw [if_pos c2]
        simp only [hasS]
        by_cases c3 : o < p.f0
        · rw [if_pos c3, if_pos c3]
        · rw [if_neg c3, if_neg c3]
          by_cases c4 : o = p.f0
          · rw [if_pos c4, if_pos c4, hasI_other (fun e => h ⟨by omega, e⟩)]
          · rw [if_neg c4, if_neg c4]
      · rw [if_neg c2]
        simp only [hasS, ih]
theorem insS_comm (x z : Int) : ∀ l, insS z (insS x l) = insS x (insS z l)
  | [] => by
    simp only [insS]
    by_cases c1 : z < x
    · rw [if_pos c1, if_neg (by omega), if_neg (by omega)]
    · rw [if_neg c1]
      by_cases c2 : z = x
      · subst c2; simp
      · rw [if_neg c2, if_pos (by omega)]
  | y :: t => by
    have ih := insS_comm x z t
    simp only [insS]
    by_cases a1 : x < y
    · rw [if_pos a1]
      by_cases b1 : z < y
      · rw [if_pos b1]
        simp only [insS]
        by_cases c1 : z < x
        · rw [if_pos c1, if_neg (by omega), if_neg (by omega), if_pos a1]
        · rw [if_neg c1]
          by_cases c2 : z = x
          · subst c2; simp
          · rw [if_neg c2, if_pos b1, if_pos (by omega)]
      · rw [if_neg b1]
        by_cases b2 : z = y
        · rw [if_pos b2]
          simp only [insS]
          rw [if_neg (by omega), if_neg (by omega), if_neg b1, if_pos b2, if_pos a1]
        · rw [if_neg b2]
          simp only [insS]
          rw [if_neg (by omega), if_neg (by omega), if_neg b1, if_neg b2, if_pos a1]
    · rw [if_neg a1]
      by_cases a2 : x = y
      · rw [if_pos a2]
        by_cases b1 : z < y
        · rw [if_pos b1]
          simp only [insS]
          rw [if_pos b1, if_neg (by omega), if_neg (by omega), if_neg a1, if_pos a2]
        · rw [if_neg b1]
          by_cases b2 : z = y
          · rw [if_pos b2]
            simp only [insS]
            rw [if_neg b1, if_pos b2, if_neg a1, if_pos a2]
          · rw [if_neg b2]
            simp only [insS]
            rw [if_neg b1, if_neg b2, if_neg a1, if_pos a2]
      · rw [if_neg a2]
        by_cases b1 : z < y
        · rw [if_pos b1]
          simp only [insS]
          rw [if_pos b1, if_neg (by omega), if_neg (by omega), if_neg a1, if_neg a2]
        · rw [if_neg b1]
          by_cases b2 : z = y
          · rw [if_pos b2]
            simp only [insS]
            rw [if_neg b1, if_pos b2, if_neg a1, if_neg a2]
          · rw [if_neg b2]
            simp only [insS]
            rw [if_neg b1, if_neg b2, if_neg a1, if_neg a2, ih]
theorem putS_comm (d a o t : Int) : ∀ l, putS o t (putS d a l) = putS d a (putS o t l)
  | [] => by
    have e : insS t [a] = insS a [t] := insS_comm a t []
    simp only [putS]
    by_cases c1 : o < d
    · rw [if_pos c1, if_neg (by omega), if_neg (by omega)]
    · rw [if_neg c1]
      by_cases c2 : o = d
      · subst c2; rw [if_pos rfl, if_neg (by omega), if_pos rfl, e]
      · rw [if_neg c2, if_pos (by omega)]
  | p :: l => by
    have ih := putS_comm d a o t l
    have e := insS_comm a t p.f1
    have e0 : insS t [a] = insS a [t] := insS_comm a t []
    simp only [putS]
    by_cases a1 : d < p.f0
    · rw [if_pos a1]
      by_cases b1 : o < p.f0
      · rw [if_pos b1]
        simp only [putS]
        by_cases c1 : o < d
        · rw [if_pos c1, if_neg (by omega), if_neg (by omega), if_pos a1]
        · rw [if_neg c1]
          by_cases c2 : o = d
          · subst c2; rw [if_pos rfl, if_neg (by omega), if_pos rfl, e0]
          · rw [if_neg c2, if_pos b1, if_pos (by omega)]
      · rw [if_neg b1]
        by_cases b2 : o = p.f0
        · rw [if_pos b2]
          simp only [putS]
          rw [if_neg (by omega), if_neg (by omega), if_neg b1, if_pos b2, if_pos a1]
        · rw [if_neg b2]
          simp only [putS]
          rw [if_neg (by omega), if_neg (by omega), if_neg b1, if_neg b2, if_pos a1]
    · rw [if_neg a1]
      by_cases a2 : d = p.f0
      · rw [if_pos a2]
        by_cases b1 : o < p.f0
        · rw [if_pos b1]
          simp only [putS]
          rw [if_pos b1, if_neg (by omega), if_neg (by omega), if_neg a1, if_pos a2]
        · rw [if_neg b1]
          by_cases b2 : o = p.f0
          · rw [if_pos b2]
            simp only [putS]
            rw [if_neg b1, if_pos b2, if_neg a1, if_pos a2, e]
          · rw [if_neg b2]
            simp only [putS]
            rw [if_neg b1, if_neg b2, if_neg a1, if_pos a2]
      · rw [if_neg a2]
        by_cases b1 : o < p.f0
        · rw [if_pos b1]
          simp only [putS]
          rw [if_pos b1, if_neg (by omega), if_neg (by omega), if_neg a1, if_neg a2]
        · rw [if_neg b1]
          by_cases b2 : o = p.f0
          · rw [if_pos b2]
            simp only [putS]
            rw [if_neg b1, if_pos b2, if_neg a1, if_neg a2]
          · rw [if_neg b2]
            simp only [putS]
            rw [if_neg b1, if_neg b2, if_neg a1, if_neg a2, ih]
/-! #### Find, Same -/
def findR (l : List S39) (d : Int) : Int := if mayR l = true ∧ 0 ≤ d ∧ d < 64 ∧ isS d (l.map (·.f0)) = true then (lowS d (l.map (·.f0)) : Int) else -1
theorem find_f (l : List S39) (d : Int) (hm : l.length ≤ 1000) (hp : ∀ p ∈ l, p.f1.length ≤ 1000) (k : Nat) (hk : 5000 ≤ k) : post_Find.f k l d = some (findR l d) := by
  obtain ⟨k', rfl⟩ : ∃ m, k = m + 1 := ⟨k - 1, by omega⟩
  have skip : ∀ x, post_Find.j0 (k' + 1) l x true = some (-1) := fun x => by simp only [post_Find.j0, if_true]
  unfold post_Find.f findR
  rw [may_f l (by omega) (fun p h => by have := hp p h; omega) _ (by omega), Option.bind_some]
  cases hmay : mayR l
  · rw [if_neg (by decide), skip, if_neg (by simp)]
  · rw [if_pos rfl]
    obtain ⟨h1, h2, h3⟩ := mayR_iff.1 hmay
    by_cases c1 : d < 0
    · rw [if_pos c1, skip, if_neg (by omega)]
    · rw [if_neg c1]
      by_cases c2 : d ≥ 64
      · rw [decide_eq_true c2, skip, if_neg (by omega)]
      · rw [decide_eq_false c2]
        simp only [post_Find.j0]
        have hb : ∀ p ∈ l, -2305843009213693952 ≤ p.f0 ∧ p.f0 ≤ 2305843009213693952 := fun p hp => by
          have := risE_in h3 p.f0 (List.mem_map.2 ⟨p, hp, rfl⟩)
          omega
        rw [if_neg (by decide), place_f l 64 (-1) d h3 (by omega) hb (by omega) (by omega) k' (by omega), Option.bind_some]
        simp only
        cases his : isS d (l.map (·.f0))
        · rw [if_neg (by decide), if_neg (by simp)]
        · rw [if_pos rfl, if_pos ⟨by first | rfl | trivial, by omega, by omega, by first | rfl | trivial⟩]
theorem pequal_l0 (x y : List Int) (he : x.length = y.length) (hm : x.length ≤ 100000000) : ∀ (d k i : Nat), d = x.length - i → i ≤ x.length → d < k → slices_Equal_int_int.l0 k x y (x.length : Int) (i : Int) = some (x.drop i == y.drop i)
  | 0, k, i, hd, hi, hk => by
    obtain ⟨k, rfl⟩ : ∃ m, k = m + 1 := ⟨k - 1, by omega⟩
    simp only [slices_Equal_int_int.l0]
    rw [if_neg (by omega), List.drop_eq_nil_of_le (by omega), List.drop_eq_nil_of_le (by omega)]
    rfl
  | d + 1, k, i, hd, hi, hk => by
    obtain ⟨k, rfl⟩ : ∃ m, k = m + 1 := ⟨k - 1, by omega⟩
    simp only [slices_Equal_int_int.l0]
    rw [if_pos (by omega), if_pos (by omega), if_pos (by omega), if_pos (by omega), rd_at x i (by omega), rd_at y i (by omega), w64n (x := (i : Int) + 1) (i + 1) (by omega) (by omega), pequal_l0 x y he hm d k (i + 1) (by omega) (by omega) (by omega)]
    by_cases h : rd x (i : Int) = rd y (i : Int)
    · rw [if_pos h, h]
      simp
    · rw [if_neg h]
      simp [h]
theorem pequal_f (x y : List Int) (hm : x.length ≤ 100000000) (k : Nat) (hk : x.length < k) : slices_Equal_int_int.f k x y = some (x == y) := by
  unfold slices_Equal_int_int.f
  by_cases h : (x.length : Int) = (y.length : Int)
  · rw [if_pos h, show (0 : Int) = ((0 : Nat) : Int) from rfl, pequal_l0 x y (by omega) hm x.length k 0 (by omega) (by omega) hk, List.drop_zero, List.drop_zero]
  · rw [if_neg h]
    have : x ≠ y := fun e => h (by rw [e])
    simp [this]
theorem psame_l0 (x y : List S39) (he : x.length = y.length) (hm : x.length ≤ 100000000) (hx : ∀ p ∈ x, p.f1.length ≤ 100000000) : ∀ (d k i : Nat), d = x.length - i → i ≤ x.length → d + 100000001 < k → api_Post.l0 k y x (x.length : Int) (i : Int) = some (eqPs (x.drop i) (y.drop i))
  | 0, k, i, hd, hi, hk => by
    obtain ⟨k, rfl⟩ : ∃ m, k = m + 1 := ⟨k - 1, by omega⟩
    simp only [api_Post.l0]
    rw [if_neg (by omega), List.drop_eq_nil_of_le (by omega), List.drop_eq_nil_of_le (by omega)]
    rfl
  | d + 1, k, i, hd, hi, hk => by
    obtain ⟨k, rfl⟩ : ∃ m, k = m + 1 := ⟨k - 1, by omega⟩
    simp only [api_Post.l0]
    have hl : i < x.length := by omega
    have hmem : rd_T39 x i ∈ x := List.mem_of_mem_drop (rd39_at x i hl ▸ List.mem_cons_self ..)
    have := hx _ hmem
    rw [if_pos (by omega), if_pos (by omega), if_pos (by omega), if_pos (by omega), rd39_at x i hl, rd39_at y i (by omega)]
    unfold post_Same_1.f
    rw [pequal_f _ _ (by omega) k (by omega), w64n (x := (i : Int) + 1) (i + 1) (by omega) (by omega), psame_l0 x y he hm hx d k (i + 1) (by omega) (by omega) (by omega)]
    simp only [eqPs, eqP]
    by_cases h : (rd_T39 x (i : Int)).f0 = (rd_T39 y (i : Int)).f0
    · rw [if_pos h, decide_eq_true h]
      cases (rd_T39 x (i : Int)).f1 == (rd_T39 y (i : Int)).f1 <;> rfl
    · rw [if_neg h, decide_eq_false h]
      cases (rd_T39 x (i : Int)).f1 == (rd_T39 y (i : Int)).f1 <;> rfl
theorem psame_f (x y : List S39) (hm : x.length ≤ 100000000) (hx : ∀ p ∈ x, p.f1.length ≤ 100000000) (k : Nat) (hk : 300000000 < k) : post_Same.f k x y = some (eqPs x y) := by
  unfold post_Same.f api_Post.f
  by_cases h : (x.length : Int) = (y.length : Int)
  · rw [if_pos h, show (0 : Int) = ((0 : Nat) : Int) from rfl, psame_l0 x y (by omega) hm hx x.length k 0 (by omega) (by omega) (by omega), List.drop_zero, List.drop_zero]
    rfl
  · rw [if_neg h, eqPs_ne x y (fun e => h (by rw [e]))]
    rfl
end Go.Proofs.Ytepmcdcncjimeaa.VPostTells
