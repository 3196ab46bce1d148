/- What the program's May, Find and Below tell, for the functions printed for one law. -/
import Derived.Test.YtamofikjjkpejaaVGetDictUnion
import Derived.Test.YtamofikjjkpejaaDSpec
import Derived.Test.YtamofikjjkpejaaVList
namespace Go.Proofs.Ytamofikjjkpejaa.VDictUnion
open Go Go.RowKit Go.Proofs.Ytamofikjjkpejaa.PDictUnion Go.Proofs.YtamofikjjkpejaaW.PrintWords Go.Proofs.YtamofikjjkpejaaW.PrintLast Go.Proofs.YtamofikjjkpejaaW.PrintMore Go.Proofs.Ytamofikjjkpejaa.VSpec Go.Proofs.Ytamofikjjkpejaa.DSpec

theorem dict_awake : catchwordlaw07_awake.f 200 = some true := by decide +kernel
theorem dict_awake' (k : Nat) (h : 200 ≤ k) : catchwordlaw07_awake.f k = some true := at_rounds (fun k => catchwordlaw07_awake.mono k) h dict_awake

def fewR (l : List ByteArray) : Bool := decide (l.length ≤ 210) && l.all (fun x => decide (x.size ≤ 40))
theorem fewR_iff (l : List ByteArray) : fewR l = true ↔ l.length ≤ 210 ∧ ∀ x ∈ l, x.size ≤ 40 := by
  simp [fewR]
theorem rd_mem (l : List ByteArray) (i : Nat) (h : i < l.length) : rdOf ByteArray.empty l (i : Int) = l[i] := by
  simp [rdOf, List.getD_eq_getElem?_getD, List.getElem?_eq_getElem h]
theorem few_l0 (l : List ByteArray) (hm : l.length ≤ 300) : ∀ (d k i : Nat), i + d = l.length → d < k → catchwordlaw07_Few.l0 k l i = some ((l.drop i).all (fun x => decide (x.size ≤ 40)))
  | 0, k, i, hd, hk => by
    obtain ⟨k, rfl⟩ : ∃ m, k = m + 1 := ⟨k - 1, by omega⟩
    simp only [catchwordlaw07_Few.l0]
    rw [if_neg (by omega), List.drop_eq_nil_of_le (by omega)]
    rfl
  | d + 1, k, i, hd, hk => by
    obtain ⟨k, rfl⟩ : ∃ m, k = m + 1 := ⟨k - 1, by omega⟩
    simp only [catchwordlaw07_Few.l0]
    rw [if_pos (by omega), if_pos (by omega), rd_mem l i (by omega), w64n (x := (i : Int) + 1) (i + 1) (by omega) (by omega), few_l0 l hm d k (i + 1) (by omega) (by omega), List.drop_eq_getElem_cons (by omega : i < l.length), List.all_cons]
    by_cases h : l[i].size ≤ 40
    · rw [if_neg (by omega), decide_eq_true h, Bool.true_and]
    · rw [if_pos (by omega), decide_eq_false h, Bool.false_and]
theorem few_f (l : List ByteArray) (k : Nat) (hk : 300 ≤ k) : catchwordlaw07_Few.f k l = some (fewR l) := by
  unfold catchwordlaw07_Few.f fewR
  by_cases h : l.length ≤ 210
  · rw [if_neg (by omega), decide_eq_true h, Bool.true_and]
    have := few_l0 l (by omega) l.length k 0 (by omega) (by omega)
    rwa [List.drop_zero] at this
  · rw [if_pos (by omega), decide_eq_false h, Bool.false_and]

theorem dmay_l0 (l : List ByteArray) (hm : l.length ≤ 140737488351232) : ∀ (d k i : Nat), i + d = l.length → d < k → dict_May.l0 k l l l.length i = some (chk (prevOf l i) ((ws l).drop i) && decide (l.length ≤ 200))
  | 0, k, i, hd, hk => by
    obtain ⟨k, rfl⟩ : ∃ m, k = m + 1 := ⟨k - 1, by omega⟩
    simp only [dict_May.l0]
    rw [if_neg (by omega), List.drop_eq_nil_of_le (by rw [ws_len]; omega)]
    simp [chk]; omega
  | d + 1, k, i, hd, hk => by
    obtain ⟨k, rfl⟩ : ∃ m, k = m + 1 := ⟨k - 1, by omega⟩
    simp only [dict_May.l0]
    have ih := dmay_l0 l hm d k (i + 1) (by omega) (by omega)
    rw [show prevOf l (i + 1) = some (wd l i) from by simp [prevOf]] at ih
    rw [if_pos (by omega), if_pos (by omega), if_pos (by omega), wd_size, ws_drop l i (by omega), w64n (x := (i : Int) + 1) (i + 1) (by omega) (by omega), ih]
    simp only [chk]
    by_cases h1 : (wd l i).length < 1
    · rw [if_pos (by omega), decide_eq_false (by omega)]; simp
    · rw [if_neg (by omega), decide_eq_true (by omega : 1 ≤ (wd l i).length)]
      by_cases h2 : (wd l i).length ≤ 32
      · rw [if_neg (by omega), decide_eq_true h2]
        by_cases h3 : i = 0
        · rw [if_neg (by omega)]
          simp [prevOf, h3]
        · rw [if_pos (by omega), w64n (x := (i : Int) - 1) (i - 1) (by omega) (by omega), if_pos (by omega), if_pos (by omega), less_eq]
          rw [show prevOf l i = some (wd l (i - 1)) from by simp [prevOf, h3]]
          simp only [Bool.true_and]
          change (if lt (wd l (i - 1)) (wd l i) = true then _ else _) = _
          cases lt (wd l (i - 1)) (wd l i) <;> simp
      · rw [if_pos (by omega), decide_eq_false h2]; simp
theorem dmay_f (l : List ByteArray) (hm : l.length ≤ 140737488351232) (k : Nat) (hk : l.length < k) : dict_May.f k l = some (mayR (ws l)) := by
  unfold dict_May.f mayR
  have := dmay_l0 l hm l.length k 0 (by omega) hk
  rw [ws_len]
  simpa [prevOf] using this

theorem less_f (a b : ByteArray) : cmp_Less_string.f a b = some (lt (bytesOf a) (bytesOf b)) := by
  unfold cmp_Less_string.f cmp_isNaN_string.f
  simp [less_eq]
theorem nan_f (a : ByteArray) : slices_isNaN_string.f a = some false := by
  unfold slices_isNaN_string.f
  simp
theorem mid (i j : Nat) (hi : i ≤ 1000000) (hj : j ≤ 1000000) : wrap64 ((IntKind.u64.wrap (wrap64 ((i : Int) + (j : Int)))) / 2) = (((i + j) / 2 : Nat) : Int) := by
  rw [w64n (x := (i : Int) + (j : Int)) (i + j) (by omega) (by omega), IntKind.wrap_u64]
  exact w64n _ (by omega) (by omega)
/-- A search by halves. -/
theorem search_l0 (l : List ByteArray) (t : ByteArray) (hm : l.length ≤ 300) : ∀ (d k i j : Nat), j ≤ i + d → i ≤ j → j ≤ l.length → d < k →
    ∃ r : Nat, slices_BinarySearch_string_string.l0 k l t l.length i j = some ((r : Int), decide (r < l.length) && decide (wd l r = bytesOf t)) ∧ i ≤ r ∧ r ≤ j ∧
      ((ws l).Pairwise (fun a b => lt a b = true) → (∀ q, q < i → lt (wd l q) (bytesOf t) = true) → (∀ q, j ≤ q → q < l.length → lt (wd l q) (bytesOf t) = false) →
        (∀ q, q < r → lt (wd l q) (bytesOf t) = true) ∧ (∀ q, r ≤ q → q < l.length → lt (wd l q) (bytesOf t) = false)) := by
  intro d
  induction d with
  | zero =>
    intro k i j h1 h2 h3 hk
    obtain ⟨k, rfl⟩ : ∃ m, k = m + 1 := ⟨k - 1, by omega⟩
    obtain rfl : j = i := by omega
    refine ⟨j, ?_, Nat.le_refl _, Nat.le_refl _, fun _ ha hb => ⟨ha, hb⟩⟩
    simp only [slices_BinarySearch_string_string.l0]
    rw [if_neg (by omega)]
    by_cases h4 : j < l.length
    · rw [if_pos (by omega), if_pos (by omega), if_pos (by omega), decide_eq_true h4, Bool.true_and]
      by_cases h5 : wd l j = bytesOf t
      · rw [if_pos ((same_iff _ _).2 h5), decide_eq_true h5]
      · rw [if_neg (fun h => h5 ((same_iff _ _).1 h)), nan_f, decide_eq_false h5]
        rfl
    · rw [if_neg (by omega), decide_eq_false h4]
      rfl
  | succ d ih =>
    intro k i j h1 h2 h3 hk
    by_cases h0 : i < j
    · obtain ⟨k, rfl⟩ : ∃ m, k = m + 1 := ⟨k - 1, by omega⟩
      have hmid := Aside0.mk (mid i j (by omega) (by omega))
      have hw := Aside0.mk (w64n (x := (((i + j) / 2 : Nat) : Int) + 1) ((i + j) / 2 + 1) (by omega) (by omega))
      simp only [slices_BinarySearch_string_string.l0]
      rw [if_pos (by omega), hmid.out, if_pos (by omega), if_pos (by omega), less_f, Option.bind_some, hw.out]
      change ∃ r : Nat, (if lt (wd l ((i + j) / 2)) (bytesOf t) = true then _ else _) = _ ∧ _
      have mono : (ws l).Pairwise (fun a b => lt a b = true) → ∀ p q, p < q → q < l.length → lt (wd l q) (bytesOf t) = true → lt (wd l p) (bytesOf t) = true := by
        intro hs p q hpq hq h
        have := (List.pairwise_iff_getElem.1 hs) p q (by rw [ws_len]; omega) (by rw [ws_len]; omega) hpq
        rw [wd_get l p (by omega), wd_get l q hq] at this
        exact lt_trans _ _ _ this h
      cases hl : lt (wd l ((i + j) / 2)) (bytesOf t) with
      | true =>
        obtain ⟨r, e, a1, a2, a3⟩ := ih k ((i + j) / 2 + 1) j (by omega) (by omega) h3 (by omega)
        refine ⟨r, by rw [if_pos rfl]; exact e, by omega, a2, fun hs ha hb => a3 hs (fun q hq => ?_) hb⟩
        rcases Nat.lt_or_ge q ((i + j) / 2) with h | h
        · exact mono hs q _ h (by omega) hl
        · obtain rfl : q = (i + j) / 2 := by omega
          exact hl
      | false =>
        obtain ⟨r, e, a1, a2, a3⟩ := ih k i ((i + j) / 2) (by omega) (by omega) (by omega) (by omega)
        refine ⟨r, by rw [if_neg (by decide)]; exact e, a1, by omega, fun hs ha hb => a3 hs ha (fun q hq hq2 => ?_)⟩
        cases hqt : lt (wd l q) (bytesOf t) with
        | false => rfl
        | true =>
          rcases Nat.lt_or_ge ((i + j) / 2) q with h | h
          · rw [← hl, mono hs _ q h hq2 hqt]
          · obtain rfl : q = (i + j) / 2 := by omega
            rw [← hl, hqt]
    · obtain rfl : i = j := by omega
      exact ih k i i (by omega) (by omega) h3 (by omega)
theorem search_f (l : List ByteArray) (t : ByteArray) (hm : l.length ≤ 300) (k : Nat) (hk : l.length < k) :
    ∃ r : Nat, slices_BinarySearch_string_string.f k l t = some ((r : Int), decide (r < l.length) && decide (wd l r = bytesOf t)) ∧ r ≤ l.length ∧ ((ws l).Pairwise (fun a b => lt a b = true) → r = cnt (ws l) (bytesOf t)) := by
  obtain ⟨r, e, _, h2, h3⟩ := search_l0 l t hm l.length k 0 l.length (by omega) (by omega) (Nat.le_refl _) hk
  refine ⟨r, ?_, h2, fun hs => ?_⟩
  · unfold slices_BinarySearch_string_string.f
    exact e
  · obtain ⟨a, b⟩ := h3 hs (fun q h => by omega) (fun q h h' => by omega)
    have hc := cnt_le (ws l) (bytesOf t)
    rw [ws_len] at hc
    rcases Nat.lt_trichotomy r (cnt (ws l) (bytesOf t)) with h | h | h
    · have e1 := cnt_split (ws l) (bytesOf t) hs r (by rw [ws_len]; omega)
      rw [wd_get l r (by omega), b r (Nat.le_refl _) (by omega), decide_eq_true h] at e1
      cases e1
    · exact h
    · have e1 := cnt_split (ws l) (bytesOf t) hs (cnt (ws l) (bytesOf t)) (by rw [ws_len]; omega)
      rw [wd_get l _ (by omega), a _ h, decide_eq_false (by omega)] at e1
      cases e1
theorem may_sorted {l : List ByteArray} (h : mayR (ws l) = true) : (ws l).Pairwise (fun a b => lt a b = true) ∧ l.length ≤ 200 := by
  unfold mayR at h
  rw [Bool.and_eq_true, decide_eq_true_eq, ws_len] at h
  exact ⟨chk_sorted _ _ h.1, h.2⟩
theorem found_iff {l : List ByteArray} {t : List Int} (hs : (ws l).Pairwise (fun a b => lt a b = true)) : (cnt (ws l) t < l.length ∧ wd l (cnt (ws l) t) = t) ↔ t ∈ ws l := by
  constructor
  · rintro ⟨h, e⟩
    rw [← e, ← wd_get l _ h]
    exact List.getElem_mem _
  · intro h
    obtain ⟨i, hi, e⟩ := List.getElem_of_mem h
    have hc := cnt_at (ws l) t hs i hi e
    rw [hc]
    rw [ws_len] at hi
    exact ⟨hi, by rw [← wd_get l i hi]; exact e⟩
theorem find_f (l : List ByteArray) (t : ByteArray) (hm : l.length ≤ 300) (k : Nat) (hk : l.length < k) : dict_Find.f k l t = some (findR (ws l) (bytesOf t)) := by
  obtain ⟨r, e, h1, h2⟩ := search_f l t hm k hk
  unfold dict_Find.f findR
  rw [e, Option.bind_some, dmay_f l (by omega) k hk]
  simp only [Option.bind_some]
  cases hm : mayR (ws l) with
  | false => rfl
  | true =>
    obtain ⟨hs, _⟩ := may_sorted hm
    have hr := h2 hs
    subst hr
    rw [if_pos rfl, if_pos rfl]
    by_cases hf : bytesOf t ∈ ws l
    · obtain ⟨a, b⟩ := (found_iff hs).2 hf
      rw [decide_eq_true a, decide_eq_true b, if_pos hf]
      rfl
    · rw [if_neg hf, if_neg]
      intro h
      rw [Bool.and_eq_true, decide_eq_true_eq, decide_eq_true_eq] at h
      exact hf ((found_iff hs).1 h)
theorem below_f (l : List ByteArray) (t : ByteArray) (hm : l.length ≤ 300) (k : Nat) (hk : l.length < k) : dict_Below.f k l t = some (belowR (ws l) (bytesOf t)) := by
  obtain ⟨r, e, h1, h2⟩ := search_f l t hm k hk
  unfold dict_Below.f belowR
  rw [dmay_f l (by omega) k hk]
  simp only [Option.bind_some]
  cases hm : mayR (ws l) with
  | false => rfl
  | true =>
    obtain ⟨hs, _⟩ := may_sorted hm
    have hr := h2 hs
    subst hr
    rw [if_pos rfl, if_pos rfl, e]
    rfl
end Go.Proofs.Ytamofikjjkpejaa.VDictUnion
