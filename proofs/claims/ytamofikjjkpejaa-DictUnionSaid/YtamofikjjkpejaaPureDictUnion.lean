/- A word is one of all lists' just if it is one of some list's; neither their order, nor how often they are there, matters: DictUnion answers true for every input. -/
import Derived.Test.YtamofikjjkpejaaDOrDDictUnion
namespace Go.Proofs.Ytamofikjjkpejaa.Pure
open Go Go.RowKit Go.Proofs.Ytamofikjjkpejaa.PDictUnion Go.Proofs.YtamofikjjkpejaaW.PrintWords Go.Proofs.YtamofikjjkpejaaW.PrintLast Go.Proofs.Ytamofikjjkpejaa.VSpec Go.Proofs.Ytamofikjjkpejaa.DSpec Go.Proofs.Ytamofikjjkpejaa.VDictUnion

theorem texts_l0 (x y : List ByteArray) (he : x.length = y.length) (hm : x.length ≤ 140737488355328) : ∀ (d k i : Nat), d = x.length - i → i ≤ x.length → d < k → catchwordref05_Texts.l0 k x y i = some ((ws x).drop i == (ws y).drop i)
  | 0, k, i, hd, hi, hk => by
    obtain ⟨k, rfl⟩ : ∃ m, k = m + 1 := ⟨k - 1, by omega⟩
    simp only [catchwordref05_Texts.l0]
    rw [if_neg (by omega), List.drop_eq_nil_of_le (by rw [ws_len]; omega), List.drop_eq_nil_of_le (by rw [ws_len]; omega)]
    rfl
  | d + 1, k, i, hd, hi, hk => by
    obtain ⟨k, rfl⟩ : ∃ m, k = m + 1 := ⟨k - 1, by omega⟩
    simp only [catchwordref05_Texts.l0]
    rw [if_pos (by omega), if_pos (by omega), if_pos (by omega), w64n (x := (i : Int) + 1) (i + 1) (by omega) (by omega), texts_l0 x y he hm d k (i + 1) (by omega) (by omega) (by omega), ws_drop x i (by omega), ws_drop y i (by omega), List.cons_beq_cons]
    by_cases h : wd x i = wd y i
    · rw [if_pos ((same_iff _ _).2 h), h]; simp
    · rw [if_neg (fun h' => h ((same_iff _ _).1 h'))]; simp [h]
theorem texts_f (x y : List ByteArray) (hm : x.length ≤ 140737488355328) (k : Nat) (hk : x.length < k) : catchwordref05_Texts.f k x y = some (ws x == ws y) := by
  unfold catchwordref05_Texts.f
  by_cases he : x.length = y.length
  · rw [if_pos (by omega)]
    have := texts_l0 x y he hm x.length k 0 (by omega) (by omega) hk
    simpa using this
  · rw [if_neg (by omega)]
    congr 1
    symm
    rw [beq_eq_false_iff_ne]
    intro h
    exact he (by rw [← ws_len, h, ws_len])
theorem addR_len : ∀ (L : List (List Int)) (t : List Int), (addR L t).length ≤ L.length + 1
  | [], t => by simp [addR]
  | a :: r, t => by
    have := addR_len r t
    simp only [addR]
    split
    · simp only [List.length_cons]; omega
    · split
      · simp
      · simp
theorem addAll_len : ∀ (L U : List (List Int)), (addAll U L).length ≤ U.length + L.length
  | [], U => by simp [addAll]
  | t :: L, U => by
    have h1 := addR_len U t
    have h2 := addAll_len L (addR U t)
    show (addAll (addR U t) L).length ≤ _
    simp only [List.length_cons]
    omega
theorem uni_one {L : List (List Int)} (h : Asc L) : uni [L] [] = L :=
  asc_eq _ _ (uni_asc _ _ List.Pairwise.nil) h (fun x => by rw [uni_mem]; simp)
theorem uni_turn (L M : List (List Int)) : uni [M, L, M] [] = uni [L, M] [] :=
  asc_eq _ _ (uni_asc _ _ List.Pairwise.nil) (uni_asc _ _ List.Pairwise.nil) (fun x => by
    rw [uni_mem, uni_mem]
    simp only [List.not_mem_nil, false_or, List.mem_cons, exists_eq_or_imp, exists_eq_left, or_false]
    constructor
    · rintro (h | h | h)
      · exact .inr h
      · exact .inl h
      · exact .inr h
    · rintro (h | h)
      · exact .inr (.inl h)
      · exact .inl h)
theorem find_pos {L : List (List Int)} (h : mayR L = true) (t : List Int) : decide (findR L t ≥ 0) = decide (t ∈ L) := by
  unfold findR
  rw [if_pos h]
  by_cases ht : t ∈ L
  · rw [if_pos ht, decide_eq_true ht]
    exact decide_eq_true (by omega)
  · rw [if_neg ht, decide_eq_false ht]
    rfl
theorem DictUnion_j0 (l m : List ByteArray) (t : ByteArray) (hl : l.length ≤ 210) (hm : m.length ≤ 210) (h2 : l.length + m.length ≤ 200) (ml : mayR (ws l) = true) (mm : mayR (ws m) = true) (k : Nat) (hk : 10000 ≤ k) :
    catchwordlaw07_DictUnion.j0 (k + 1) l m t true false = some true := by
  obtain ⟨al, _⟩ := may_sorted ml
  obtain ⟨am, _⟩ := may_sorted mm
  obtain ⟨a, e1, w1⟩ := or_f [l, m] (by simp) (by intro x hx; simp at hx; rcases hx with rfl | rfl <;> assumption) k (by omega)
  obtain ⟨b, e2, w2⟩ := or_f [m, l, m] (by simp) (by intro x hx; simp at hx; rcases hx with rfl | rfl | rfl <;> assumption) k (by omega)
  obtain ⟨c, e3, w3⟩ := or_f [l] (by simp) (by intro x hx; simp at hx; subst hx; exact hl) k (by omega)
  obtain ⟨z, e4, w4⟩ := or_f [] (by simp) (by intro x hx; cases hx) k (by omega)
  have hU : (uni [ws l, ws m] []).length ≤ 200 := by
    have q1 := addAll_len (ws l) []
    have q2 := addAll_len (ws m) (addAll [] (ws l))
    rw [ws_len] at q1 q2
    show (addAll (addAll [] (ws l)) (ws m)).length ≤ 200
    simp only [List.length_nil] at q1
    omega
  have o1 : orR [ws l, ws m] = uni [ws l, ws m] [] := by
    unfold orR
    rw [if_pos (by simp [ml, mm]), if_neg (by omega)]
  have o2 : orR [ws m, ws l, ws m] = uni [ws l, ws m] [] := by
    unfold orR
    rw [if_pos (by simp [ml, mm]), uni_turn, if_neg (by omega)]
  have o3 : orR [ws l] = ws l := by
    unfold orR
    rw [if_pos (by simp [ml]), uni_one al, if_neg (by rw [ws_len]; omega)]
  have o4 : orR [] = [] := rfl
  simp only [List.map_cons, List.map_nil] at w1 w2 w3 w4
  rw [o1] at w1
  rw [o2] at w2
  rw [o3] at w3
  rw [o4] at w4
  have hal : a.length ≤ 200 := by rw [← ws_len, w1]; exact hU
  have hbl : b.length ≤ 200 := by rw [← ws_len, w2]; exact hU
  have hcl : c.length ≤ 200 := by rw [← ws_len, w3, ws_len]; omega
  have hz : z = [] := ws_inj w4
  subst hz
  have hmem : ∀ x, x ∈ ws a ↔ x ∈ ws l ∨ x ∈ ws m := fun x => by
    rw [w1, uni_mem]
    simp
  have hmay : mayR (ws a) = true := by
    unfold mayR
    rw [Bool.and_eq_true, decide_eq_true_eq, ws_len]
    refine ⟨chk_of _ (fun x hx => ?_) (by rw [w1]; exact uni_asc _ _ List.Pairwise.nil) none (fun q h => by cases h), hal⟩
    unfold mayR at ml mm
    rw [Bool.and_eq_true] at ml mm
    rcases (hmem x).1 hx with h | h
    · exact chk_mem _ _ ml.1 x h
    · exact chk_mem _ _ mm.1 x h
  simp only [catchwordlaw07_DictUnion.j0]
  rw [if_neg (by decide), e1, Option.bind_some, e2, Option.bind_some, texts_f b a (by omega) k (by omega), Option.bind_some, e3, Option.bind_some, texts_f c l (by omega) k (by omega), Option.bind_some, find_f a t (by omega) k (by omega), Option.bind_some, w2, w1, w3, beq_self_eq_true, beq_self_eq_true, ← w1,
    if_pos rfl, if_pos rfl, dmay_f a (by omega) k (by omega), hmay, Option.bind_some, if_pos rfl, find_f l t (by omega) k (by omega), Option.bind_some, find_pos hmay, e4]
  have hin := hmem (bytesOf t)
  have hfl := find_pos ml (bytesOf t)
  by_cases h1 : findR (ws l) (bytesOf t) ≥ 0
  · rw [if_pos h1]
    rw [decide_eq_true h1] at hfl
    have hx : bytesOf t ∈ ws l := of_decide_eq_true hfl.symm
    rw [decide_eq_true (hin.2 (.inl hx))]
    rfl
  · rw [if_neg h1, find_f m t (by omega) k (by omega), Option.bind_some, find_pos mm]
    rw [decide_eq_false h1] at hfl
    have hx : ¬ bytesOf t ∈ ws l := of_decide_eq_false hfl.symm
    have : decide (bytesOf t ∈ ws a) = decide (bytesOf t ∈ ws m) := by
      rw [decide_eq_decide, hin]
      exact ⟨fun h => h.resolve_left hx, .inr⟩
    rw [this, beq_self_eq_true]
    rfl
theorem DictUnion : catchwordlaw07_DictUnion.Pure := by
  intro l m t _ _ _
  obtain ⟨k, hk⟩ : ∃ k : Nat, 20000 ≤ k := ⟨20000, Nat.le_refl _⟩
  refine ⟨k + 1, ?_⟩
  unfold catchwordlaw07_DictUnion.f
  have skip : catchwordlaw07_DictUnion.j0 (k + 1) l m t true true = some true := by simp only [catchwordlaw07_DictUnion.j0, if_true]
  rw [dict_awake' (k + 1) (by omega), few_f l (k + 1) (by omega), few_f m (k + 1) (by omega)]
  simp only [Option.bind_some, if_true, skip]
  cases hf : fewR l with
  | false => rfl
  | true =>
    cases hg : fewR m with
    | false => rfl
    | true =>
      obtain ⟨h1, _⟩ := (fewR_iff l).1 hf
      obtain ⟨h2, _⟩ := (fewR_iff m).1 hg
      rw [if_pos rfl, if_pos rfl, w64n (x := (l.length : Int) + (m.length : Int)) (l.length + m.length) (by omega) (by omega)]
      by_cases h3 : ((l.length + m.length : Nat) : Int) > 200
      · rw [if_pos h3]
      · rw [if_neg h3, dmay_f l (by omega) (k + 1) (by omega), Option.bind_some]
        cases ml : mayR (ws l) with
        | false => rfl
        | true =>
          rw [if_pos rfl, dmay_f m (by omega) (k + 1) (by omega), Option.bind_some]
          cases mm : mayR (ws m) with
          | false => rw [Bool.not_false, skip]
          | true =>
            rw [Bool.not_true]
            exact DictUnion_j0 l m t h1 h2 (by omega) ml mm k (by omega)
end Go.Proofs.Ytamofikjjkpejaa.Pure
