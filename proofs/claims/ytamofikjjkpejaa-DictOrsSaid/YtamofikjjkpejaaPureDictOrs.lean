/- Of any lists the words of all are what the document says: DictOrs answers true for every input. -/
import Derived.Test.YtamofikjjkpejaaDOrFDictOrs
namespace Go.Proofs.Ytamofikjjkpejaa.Pure
open Go Go.RowKit Go.Proofs.Ytamofikjjkpejaa.PDictOrs Go.Proofs.YtamofikjjkpejaaW.PrintWords Go.Proofs.YtamofikjjkpejaaW.PrintLast Go.Proofs.Ytamofikjjkpejaa.VSpec Go.Proofs.Ytamofikjjkpejaa.DSpec Go.Proofs.Ytamofikjjkpejaa.VDictOrs

theorem texts_l0 (x y : List ByteArray) (he : x.length = y.length) (hm : x.length ≤ 140737488355328) : ∀ (d k i : Nat), d = x.length - i → i ≤ x.length → d < k → catchwordref05_Texts.l0 k x y i = some ((ws x).drop i == (ws y).drop i)
  | 0, k, i, hd, hi, hk => by
    obtain ⟨k, rfl⟩ : ∃ m, k = m + 1 := ⟨k - 1, by omega⟩
    simp only [catchwordref05_Texts.l0]
    rw [if_neg (by omega), List.drop_eq_nil_of_le (by rw [ws_len]; omega), List.drop_eq_nil_of_le (by rw [ws_len]; omega)]
    rfl
  | d + 1, k, i, hd, hi, hk => by
    obtain ⟨k, rfl⟩ : ∃ m, k = m + 1 := ⟨k - 1, by omega⟩
    simp only [catchwordref05_Texts.l0]
    rw [if_pos (by omega), if_pos (by omega), if_pos (by omega), w64n (x := (i : Int) + 1) (i + 1) (by omega) (by omega), texts_l0 x y he hm d k (i + 1) (by omega) (by omega) (by omega), ws_drop x i (by omega), ws_drop y i (by omega), List.cons_beq_cons]
    by_cases h : wd x i = wd y i
    · rw [if_pos ((same_iff _ _).2 h), h]; simp
    · rw [if_neg (fun h' => h ((same_iff _ _).1 h'))]; simp [h]
theorem texts_f (x y : List ByteArray) (hm : x.length ≤ 140737488355328) (k : Nat) (hk : x.length < k) : catchwordref05_Texts.f k x y = some (ws x == ws y) := by
  unfold catchwordref05_Texts.f
  by_cases he : x.length = y.length
  · rw [if_pos (by omega)]
    have := texts_l0 x y he hm x.length k 0 (by omega) (by omega) hk
    simpa using this
  · rw [if_neg (by omega)]
    congr 1
    symm
    rw [beq_eq_false_iff_ne]
    intro h
    exact he (by rw [← ws_len, h, ws_len])
theorem orR_len (LL : List (List (List Int))) : (orR LL).length ≤ 200 := by
  unfold orR
  split
  · split
    · simp
    · omega
  · simp
theorem DictOrs_l0 (l : List (List ByteArray)) (hn : l.length ≤ 4) : ∀ (d k i : Nat), i + d = l.length → 30000 + d < k → (∀ m ∈ l.take i, m.length ≤ 210 ∧ ∀ x ∈ m, x.size ≤ 40) → catchwordlaw07_DictOrs.l0 k l i = some true
  | 0, k, i, hd, hk, hi => by
    obtain ⟨k, rfl⟩ : ∃ m, k = m + 1 := ⟨k - 1, by omega⟩
    rw [List.take_of_length_le (by omega)] at hi
    obtain ⟨m, e1, e2⟩ := or_f l hn (fun m hm => (hi m hm).1) k (by omega)
    obtain ⟨m', f1, f2⟩ := ror_f l hn hi k (by omega)
    have hl := orR_len (l.map ws)
    rw [← e2, ws_len] at hl
    simp only [catchwordlaw07_DictOrs.l0]
    rw [if_neg (by omega), e1, Option.bind_some, f1, Option.bind_some, texts_f m m' (by omega) k (by omega), e2, f2, beq_self_eq_true]
    rfl
  | d + 1, k, i, hd, hk, hi => by
    obtain ⟨k, rfl⟩ : ∃ m, k = m + 1 := ⟨k - 1, by omega⟩
    have hlt : i < l.length := by omega
    simp only [catchwordlaw07_DictOrs.l0]
    rw [if_pos (by omega), if_pos (by omega), show rd_L1 l (i : Int) = l[i] from li_at l i hlt, few_f _ k (by omega), Option.bind_some]
    cases hf : fewR l[i] with
    | false => rfl
    | true =>
      rw [if_pos rfl, w64n (x := (i : Int) + 1) (i + 1) (by omega) (by omega)]
      refine DictOrs_l0 l hn d k (i + 1) (by omega) (by omega) (fun m hm => ?_)
      rw [List.take_add_one, List.getElem?_eq_getElem hlt, List.mem_append] at hm
      rcases hm with hm | hm
      · exact hi m hm
      · simp only [Option.toList_some, List.mem_singleton] at hm
        subst hm
        exact (fewR_iff _).1 hf
theorem DictOrs : catchwordlaw07_DictOrs.Pure := by
  intro l _
  obtain ⟨k, hk⟩ : ∃ k : Nat, 50000 ≤ k := ⟨50000, Nat.le_refl _⟩
  refine ⟨k + 1, ?_⟩
  unfold catchwordlaw07_DictOrs.f
  rw [dict_awake' (k + 1) (by omega)]
  simp only [Option.bind_some, if_true, catchwordlaw07_DictOrs.j0]
  by_cases h : (l.length : Int) > 4
  · rw [if_pos (decide_eq_true h)]
  · rw [if_neg (by simp; omega)]
    exact DictOrs_l0 l (by omega) l.length k 0 (by omega) (by omega) (fun m hm => by simp at hm)
end Go.Proofs.Ytamofikjjkpejaa.Pure
