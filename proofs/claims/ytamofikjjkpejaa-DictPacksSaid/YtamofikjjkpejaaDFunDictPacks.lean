/- What the program's May, Find and Below tell, for the functions printed for one law. -/
import Derived.Test.YtamofikjjkpejaaVGetDictPacks
import Derived.Test.YtamofikjjkpejaaDSpec
import Derived.Test.YtamofikjjkpejaaVList
namespace Go.Proofs.Ytamofikjjkpejaa.VDictPacks
open Go Go.RowKit Go.Proofs.Ytamofikjjkpejaa.PDictPacks Go.Proofs.YtamofikjjkpejaaW.PrintWords Go.Proofs.YtamofikjjkpejaaW.PrintLast Go.Proofs.YtamofikjjkpejaaW.PrintMore Go.Proofs.Ytamofikjjkpejaa.VSpec Go.Proofs.Ytamofikjjkpejaa.DSpec

theorem dict_awake : catchwordlaw07_awake.f 200 = some true := by decide +kernel
theorem dict_awake' (k : Nat) (h : 200 ≤ k) : catchwordlaw07_awake.f k = some true := at_rounds (fun k => catchwordlaw07_awake.mono k) h dict_awake

def fewR (l : List ByteArray) : Bool := decide (l.length ≤ 210) && l.all (fun x => decide (x.size ≤ 40))
theorem fewR_iff (l : List ByteArray) : fewR l = true ↔ l.length ≤ 210 ∧ ∀ x ∈ l, x.size ≤ 40 := by
  simp [fewR]
theorem rd_mem (l : List ByteArray) (i : Nat) (h : i < l.length) : rdOf ByteArray.empty l (i : Int) = l[i] := by
  simp [rdOf, List.getD_eq_getElem?_getD, List.getElem?_eq_getElem h]
theorem few_l0 (l : List ByteArray) (hm : l.length ≤ 300) : ∀ (d k i : Nat), i + d = l.length → d < k → catchwordlaw07_Few.l0 k l i = some ((l.drop i).all (fun x => decide (x.size ≤ 40)))
  | 0, k, i, hd, hk => by
    obtain ⟨k, rfl⟩ : ∃ m, k = m + 1 := ⟨k - 1, by omega⟩
    simp only [catchwordlaw07_Few.l0]
    rw [if_neg (by omega), List.drop_eq_nil_of_le (by omega)]
    rfl
  | d + 1, k, i, hd, hk => by
    obtain ⟨k, rfl⟩ : ∃ m, k = m + 1 := ⟨k - 1, by omega⟩
    simp only [catchwordlaw07_Few.l0]
    rw [if_pos (by omega), if_pos (by omega), rd_mem l i (by omega), w64n (x := (i : Int) + 1) (i + 1) (by omega) (by omega), few_l0 l hm d k (i + 1) (by omega) (by omega), List.drop_eq_getElem_cons (by omega : i < l.length), List.all_cons]
    by_cases h : l[i].size ≤ 40
    · rw [if_neg (by omega), decide_eq_true h, Bool.true_and]
    · rw [if_pos (by omega), decide_eq_false h, Bool.false_and]
theorem few_f (l : List ByteArray) (k : Nat) (hk : 300 ≤ k) : catchwordlaw07_Few.f k l = some (fewR l) := by
  unfold catchwordlaw07_Few.f fewR
  by_cases h : l.length ≤ 210
  · rw [if_neg (by omega), decide_eq_true h, Bool.true_and]
    have := few_l0 l (by omega) l.length k 0 (by omega) (by omega)
    rwa [List.drop_zero] at this
  · rw [if_pos (by omega), decide_eq_false h, Bool.false_and]

theorem dmay_l0 (l : List ByteArray) (hm : l.length ≤ 140737488351232) : ∀ (d k i : Nat), i + d = l.length → d < k → dict_May.l0 k l l l.length i = some (chk (prevOf l i) ((ws l).drop i) && decide (l.length ≤ 200))
  | 0, k, i, hd, hk => by
    obtain ⟨k, rfl⟩ : ∃ m, k = m + 1 := ⟨k - 1, by omega⟩
    simp only [dict_May.l0]
    rw [if_neg (by omega), List.drop_eq_nil_of_le (by rw [ws_len]; omega)]
    simp [chk]; omega
  | d + 1, k, i, hd, hk => by
    obtain ⟨k, rfl⟩ : ∃ m, k = m + 1 := ⟨k - 1, by omega⟩
    simp only [dict_May.l0]
    have ih := dmay_l0 l hm d k (i + 1) (by omega) (by omega)
    rw [show prevOf l (i + 1) = some (wd l i) from by simp [prevOf]] at ih
    rw [if_pos (by omega), if_pos (by omega), if_pos (by omega), wd_size, ws_drop l i (by omega), w64n (x := (i : Int) + 1) (i + 1) (by omega) (by omega), ih]
    simp only [chk]
    by_cases h1 : (wd l i).length < 1
    · rw [if_pos (by omega), decide_eq_false (by omega)]; simp
    · rw [if_neg (by omega), decide_eq_true (by omega : 1 ≤ (wd l i).length)]
      by_cases h2 : (wd l i).length ≤ 32
      · rw [if_neg (by omega), decide_eq_true h2]
        by_cases h3 : i = 0
        · rw [if_neg (by omega)]
          simp [prevOf, h3]
        · rw [if_pos (by omega), w64n (x := (i : Int) - 1) (i - 1) (by omega) (by omega), if_pos (by omega), if_pos (by omega), less_eq]
          rw [show prevOf l i = some (wd l (i - 1)) from by simp [prevOf, h3]]
          simp only [Bool.true_and]
          change (if lt (wd l (i - 1)) (wd l i) = true then _ else _) = _
          cases lt (wd l (i - 1)) (wd l i) <;> simp
      · rw [if_pos (by omega), decide_eq_false h2]; simp
theorem dmay_f (l : List ByteArray) (hm : l.length ≤ 140737488351232) (k : Nat) (hk : l.length < k) : dict_May.f k l = some (mayR (ws l)) := by
  unfold dict_May.f mayR
  have := dmay_l0 l hm l.length k 0 (by omega) hk
  rw [ws_len]
  simpa [prevOf] using this

theorem may_sorted {l : List ByteArray} (h : mayR (ws l) = true) : (ws l).Pairwise (fun a b => lt a b = true) ∧ l.length ≤ 200 := by
  unfold mayR at h
  rw [Bool.and_eq_true, decide_eq_true_eq, ws_len] at h
  exact ⟨chk_sorted _ _ h.1, h.2⟩
end Go.Proofs.Ytamofikjjkpejaa.VDictPacks
