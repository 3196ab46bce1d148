/- Each word is found where it stands, and has as many below it; what is not there has none, and stands between: DictFinds answers true for every input. -/
import Derived.Test.YtamofikjjkpejaaDFunDictFinds
namespace Go.Proofs.Ytamofikjjkpejaa.Pure
open Go Go.RowKit Go.Proofs.Ytamofikjjkpejaa.PDictFinds Go.Proofs.YtamofikjjkpejaaW.PrintWords Go.Proofs.YtamofikjjkpejaaW.PrintLast Go.Proofs.Ytamofikjjkpejaa.VSpec Go.Proofs.Ytamofikjjkpejaa.DSpec Go.Proofs.Ytamofikjjkpejaa.VDictFinds

theorem DictFinds_j1 (l : List ByteArray) (t : ByteArray) (hl : l.length ≤ 210) (hmay : mayR (ws l) = true) (k : Nat) (hk : 1000 ≤ k) : catchwordlaw07_DictFinds.j1 k l t false = some true := by
  obtain ⟨k, rfl⟩ : ∃ m, k = m + 1 := ⟨k - 1, by omega⟩
  obtain ⟨hs, _⟩ := may_sorted hmay
  simp only [catchwordlaw07_DictFinds.j1]
  rw [if_neg (by decide), below_f l t (by omega) k (by omega), Option.bind_some]
  have hb : belowR (ws l) (bytesOf t) = (cnt (ws l) (bytesOf t) : Int) := by unfold belowR; rw [if_pos hmay]
  rw [hb, find_f l t (by omega) k (by omega)]
  have hc := cnt_le (ws l) (bytesOf t)
  rw [ws_len] at hc
  have hf : findR (ws l) (bytesOf t) = if bytesOf t ∈ ws l then (cnt (ws l) (bytesOf t) : Int) else -1 := by unfold findR; rw [if_pos hmay]
  rw [hf]
  have hin := found_iff (t := bytesOf t) hs
  have hlo : ∀ q, q < cnt (ws l) (bytesOf t) → lt (wd l q) (bytesOf t) = true := fun q hq => by
    rw [← wd_get l q (by omega), cnt_split (ws l) (bytesOf t) hs q (by rw [ws_len]; omega), decide_eq_true hq]
  have hhi : ∀ q, cnt (ws l) (bytesOf t) ≤ q → q < l.length → lt (wd l q) (bytesOf t) = false := fun q hq h => by
    rw [← wd_get l q h, cnt_split (ws l) (bytesOf t) hs q (by rw [ws_len]; omega), decide_eq_false (by omega)]
  generalize cnt (ws l) (bytesOf t) = c at hc hin hlo hhi
  have hwl : ∀ a b : ByteArray, Op.bytesLess a.toList b.toList = lt (bytesOf a) (bytesOf b) := less_eq
  simp only [Option.bind_some, hwl, same_iff]
  rw [if_neg (by omega), if_neg (by omega)]
  have hfst : ∀ c' : Nat, c = c' + 1 → (if lt (bytesOf (rdOf ByteArray.empty l (c' : Int))) (bytesOf t) = true then True else False) := fun c' hc' => by
    have := hlo c' (by omega)
    unfold wd at this
    rw [if_pos this]
    trivial
  by_cases h1 : c < l.length
  · rw [if_pos (by omega), if_pos (by omega)]
    change (if wd l c = bytesOf t then _ else _) = _
    by_cases h2 : wd l c = bytesOf t
    · have hm : bytesOf t ∈ ws l := hin.1 ⟨h1, h2⟩
      rw [if_pos h2, if_pos hm, if_pos rfl]
    · have hm : ¬ bytesOf t ∈ ws l := fun h => h2 (hin.2 h).2
      have hgt : lt (bytesOf t) (bytesOf (rdOf ByteArray.empty l (c : Int))) = true := lt_total _ _ (hhi c (Nat.le_refl _) h1) h2
      rw [if_neg h2, if_neg hm]
      rw [if_neg (show ¬ bytesOf (rdOf ByteArray.empty l (c : Int)) = bytesOf t from h2), if_pos rfl]
      by_cases h3 : c = 0
      · subst h3
        rw [if_pos (show ((0 : Nat) : Int) = 0 from rfl), if_neg (by omega), hgt]
      · obtain ⟨c', rfl⟩ : ∃ m, c = m + 1 := ⟨c - 1, by omega⟩
        have hlt : lt (bytesOf (rdOf ByteArray.empty l (c' : Int))) (bytesOf t) = true := hlo c' (by omega)
        rw [if_neg (by omega), w64n (x := ((c' + 1 : Nat) : Int) - 1) c' (by omega) (by omega), if_pos (by omega), if_pos (by omega), if_pos hlt, if_neg (by omega), hgt]
  · have hm : ¬ bytesOf t ∈ ws l := fun h => h1 (hin.2 h).1
    obtain rfl : c = l.length := by omega
    rw [if_neg (by omega), if_neg hm, if_pos rfl]
    by_cases h3 : l.length = 0
    · rw [if_pos (by omega), if_pos rfl]
    · have hlt : lt (bytesOf (rdOf ByteArray.empty l ((l.length - 1 : Nat) : Int))) (bytesOf t) = true := hlo (l.length - 1) (by omega)
      rw [if_neg (by omega), w64n (x := ((l.length : Nat) : Int) - 1) (l.length - 1) (by omega) (by omega), if_pos (by omega), if_pos (by omega), if_pos hlt, if_pos rfl]
theorem DictFinds : catchwordlaw07_DictFinds.Pure := by
  intro l i t _ _ _
  obtain ⟨k, hk⟩ : ∃ k : Nat, 5000 ≤ k := ⟨5000, Nat.le_refl _⟩
  refine ⟨k + 1, ?_⟩
  unfold catchwordlaw07_DictFinds.f
  have skip : catchwordlaw07_DictFinds.j0 (k + 1) l i t true true = some true := by simp only [catchwordlaw07_DictFinds.j0, if_true]
  rw [dict_awake' (k + 1) (by omega), few_f l (k + 1) (by omega)]
  simp only [Option.bind_some, if_true, skip]
  cases hf : fewR l with
  | false => rfl
  | true =>
    obtain ⟨h1, h2⟩ := (fewR_iff l).1 hf
    rw [if_pos rfl, dmay_f l (by omega) (k + 1) (by omega), Option.bind_some]
    cases hm : mayR (ws l) with
    | false => rfl
    | true =>
      rw [if_pos rfl]
      by_cases h' : (t.size : Int) > 40
      · rw [decide_eq_true h', skip]
      · rw [decide_eq_false h']
        have hj := DictFinds_j1 l t h1 hm k (by omega)
        simp only [catchwordlaw07_DictFinds.j0]
        rw [if_neg (by decide)]
        by_cases h3 : i ≥ 0
        · rw [if_pos h3]
          by_cases h4 : i < l.length
          · obtain ⟨i, rfl⟩ : ∃ m : Nat, i = m := ⟨i.toNat, by omega⟩
            obtain ⟨hs, _⟩ := may_sorted hm
            have hi : i < (ws l).length := by rw [ws_len]; omega
            have e : (ws l)[i] = bytesOf (rdOf ByteArray.empty l (i : Int)) := wd_get l i (by omega)
            have hc := cnt_at (ws l) _ hs i hi e
            rw [if_pos h4, if_pos (by omega), find_f l _ (by omega) k (by omega), below_f l _ (by omega) k (by omega), Option.bind_some, Option.bind_some]
            have hfd : findR (ws l) (bytesOf (rdOf ByteArray.empty l (i : Int))) = (i : Int) := by
              unfold findR
              rw [if_pos hm, if_pos (show bytesOf (rdOf ByteArray.empty l (i : Int)) ∈ ws l by rw [← e]; exact List.getElem_mem _), hc]
            have hbl : belowR (ws l) (bytesOf (rdOf ByteArray.empty l (i : Int))) = (i : Int) := by
              unfold belowR
              rw [if_pos hm, hc]
            rw [hfd, hbl, if_pos rfl, bne_self_eq_false]
            exact hj
          · rw [if_neg h4]
            exact hj
        · rw [if_neg h3]
          exact hj
end Go.Proofs.Ytamofikjjkpejaa.Pure
