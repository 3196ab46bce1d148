/- What the reference's May tells, for the functions printed for one law. -/
import Derived.Test.YtamofikjjkpejaaDFunDictOrs
namespace Go.Proofs.Ytamofikjjkpejaa.VDictOrs
open Go Go.RowKit Go.Proofs.Ytamofikjjkpejaa.PDictOrs Go.Proofs.YtamofikjjkpejaaW.PrintWords Go.Proofs.YtamofikjjkpejaaW.PrintLast Go.Proofs.YtamofikjjkpejaaW.PrintMore Go.Proofs.Ytamofikjjkpejaa.VSpec Go.Proofs.Ytamofikjjkpejaa.DSpec

theorem bt_drop (a : ByteArray) (i : Nat) (h : i < a.size) : (bytesOf a).drop i = bt a i :: (bytesOf a).drop (i + 1) := by
  rw [← rd_bytesOf]
  exact rd_at _ i (by rw [bytesOf_length]; exact h)
theorem rbelow_l0 (a b : ByteArray) (hm : a.size ≤ 140737488355328) : ∀ (d k i : Nat), i + d = a.size → i ≤ b.size → 2 * d + 2 < k → catchwordref03_Below.l0 k a b i = some (lt ((bytesOf a).drop i) ((bytesOf b).drop i))
  | 0, k, i, hd, hb, hk => by
    obtain ⟨k, rfl⟩ : ∃ m, k = m + 2 := ⟨k - 2, by omega⟩
    simp only [catchwordref03_Below.l0, catchwordref03_Below.j1]
    rw [if_neg (by omega), if_neg (by decide), List.drop_eq_nil_of_le (by rw [bytesOf_length]; omega)]
    by_cases h : i < b.size
    · rw [bt_drop b i h, decide_eq_true (by omega)]
      rfl
    · rw [List.drop_eq_nil_of_le (by rw [bytesOf_length]; omega), decide_eq_false (by omega)]
      rfl
  | d + 1, k, i, hd, hb, hk => by
    obtain ⟨k, rfl⟩ : ∃ m, k = m + 2 := ⟨k - 2, by omega⟩
    simp only [catchwordref03_Below.l0, catchwordref03_Below.j1]
    rw [if_pos (by omega), bt_drop a i (by omega)]
    by_cases h : i < b.size
    · rw [if_pos (decide_eq_true (by omega)), if_pos (by omega), if_pos (by omega), if_pos (by omega), bt_drop b i h, w64n (x := (i : Int) + 1) (i + 1) (by omega) (by omega), rbelow_l0 a b hm d k (i + 1) (by omega) (by omega) (by omega)]
      simp only [lt]
      by_cases e : bt a i = bt b i
      · rw [if_pos e, decide_eq_true e, decide_eq_false (by omega : ¬ bt a i < bt b i)]
        simp
      · rw [if_neg e, decide_eq_false e]
        simp
    · rw [if_neg (by simp; omega), List.drop_eq_nil_of_le (show (bytesOf b).length ≤ i by rw [bytesOf_length]; omega), decide_eq_false (by omega)]
      rfl
theorem rbelow_f (a b : ByteArray) (n : Nat) (ha : a.size ≤ n) (hn : n ≤ 1000) (k : Nat) (hk : 2 * n + 2 < k) : catchwordref03_Below.f k a b = some (lt (bytesOf a) (bytesOf b)) := by
  unfold catchwordref03_Below.f
  have := rbelow_l0 a b (by omega) a.size k 0 (by omega) (by omega) (by omega)
  simpa using this
theorem rd_size (l : List ByteArray) (n : Nat) (h : ∀ x ∈ l, x.size ≤ n) (i : Nat) : (rdOf ByteArray.empty l (i : Int)).size ≤ n := by
  rw [size_eq]; exact wd_le l n h i
theorem rmay_l0 (l : List ByteArray) (hm : l.length ≤ 300) (hs : ∀ x ∈ l, x.size ≤ 40) : ∀ (d k i : Nat), i + d = l.length → d + 100 < k → catchwordref07_May.l0 k l i = some (chk (prevOf l i) ((ws l).drop i))
  | 0, k, i, hd, hk => by
    obtain ⟨k, rfl⟩ : ∃ m, k = m + 1 := ⟨k - 1, by omega⟩
    simp only [catchwordref07_May.l0]
    rw [if_neg (by omega), List.drop_eq_nil_of_le (by rw [ws_len]; omega)]
    rfl
  | d + 1, k, i, hd, hk => by
    obtain ⟨k, rfl⟩ : ∃ m, k = m + 1 := ⟨k - 1, by omega⟩
    simp only [catchwordref07_May.l0]
    have ih := rmay_l0 l hm hs d k (i + 1) (by omega) (by omega)
    rw [show prevOf l (i + 1) = some (wd l i) from by simp [prevOf]] at ih
    rw [if_pos (by omega), if_pos (by omega), wd_size, ws_drop l i (by omega), w64n (x := (i : Int) + 1) (i + 1) (by omega) (by omega), ih]
    simp only [chk]
    by_cases h1 : (wd l i).length < 1
    · rw [if_pos (by omega), decide_eq_false (by omega)]; simp
    · rw [if_neg (by omega), decide_eq_true (by omega : 1 ≤ (wd l i).length)]
      by_cases h2 : (wd l i).length ≤ 32
      · rw [if_neg (by omega), decide_eq_true h2]
        by_cases h3 : i = 0
        · rw [if_neg (by omega)]
          simp [prevOf, h3]
        · rw [if_pos (by omega), w64n (x := (i : Int) - 1) (i - 1) (by omega) (by omega), if_pos (by omega), if_pos (by omega), rbelow_f _ _ 40 (rd_size l 40 hs _) (by omega) k (by omega)]
          rw [show prevOf l i = some (wd l (i - 1)) from by simp [prevOf, h3]]
          simp only [Bool.true_and, Option.bind_some]
          change (if lt (wd l (i - 1)) (wd l i) = true then _ else _) = _
          cases lt (wd l (i - 1)) (wd l i) <;> simp
      · rw [if_pos (by omega), decide_eq_false h2]; simp
theorem rmay_f (l : List ByteArray) (hm : l.length ≤ 300) (hs : ∀ x ∈ l, x.size ≤ 40) (k : Nat) (hk : l.length + 100 < k) : catchwordref07_May.f k l = some (mayR (ws l)) := by
  unfold catchwordref07_May.f mayR
  rw [ws_len]
  by_cases h : l.length ≤ 200
  · rw [if_neg (by omega), decide_eq_true h, Bool.and_true]
    have := rmay_l0 l hm hs l.length k 0 (by omega) (by omega)
    simpa [prevOf] using this
  · rw [if_pos (by omega), decide_eq_false h, Bool.and_false]
end Go.Proofs.Ytamofikjjkpejaa.VDictOrs
