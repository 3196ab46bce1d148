/- What the reference's May, Find and Below tell, for the functions printed for one law. -/
import Derived.Test.YtamofikjjkpejaaDFunDictTells
namespace Go.Proofs.Ytamofikjjkpejaa.VDictTells
open Go Go.RowKit Go.Proofs.Ytamofikjjkpejaa.PDictTells Go.Proofs.YtamofikjjkpejaaW.PrintWords Go.Proofs.YtamofikjjkpejaaW.PrintLast Go.Proofs.YtamofikjjkpejaaW.PrintMore Go.Proofs.Ytamofikjjkpejaa.VSpec Go.Proofs.Ytamofikjjkpejaa.DSpec

theorem bt_drop (a : ByteArray) (i : Nat) (h : i < a.size) : (bytesOf a).drop i = bt a i :: (bytesOf a).drop (i + 1) := by
  rw [← rd_bytesOf]
  exact rd_at _ i (by rw [bytesOf_length]; exact h)
theorem rbelow_l0 (a b : ByteArray) (hm : a.size ≤ 140737488355328) : ∀ (d k i : Nat), i + d = a.size → i ≤ b.size → 2 * d + 2 < k → catchwordref03_Below.l0 k a b i = some (lt ((bytesOf a).drop i) ((bytesOf b).drop i))
  | 0, k, i, hd, hb, hk => by
    obtain ⟨k, rfl⟩ : ∃ m, k = m + 2 := ⟨k - 2, by omega⟩
    simp only [catchwordref03_Below.l0, catchwordref03_Below.j1]
    rw [if_neg (by omega), if_neg (by decide), List.drop_eq_nil_of_le (by rw [bytesOf_length]; omega)]
    by_cases h : i < b.size
    · rw [bt_drop b i h, decide_eq_true (by omega)]
      rfl
    · rw [List.drop_eq_nil_of_le (by rw [bytesOf_length]; omega), decide_eq_false (by omega)]
      rfl
  | d + 1, k, i, hd, hb, hk => by
    obtain ⟨k, rfl⟩ : ∃ m, k = m + 2 := ⟨k - 2, by omega⟩
    simp only [catchwordref03_Below.l0, catchwordref03_Below.j1]
    rw [if_pos (by omega), bt_drop a i (by omega)]
    by_cases h : i < b.size
    · rw [if_pos (decide_eq_true (by omega)), if_pos (by omega), if_pos (by omega), if_pos (by omega), bt_drop b i h, w64n (x := (i : Int) + 1) (i + 1) (by omega) (by omega), rbelow_l0 a b hm d k (i + 1) (by omega) (by omega) (by omega)]
      simp only [lt]
      by_cases e : bt a i = bt b i
      · rw [if_pos e, decide_eq_true e, decide_eq_false (by omega : ¬ bt a i < bt b i)]
        simp
      · rw [if_neg e, decide_eq_false e]
        simp
    · rw [if_neg (by simp; omega), List.drop_eq_nil_of_le (show (bytesOf b).length ≤ i by rw [bytesOf_length]; omega), decide_eq_false (by omega)]
      rfl
theorem rbelow_f (a b : ByteArray) (n : Nat) (ha : a.size ≤ n) (hn : n ≤ 1000) (k : Nat) (hk : 2 * n + 2 < k) : catchwordref03_Below.f k a b = some (lt (bytesOf a) (bytesOf b)) := by
  unfold catchwordref03_Below.f
  have := rbelow_l0 a b (by omega) a.size k 0 (by omega) (by omega) (by omega)
  simpa using this
theorem rd_size (l : List ByteArray) (n : Nat) (h : ∀ x ∈ l, x.size ≤ n) (i : Nat) : (rdOf ByteArray.empty l (i : Int)).size ≤ n := by
  rw [size_eq]; exact wd_le l n h i
theorem rmay_l0 (l : List ByteArray) (hm : l.length ≤ 300) (hs : ∀ x ∈ l, x.size ≤ 40) : ∀ (d k i : Nat), i + d = l.length → d + 100 < k → catchwordref07_May.l0 k l i = some (chk (prevOf l i) ((ws l).drop i))
  | 0, k, i, hd, hk => by
    obtain ⟨k, rfl⟩ : ∃ m, k = m + 1 := ⟨k - 1, by omega⟩
    simp only [catchwordref07_May.l0]
    rw [if_neg (by omega), List.drop_eq_nil_of_le (by rw [ws_len]; omega)]
    rfl
  | d + 1, k, i, hd, hk => by
    obtain ⟨k, rfl⟩ : ∃ m, k = m + 1 := ⟨k - 1, by omega⟩
    simp only [catchwordref07_May.l0]
    have ih := rmay_l0 l hm hs d k (i + 1) (by omega) (by omega)
    rw [show prevOf l (i + 1) = some (wd l i) from by simp [prevOf]] at ih
    rw [if_pos (by omega), if_pos (by omega), wd_size, ws_drop l i (by omega), w64n (x := (i : Int) + 1) (i + 1) (by omega) (by omega), ih]
    simp only [chk]
    by_cases h1 : (wd l i).length < 1
    · rw [if_pos (by omega), decide_eq_false (by omega)]; simp
    · rw [if_neg (by omega), decide_eq_true (by omega : 1 ≤ (wd l i).length)]
      by_cases h2 : (wd l i).length ≤ 32
      · rw [if_neg (by omega), decide_eq_true h2]
        by_cases h3 : i = 0
        · rw [if_neg (by omega)]
          simp [prevOf, h3]
        · rw [if_pos (by omega), w64n (x := (i : Int) - 1) (i - 1) (by omega) (by omega), if_pos (by omega), if_pos (by omega), rbelow_f _ _ 40 (rd_size l 40 hs _) (by omega) k (by omega)]
          rw [show prevOf l i = some (wd l (i - 1)) from by simp [prevOf, h3]]
          simp only [Bool.true_and, Option.bind_some]
          change (if lt (wd l (i - 1)) (wd l i) = true then _ else _) = _
          cases lt (wd l (i - 1)) (wd l i) <;> simp
      · rw [if_pos (by omega), decide_eq_false h2]; simp
theorem rmay_f (l : List ByteArray) (hm : l.length ≤ 300) (hs : ∀ x ∈ l, x.size ≤ 40) (k : Nat) (hk : l.length + 100 < k) : catchwordref07_May.f k l = some (mayR (ws l)) := by
  unfold catchwordref07_May.f mayR
  rw [ws_len]
  by_cases h : l.length ≤ 200
  · rw [if_neg (by omega), decide_eq_true h, Bool.and_true]
    have := rmay_l0 l hm hs l.length k 0 (by omega) (by omega)
    simpa [prevOf] using this
  · rw [if_pos (by omega), decide_eq_false h, Bool.and_false]
theorem rfind_l0 (l : List ByteArray) (t : ByteArray) (hm : l.length ≤ 300) (hs : (ws l).Pairwise (fun a b => lt a b = true)) : ∀ (d k i : Nat), i + d = l.length → 2 * d + 2 < k → (∀ q, q < i → wd l q ≠ bytesOf t) →
    catchwordref07_Find.l0 k l t true i = some (if bytesOf t ∈ ws l then (cnt (ws l) (bytesOf t) : Int) else -1)
  | 0, k, i, hd, hk, hq => by
    obtain ⟨k, rfl⟩ : ∃ m, k = m + 2 := ⟨k - 2, by omega⟩
    simp only [catchwordref07_Find.l0, catchwordref07_Find.j1]
    rw [if_neg (by omega), if_neg (by decide), if_neg]
    intro h
    obtain ⟨q, hq1, e⟩ := List.getElem_of_mem h
    rw [ws_len] at hq1
    rw [wd_get l q hq1] at e
    exact hq q (by omega) e
  | d + 1, k, i, hd, hk, hq => by
    obtain ⟨k, rfl⟩ : ∃ m, k = m + 2 := ⟨k - 2, by omega⟩
    simp only [catchwordref07_Find.l0, catchwordref07_Find.j1]
    rw [if_pos (by omega), if_pos trivial, if_pos (by omega), if_pos (by omega), w64n (x := (i : Int) + 1) (i + 1) (by omega) (by omega)]
    by_cases h : wd l i = bytesOf t
    · rw [if_pos ((same_iff _ _).2 h)]
      have hi : i < (ws l).length := by rw [ws_len]; omega
      have e : (ws l)[i] = bytesOf t := by rw [wd_get l i (by omega)]; exact h
      rw [if_pos (by rw [← e]; exact List.getElem_mem _), cnt_at (ws l) (bytesOf t) hs i hi e]
    · rw [if_neg (fun h' => h ((same_iff _ _).1 h'))]
      refine rfind_l0 l t hm hs d k (i + 1) (by omega) (by omega) (fun q hq' => ?_)
      rcases Nat.lt_or_ge q i with h' | h'
      · exact hq q h'
      · obtain rfl : q = i := by omega
        exact h
theorem rfind_f (l : List ByteArray) (t : ByteArray) (hm : l.length ≤ 300) (hs : ∀ x ∈ l, x.size ≤ 40) (k : Nat) (hk : 2 * l.length + 200 < k) : catchwordref07_Find.f k l t = some (findR (ws l) (bytesOf t)) := by
  unfold catchwordref07_Find.f findR
  rw [rmay_f l hm hs k (by omega)]
  simp only [Option.bind_some]
  cases h : mayR (ws l) with
  | true =>
    obtain ⟨h1, _⟩ := may_sorted h
    rw [if_pos rfl]
    exact rfind_l0 l t hm h1 l.length k 0 (by omega) (by omega) (fun q h => by omega)
  | false =>
    obtain ⟨k, rfl⟩ : ∃ m, k = m + 2 := ⟨k - 2, by omega⟩
    simp only [catchwordref07_Find.l0, catchwordref07_Find.j1]
    split <;> rfl
theorem rcnt_l0 (l : List ByteArray) (t : ByteArray) (hm : l.length ≤ 300) (hs : ∀ x ∈ l, x.size ≤ 40) : ∀ (d k i c : Nat), i + d = l.length → 2 * d + 102 < k → c ≤ i →
    catchwordref07_Below.l0 k l t true c i = some ((c + ((ws l).drop i).countP (fun x => lt x (bytesOf t)) : Nat) : Int)
  | 0, k, i, c, hd, hk, hc => by
    obtain ⟨k, rfl⟩ : ∃ m, k = m + 2 := ⟨k - 2, by omega⟩
    simp only [catchwordref07_Below.l0, catchwordref07_Below.j1]
    rw [if_neg (by omega), if_neg (by decide), List.drop_eq_nil_of_le (by rw [ws_len]; omega)]
    simp
  | d + 1, k, i, c, hd, hk, hc => by
    obtain ⟨k, rfl⟩ : ∃ m, k = m + 2 := ⟨k - 2, by omega⟩
    simp only [catchwordref07_Below.l0, catchwordref07_Below.j1]
    rw [if_pos (by omega), if_pos trivial, if_pos (by omega), if_pos (by omega), rbelow_f _ _ 40 (rd_size l 40 hs _) (by omega) k (by omega), Option.bind_some, w64n (x := (i : Int) + 1) (i + 1) (by omega) (by omega), w64n (x := (c : Int) + 1) (c + 1) (by omega) (by omega),
      ws_drop l i (by omega), List.countP_cons]
    change (if lt (wd l i) (bytesOf t) = true then _ else _) = _
    by_cases h : lt (wd l i) (bytesOf t) = true
    · rw [if_pos h, if_pos h, rcnt_l0 l t hm hs d k (i + 1) (c + 1) (by omega) (by omega) (by omega)]
      congr 2; omega
    · rw [if_neg h, if_neg h, rcnt_l0 l t hm hs d k (i + 1) c (by omega) (by omega) (by omega)]
      rfl
theorem rcnt_f (l : List ByteArray) (t : ByteArray) (hm : l.length ≤ 300) (hs : ∀ x ∈ l, x.size ≤ 40) (k : Nat) (hk : 2 * l.length + 200 < k) : catchwordref07_Below.f k l t = some (belowR (ws l) (bytesOf t)) := by
  unfold catchwordref07_Below.f belowR
  rw [rmay_f l hm hs k (by omega)]
  simp only [Option.bind_some]
  cases h : mayR (ws l) with
  | true =>
    rw [if_pos rfl]
    have := rcnt_l0 l t hm hs l.length k 0 0 (by omega) (by omega) (by omega)
    simpa [cnt] using this
  | false =>
    obtain ⟨k, rfl⟩ : ∃ m, k = m + 2 := ⟨k - 2, by omega⟩
    simp only [catchwordref07_Below.l0, catchwordref07_Below.j1]
    split <;> rfl
end Go.Proofs.Ytamofikjjkpejaa.VDictTells
