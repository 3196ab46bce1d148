/- What the reference's New, May, Count, Kill, Less and And tell, for the functions printed for one law. -/
import Derived.Test.YtjjdnefonmlanaaLFunLiveTells
namespace Go.Proofs.Ytjjdnefonmlanaa.VLiveTells
open Go Go.RowKit Go.Proofs.Ytjjdnefonmlanaa.PLiveTells Go.Proofs.YtjjdnefonmlanaaW.PrintWords Go.Proofs.YtjjdnefonmlanaaW.PrintLast Go.Proofs.YtjjdnefonmlanaaW.PrintMore Go.Proofs.Ytjjdnefonmlanaa.VSpec Go.Proofs.Ytjjdnefonmlanaa.LSpec

theorem rmay_f (l : List Bool) : catchwordref04_May.f l = some (decide (l.length ≤ 64)) := by
  unfold catchwordref04_May.f
  congr 1
  rw [decide_eq_decide]; omega
theorem rnew_l0 (n : Nat) (hn : n ≤ 64) : ∀ (d k i : Nat), i + d = n → d < k → catchwordref04_New.l0 k n (List.replicate i true) i = some (List.replicate n true)
  | 0, k, i, hd, hk => by
    obtain ⟨k, rfl⟩ : ∃ m, k = m + 1 := ⟨k - 1, by omega⟩
    obtain rfl : i = n := by omega
    simp only [catchwordref04_New.l0]
    rw [if_neg (by omega)]
  | d + 1, k, i, hd, hk => by
    obtain ⟨k, rfl⟩ : ∃ m, k = m + 1 := ⟨k - 1, by omega⟩
    simp only [catchwordref04_New.l0]
    rw [if_pos (by omega), if_pos (by omega), if_pos (by rw [List.length_replicate]; omega), w64n (x := (i : Int) + 1) (i + 1) (by omega) (by omega), ← List.replicate_succ']
    exact rnew_l0 n hn d k (i + 1) (by omega) (by omega)
theorem rnew_f (n : Int) (k : Nat) (hk : 70 ≤ k) : catchwordref04_New.f k n = some (newR n) := by
  unfold catchwordref04_New.f newR
  by_cases h : 0 ≤ n ∧ n ≤ 64
  · obtain ⟨n, rfl⟩ : ∃ m : Nat, n = m := ⟨n.toNat, by omega⟩
    have := rnew_l0 n (by omega) n k 0 (by omega) (by omega)
    rw [if_pos h, Int.toNat_natCast]
    exact this
  · obtain ⟨k, rfl⟩ : ∃ m, k = m + 1 := ⟨k - 1, by omega⟩
    rw [if_neg h]
    simp only [catchwordref04_New.l0]
    by_cases h0 : (0 : Int) < n
    · rw [if_pos h0, if_neg (by omega)]
    · by_cases h1 : n = 0
      · exact absurd ⟨by omega, by omega⟩ h
      · rw [if_neg h0]
theorem rcount_l0 (l : List Bool) (hm : l.length ≤ 140737488355328) : ∀ (d k i c : Nat), i + d = l.length → d < k → c ≤ i → catchwordref04_Count.l0 k l c i = some ((c + (l.drop i).count true : Nat) : Int)
  | 0, k, i, c, hd, hk, hc => by
    obtain ⟨k, rfl⟩ : ∃ m, k = m + 1 := ⟨k - 1, by omega⟩
    simp only [catchwordref04_Count.l0]
    rw [if_neg (by omega), List.drop_eq_nil_of_le (by omega)]
    simp
  | d + 1, k, i, c, hd, hk, hc => by
    obtain ⟨k, rfl⟩ : ∃ m, k = m + 1 := ⟨k - 1, by omega⟩
    simp only [catchwordref04_Count.l0]
    rw [if_pos (by omega), if_pos (by omega), w64n (x := (i : Int) + 1) (i + 1) (by omega) (by omega), w64n (x := (c : Int) + 1) (c + 1) (by omega) (by omega), rdb_at l i (by omega)]
    by_cases hx : rdOf false l i = true
    · rw [if_pos hx, rcount_l0 l hm d k (i + 1) (c + 1) (by omega) (by omega) (by omega), hx, List.count_cons_self]
      congr 2; omega
    · rw [if_neg hx, rcount_l0 l hm d k (i + 1) c (by omega) (by omega) (by omega), List.count_cons_of_ne (by simpa using hx)]
theorem rcount_f (l : List Bool) (hm : l.length ≤ 140737488355328) (k : Nat) (hk : l.length < k) : catchwordref04_Count.f k l = some ((l.count true : Nat) : Int) := by
  unfold catchwordref04_Count.f
  have := rcount_l0 l hm l.length k 0 0 (by omega) hk (by omega)
  simpa using this
theorem rkill_f (l : List Bool) (i : Int) (hm : l.length < 140737488355328) : catchwordref04_Kill.f l i = some (killR l i) := by
  unfold catchwordref04_Kill.f killR
  by_cases h0 : i < 0
  · rw [if_pos h0, if_neg (by omega)]
  · rw [if_neg h0]
    by_cases h1 : i ≥ l.length
    · rw [if_pos h1, if_neg (by omega)]
    · rw [if_neg h1, if_pos (by omega), if_pos (by omega)]
      by_cases h2 : rdOf false l i = true
      · rw [if_pos h2, if_pos (by rw [List.length_nil]; omega), if_pos ⟨by omega, by omega, h2⟩]
        simp only [List.nil_append, Option.bind_some]
        rw [if_pos (by omega)]
      · rw [if_neg h2, if_neg (fun h => h2 h.2.2)]
theorem rless_l0 (a b : List Bool) (he : a.length = b.length) (hm : a.length ≤ 140737488355328) : ∀ (d k i : Nat), i + d = a.length → d < k → catchwordref04_Less.l0 k a b i = some (le (a.drop i) (b.drop i))
  | 0, k, i, hd, hk => by
    obtain ⟨k, rfl⟩ : ∃ m, k = m + 1 := ⟨k - 1, by omega⟩
    simp only [catchwordref04_Less.l0]
    rw [if_neg (by omega), List.drop_eq_nil_of_le (by omega), List.drop_eq_nil_of_le (by omega)]
    rfl
  | d + 1, k, i, hd, hk => by
    obtain ⟨k, rfl⟩ : ∃ m, k = m + 1 := ⟨k - 1, by omega⟩
    simp only [catchwordref04_Less.l0]
    rw [if_pos (by omega), if_pos (by omega), w64n (x := (i : Int) + 1) (i + 1) (by omega) (by omega), rless_l0 a b he hm d k (i + 1) (by omega) (by omega), rdb_at a i (by omega), rdb_at b i (by omega)]
    simp only [le]
    by_cases hx : rdOf false a i = true
    · rw [if_pos hx, if_pos (by omega), hx]
      by_cases hy : rdOf false b i = true
      · rw [if_pos hy, hy]; simp
      · rw [if_neg hy]
        simp only [Bool.not_eq_true] at hy
        rw [hy]; simp
    · rw [if_neg hx]
      simp only [Bool.not_eq_true] at hx
      rw [hx]; simp
theorem rless_f (a b : List Bool) (hm : a.length ≤ 140737488355328) (k : Nat) (hk : a.length < k) : catchwordref04_Less.f k a b = some (le a b) := by
  unfold catchwordref04_Less.f
  by_cases he : a.length = b.length
  · rw [if_pos (by omega)]
    have := rless_l0 a b he hm a.length k 0 (by omega) hk
    simpa using this
  · rw [if_neg (by omega)]
    cases h : le a b with
    | false => rfl
    | true => exact absurd (le_len a b h) he
theorem rand_l0 (a b : List Bool) (he : a.length = b.length) (hm : a.length < 140737488355328) : ∀ (d k i : Nat) (o : List Bool), i + d = a.length → d < k → o.length = i →
    catchwordref04_And.l0 k a b o i = some (o ++ List.zipWith (fun x y => x && y) (a.drop i) (b.drop i))
  | 0, k, i, o, hd, hk, ho => by
    obtain ⟨k, rfl⟩ : ∃ m, k = m + 1 := ⟨k - 1, by omega⟩
    simp only [catchwordref04_And.l0]
    rw [if_neg (by omega), List.drop_eq_nil_of_le (by omega)]
    simp
  | d + 1, k, i, o, hd, hk, ho => by
    obtain ⟨k, rfl⟩ : ∃ m, k = m + 1 := ⟨k - 1, by omega⟩
    simp only [catchwordref04_And.l0]
    rw [if_pos (by omega), if_pos (by omega), if_pos (by omega), rdb_at a i (by omega), rdb_at b i (by omega), List.zipWith_cons_cons, w64n (x := (i : Int) + 1) (i + 1) (by omega) (by omega)]
    by_cases hx : rdOf false a i = true
    · rw [if_pos hx, if_pos (by omega), if_pos (by omega), rand_l0 a b he hm d k (i + 1) _ (by omega) (by omega) (by simp; omega), hx]
      simp
    · rw [if_neg hx, if_pos (by omega), rand_l0 a b he hm d k (i + 1) _ (by omega) (by omega) (by simp; omega)]
      simp only [Bool.not_eq_true] at hx
      rw [hx]
      simp
theorem rand_f (a b : List Bool) (hm : a.length < 140737488355328) (k : Nat) (hk : a.length < k) : catchwordref04_And.f k a b = some (both a b) := by
  unfold catchwordref04_And.f both
  by_cases he : a.length = b.length
  · rw [if_pos he]
    have := rand_l0 a b he hm a.length k 0 [] (by omega) hk rfl
    simpa using this
  · rw [if_neg he]
    obtain ⟨k, rfl⟩ : ∃ m, k = m + 1 := ⟨k - 1, by omega⟩
    simp only [catchwordref04_And.l0]
    by_cases h0 : (0 : Int) < a.length
    · rw [if_pos h0, if_neg (by omega)]
    · rw [if_neg h0]
end Go.Proofs.Ytjjdnefonmlanaa.VLiveTells
