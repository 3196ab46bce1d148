/- What the reference's Put and Get tell, for the functions printed for one law. -/
import Derived.Test.YtamofikjjkpejaaVGetDictPacks
namespace Go.Proofs.Ytamofikjjkpejaa.VDictPacks
open Go Go.RowKit Go.Proofs.Ytamofikjjkpejaa.PDictPacks Go.Proofs.YtamofikjjkpejaaW.PrintWords Go.Proofs.YtamofikjjkpejaaW.PrintLast Go.Proofs.YtamofikjjkpejaaW.PrintMore Go.Proofs.Ytamofikjjkpejaa.VSpec

theorem rput_l0 (n : Int) (o : List Int) (k : Nat) (h0 : Num n) (hl : o.length + (enc n).length ≤ 140737488355327) (hk : (enc n).length < k) : catchwordref01_Put.l0 k n o = some (o ++ enc n) := by
  obtain ⟨k, rfl⟩ : ∃ m, k = m + 1 := ⟨k - 1, by omega⟩
  have h00 := h0.1
  have h01 := h0.2
  by_cases hn : n < 128
  · simp only [catchwordref01_Put.l0]
    rw [enc_small hn] at hl ⊢
    simp only [List.length_cons, List.length_nil] at hl
    rw [if_neg (by omega), if_pos (by omega), show n % 256 = n by omega]
  · rw [enc_big (by omega)] at hk hl ⊢
    simp only [List.length_cons] at hk hl ⊢
    have ih := rput_l0 (n / 128) (o ++ [128 + n % 128]) k ⟨by omega, by omega⟩ (by simp; omega) (by omega)
    simp only [catchwordref01_Put.l0]
    rw [if_pos (by omega), if_pos (by omega), show Int.tdiv n 128 = n / 128 from Int.tdiv_eq_ediv_of_nonneg h00, show Int.tmod n 128 = n % 128 from Int.tmod_eq_emod_of_nonneg h00,
      w64 (x := n / 128) (by omega) (by omega), w64 (x := 128 + n % 128) (by omega) (by omega), show (128 + n % 128) % 256 = 128 + n % 128 by omega, ih, List.append_assoc]
    rfl
termination_by n.toNat
decreasing_by omega
theorem rput_f (n : Int) (k : Nat) (hk : 8 ≤ k) : catchwordref01_Put.f k n = some (putR n) := by
  obtain ⟨k, rfl⟩ : ∃ m, k = m + 1 := ⟨k - 1, by omega⟩
  unfold catchwordref01_Put.f putR
  by_cases h : Num n
  · have h1 := h.1
    have h2 := h.2
    have h5 := h.len
    rw [if_neg (by omega), if_pos h]
    simp only [catchwordref01_Put.j0]
    rw [if_neg (by simp; omega), rput_l0 n [] k h (by simp; omega) (by omega)]
    rfl
  · rw [if_neg h]
    unfold Num at h
    by_cases h1 : n < 0
    · rw [if_pos h1]; simp [catchwordref01_Put.j0]
    · rw [if_neg h1]
      simp only [catchwordref01_Put.j0]
      rw [if_pos (by simp; omega)]

/-- What Get's first bytes tell, once the bytes of the number found are held against what was read. -/
def chk (b : List Int) (a : Nat) (acc : Int) (by_ : Int) (i : Nat) : Option (Int × Nat) → Int × Int × Int
  | none => (0, 0, 5)
  | some (n, j) => if enc (acc + by_ * n) = (b.take (i + j)).drop a then (acc + by_ * n, (i + j : Int), 0) else (0, 0, 5)

theorem rget_l0 (b : List Int) (a : Nat) (hb : Byt b) (hm : b.length ≤ 140737488351232) : ∀ (d k i : Nat) (acc p : Int), d + i = 5 + a → a ≤ i → 2 * d + 20 < k → 0 ≤ acc → acc < p → p = 128 ^ (i - a) →
    catchwordref01_Get.l0 k b a acc p i = some (chk b a acc p i (raw d (b.drop i)))
  | 0, k, i, acc, p, hd, hi, hk, h0, h1, hp => by
    obtain ⟨k, rfl⟩ : ∃ m, k = m + 2 := ⟨k - 2, by omega⟩
    simp only [catchwordref01_Get.l0, catchwordref01_Get.j2, raw, chk]
    by_cases hl : i < b.length
    · rw [if_pos (by omega), if_neg (by rw [w64] <;> (try simp) <;> omega)]
    · rw [if_neg (by omega), if_neg (by simp)]
  | d + 1, k, i, acc, p, hd, hi, hk, h0, h1, hp => by
    obtain ⟨k, rfl⟩ : ∃ m, k = m + 2 := ⟨k - 2, by omega⟩
    simp only [catchwordref01_Get.l0, catchwordref01_Get.j2]
    by_cases hl : i < b.length
    · have hc : 0 ≤ rd b i ∧ rd b i < 256 := by
        have hmem : rd b i ∈ b.drop i := by rw [rd_at b i hl]; exact List.mem_cons_self ..
        exact hb _ (List.mem_of_mem_drop hmem)
      have hple : p ≤ 268435456 := by
        rw [hp]
        have : i - a = 0 ∨ i - a = 1 ∨ i - a = 2 ∨ i - a = 3 ∨ i - a = 4 := by omega
        rcases this with h | h | h | h | h <;> rw [h] <;> omega
      have hpp : p * 128 = 128 ^ (i + 1 - a) := by rw [hp, show i + 1 - a = (i - a) + 1 by omega, Int.pow_succ]
      have hp0 : 0 < p := by omega
      clear hp
      rw [if_pos (by omega), if_pos (by rw [w64] <;> (try simp) <;> omega), if_pos (by omega), if_pos (by omega), rd_at b i hl]
      generalize rd b i = c at hc
      have hm1 : p * (c % 128) ≤ p * 127 := Int.mul_le_mul_of_nonneg_left (by omega) (by omega)
      have hm0 : 0 ≤ p * (c % 128) := Int.mul_nonneg (by omega) (by omega)
      have hv : wrap64 (acc + wrap64 (p * (Int.tmod (wrap64 c) 128))) = acc + p * (c % 128) := by
        rw [w64 (x := c) (by omega) (by omega), show Int.tmod c 128 = c % 128 from Int.tmod_eq_emod_of_nonneg hc.1, w64 (x := p * (c % 128)) (by omega) (by omega), w64 (by omega) (by omega)]
      rw [hv]
      clear hv
      rw [w64n (x := (i : Int) + 1) (i + 1) (by omega) (by omega), w64 (x := p * 128) (by omega) (by omega)]
      simp only [raw]
      by_cases hge : c < 128
      · rw [if_pos hge, if_neg (show ¬ 128 ≤ c by omega), rput_f _ k (by omega)]
        simp only [Option.bind_some, chk, show c % 128 = c by omega] at hm0 hm1 ⊢
        have hnum : Num (acc + p * c) := by
          refine ⟨by omega, ?_⟩
          omega
        rw [if_pos (by omega), if_pos (by omega), if_pos (by omega), bytes_f _ _ (by have := hnum.len; simp only [putR, if_pos hnum]; omega) k (by have := hnum.len; simp only [putR, if_pos hnum]; omega)]
        simp only [Option.bind_some, Int.toNat_natCast, putR, if_pos hnum, beq_iff_eq]
        split <;> simp
      · rw [if_neg hge, if_pos (show 128 ≤ c by omega), rget_l0 b a hb hm d k (i + 1) (acc + p * (c % 128)) (p * 128) (by omega) (by omega) (by omega) (by omega) (by omega) hpp]
        cases hr : raw d (b.drop (i + 1)) with
        | none => rfl
        | some q =>
          obtain ⟨m, j⟩ := q
          have hmm : acc + p * (c % 128) + p * 128 * m = acc + p * (c - 128 + 128 * m) := by
            rw [Int.add_assoc, Int.mul_assoc, ← Int.mul_add]
            congr 2; omega
          simp only [Option.map_some, chk, hmm, show i + 1 + j = i + (j + 1) by omega]
          split
          · congr 1; simp; omega
          · rfl
    · rw [if_neg (by omega), if_neg (by simp), List.drop_eq_nil_of_le (by omega)]
      simp only [raw, chk]

theorem rget_f (b : List Int) (a : Int) (hb : Byt b) (hm : b.length ≤ 140737488351232) (k : Nat) (hk : 40 ≤ k) : catchwordref01_Get.f k b a = some (decR b a) := by
  obtain ⟨k, rfl⟩ : ∃ m, k = m + 1 := ⟨k - 1, by omega⟩
  unfold catchwordref01_Get.f decR
  by_cases h0 : a < 0
  · rw [if_pos h0, if_pos (Or.inl h0)]
    simp [catchwordref01_Get.j0]
  · rw [if_neg h0]
    simp only [catchwordref01_Get.j0]
    by_cases h1 : (b.length : Int) < a
    · rw [if_pos (by simpa using h1), if_pos (.inr h1)]
    · rw [if_neg (by simpa using h1), if_neg (by omega)]
      obtain ⟨a, rfl⟩ : ∃ n : Nat, a = n := ⟨a.toNat, by omega⟩
      rw [rget_l0 b a hb hm 5 k a 0 1 (by omega) (by omega) (by omega) (by omega) (by omega) (by simp)]
      simp only [Int.toNat_natCast, Option.some.injEq]
      cases hr : raw 5 (b.drop a) with
      | none => rw [raw_none hr]; rfl
      | some q =>
        obtain ⟨n, j⟩ := q
        rw [raw_dec (hb.drop a) hr]
        simp only [chk, Int.zero_add, Int.one_mul, List.drop_take, show a + j - a = j by omega]
        split <;> rfl

end Go.Proofs.Ytamofikjjkpejaa.VDictPacks
