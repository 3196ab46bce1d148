/- What the reference's Put, Get, Rise and Read of layer 1 tell, for the functions printed for one law. -/
import Derived.Test.YtepmcdcncjimeaaQGetPostPacks
namespace Go.Proofs.Ytepmcdcncjimeaa.VPostPacks
set_option linter.unusedVariables false
set_option linter.unusedSimpArgs false
open Go Go.RowKit Go.Proofs.Ytepmcdcncjimeaa.PPostPacks Go.Proofs.YtepmcdcncjimeaaW.PrintWords Go.Proofs.YtepmcdcncjimeaaW.PrintLast Go.Proofs.YtepmcdcncjimeaaW.PrintMore Go.Proofs.Ytepmcdcncjimeaa.VSpec

theorem rput_l0 (n : Int) (o : List Int) (k : Nat) (h0 : Num n) (hl : o.length + (enc n).length ≤ 140737488355327) (hk : (enc n).length < k) : catchwordref01_Put.l0 k n o = some (o ++ enc n) := by
  obtain ⟨k, rfl⟩ : ∃ m, k = m + 1 := ⟨k - 1, by omega⟩
  have h00 := h0.1
  have h01 := h0.2
  by_cases hn : n < 128
  · simp only [catchwordref01_Put.l0]
    rw [enc_small hn] at hl ⊢
    simp only [List.length_cons, List.length_nil] at hl
    rw [if_neg (by omega), if_pos (by omega), show n % 256 = n by omega]
  · rw [enc_big (by omega)] at hk hl ⊢
    simp only [List.length_cons] at hk hl ⊢
    have ih := rput_l0 (n / 128) (o ++ [128 + n % 128]) k ⟨by omega, by omega⟩ (by simp; omega) (by omega)
    simp only [catchwordref01_Put.l0]
    rw [if_pos (by omega), if_pos (by omega), show Int.tdiv n 128 = n / 128 from Int.tdiv_eq_ediv_of_nonneg h00, show Int.tmod n 128 = n % 128 from Int.tmod_eq_emod_of_nonneg h00,
      w64 (x := n / 128) (by omega) (by omega), w64 (x := 128 + n % 128) (by omega) (by omega), show (128 + n % 128) % 256 = 128 + n % 128 by omega, ih, List.append_assoc]
    rfl
termination_by n.toNat
decreasing_by omega
theorem rput_f (n : Int) (k : Nat) (hk : 8 ≤ k) : catchwordref01_Put.f k n = some (putR n) := by
  obtain ⟨k, rfl⟩ : ∃ m, k = m + 1 := ⟨k - 1, by omega⟩
  unfold catchwordref01_Put.f putR
  by_cases h : Num n
  · have h1 := h.1
    have h2 := h.2
    have h5 := h.len
    rw [if_neg (by omega), if_pos h]
    simp only [catchwordref01_Put.j0]
    rw [if_neg (by simp; omega), rput_l0 n [] k h (by simp; omega) (by omega)]
    rfl
  · rw [if_neg h]
    unfold Num at h
    by_cases h1 : n < 0
    · rw [if_pos h1]; simp [catchwordref01_Put.j0]
    · rw [if_neg h1]
      simp only [catchwordref01_Put.j0]
      rw [if_pos (by simp; omega)]

/-- What Get's first bytes tell, once the bytes of the number found are held against what was read. -/
def chk (b : List Int) (a : Nat) (acc : Int) (by_ : Int) (i : Nat) : Option (Int × Nat) → Int × Int × Int
  | none => (0, 0, 5)
  | some (n, j) => if enc (acc + by_ * n) = (b.take (i + j)).drop a then (acc + by_ * n, (i + j : Int), 0) else (0, 0, 5)

theorem rget_l0 (b : List Int) (a : Nat) (hb : Byt b) (hm : b.length ≤ 140737488351232) : ∀ (d k i : Nat) (acc p : Int), d + i = 5 + a → a ≤ i → 2 * d + 20 < k → 0 ≤ acc → acc < p → p = 128 ^ (i - a) →
    catchwordref01_Get.l0 k b a acc p i = some (chk b a acc p i (raw d (b.drop i)))
  | 0, k, i, acc, p, hd, hi, hk, h0, h1, hp => by
    obtain ⟨k, rfl⟩ : ∃ m, k = m + 2 := ⟨k - 2, by omega⟩
    simp only [catchwordref01_Get.l0, catchwordref01_Get.j2, raw, chk]
    by_cases hl : i < b.length
    · rw [if_pos (by omega), if_neg (by rw [w64] <;> (try simp) <;> omega)]
    · rw [if_neg (by omega), if_neg (by simp)]
  | d + 1, k, i, acc, p, hd, hi, hk, h0, h1, hp => by
    obtain ⟨k, rfl⟩ : ∃ m, k = m + 2 := ⟨k - 2, by omega⟩
    simp only [catchwordref01_Get.l0, catchwordref01_Get.j2]
    by_cases hl : i < b.length
    · have hc : 0 ≤ rd b i ∧ rd b i < 256 := by
        have hmem : rd b i ∈ b.drop i := by rw [rd_at b i hl]; exact List.mem_cons_self ..
        exact hb _ (List.mem_of_mem_drop hmem)
      have hple : p ≤ 268435456 := by
        rw [hp]
        have : i - a = 0 ∨ i - a = 1 ∨ i - a = 2 ∨ i - a = 3 ∨ i - a = 4 := by omega
        rcases this with h | h | h | h | h <;> rw [h] <;> omega
      have hpp : p * 128 = 128 ^ (i + 1 - a) := by rw [hp, show i + 1 - a = (i - a) + 1 by omega, Int.pow_succ]
      have hp0 : 0 < p := by omega
      clear hp
      rw [if_pos (by omega), if_pos (by rw [w64] <;> (try simp) <;> omega), if_pos (by omega), if_pos (by omega), rd_at b i hl]
      generalize rd b i = c at hc
      have hm1 : p * (c % 128) ≤ p * 127 := Int.mul_le_mul_of_nonneg_left (by omega) (by omega)
      have hm0 : 0 ≤ p * (c % 128) := Int.mul_nonneg (by omega) (by omega)
      have hv : wrap64 (acc + wrap64 (p * (Int.tmod (wrap64 c) 128))) = acc + p * (c % 128) := by
        rw [w64 (x := c) (by omega) (by omega), show Int.tmod c 128 = c % 128 from Int.tmod_eq_emod_of_nonneg hc.1, w64 (x := p * (c % 128)) (by omega) (by omega), w64 (by omega) (by omega)]
      rw [hv]
      clear hv
      rw [w64n (x := (i : Int) + 1) (i + 1) (by omega) (by omega), w64 (x := p * 128) (by omega) (by omega)]
      simp only [raw]
      by_cases hge : c < 128
      · rw [if_pos hge, if_neg (show ¬ 128 ≤ c by omega), rput_f _ k (by omega)]
        simp only [Option.bind_some, chk, show c % 128 = c by omega] at hm0 hm1 ⊢
        have hnum : Num (acc + p * c) := by
          refine ⟨by omega, ?_⟩
          omega
        rw [if_pos (by omega), if_pos (by omega), if_pos (by omega), bytes_f _ _ (by have := hnum.len; simp only [putR, if_pos hnum]; omega) k (by have := hnum.len; simp only [putR, if_pos hnum]; omega)]
        simp only [Option.bind_some, Int.toNat_natCast, putR, if_pos hnum, beq_iff_eq]
        split <;> simp
      · rw [if_neg hge, if_pos (show 128 ≤ c by omega), rget_l0 b a hb hm d k (i + 1) (acc + p * (c % 128)) (p * 128) (by omega) (by omega) (by omega) (by omega) (by omega) hpp]
        cases hr : raw d (b.drop (i + 1)) with
        | none => rfl
        | some q =>
          obtain ⟨m, j⟩ := q
          have hmm : acc + p * (c % 128) + p * 128 * m = acc + p * (c - 128 + 128 * m) := by
            rw [Int.add_assoc, Int.mul_assoc, ← Int.mul_add]
            congr 2; omega
          simp only [Option.map_some, chk, hmm, show i + 1 + j = i + (j + 1) by omega]
          split
          · congr 1; simp; omega
          · rfl
    · rw [if_neg (by omega), if_neg (by simp), List.drop_eq_nil_of_le (by omega)]
      simp only [raw, chk]

theorem rget_f (b : List Int) (a : Int) (hb : Byt b) (hm : b.length ≤ 140737488351232) (k : Nat) (hk : 40 ≤ k) : catchwordref01_Get.f k b a = some (decR b a) := by
  obtain ⟨k, rfl⟩ : ∃ m, k = m + 1 := ⟨k - 1, by omega⟩
  unfold catchwordref01_Get.f decR
  by_cases h0 : a < 0
  · rw [if_pos h0, if_pos (Or.inl h0)]
    simp [catchwordref01_Get.j0]
  · rw [if_neg h0]
    simp only [catchwordref01_Get.j0]
    by_cases h1 : (b.length : Int) < a
    · rw [if_pos (by simpa using h1), if_pos (.inr h1)]
    · rw [if_neg (by simpa using h1), if_neg (by omega)]
      obtain ⟨a, rfl⟩ : ∃ n : Nat, a = n := ⟨a.toNat, by omega⟩
      rw [rget_l0 b a hb hm 5 k a 0 1 (by omega) (by omega) (by omega) (by omega) (by omega) (by simp)]
      simp only [Int.toNat_natCast, Option.some.injEq]
      cases hr : raw 5 (b.drop a) with
      | none => rw [raw_none hr]; rfl
      | some q =>
        obtain ⟨n, j⟩ := q
        rw [raw_dec (hb.drop a) hr]
        simp only [chk, Int.zero_add, Int.one_mul, List.drop_take, show a + j - a = j by omega]
        split <;> rfl

theorem rread_l0 (b : List Int) (hb : Byt b) (hm : b.length ≤ 140737488351232) (many : Nat) (hmm : many ≤ 2000) : ∀ (d k i a : Nat) (o : List Int) (last : Int), d = many - i → i ≤ many → a ≤ b.length → d + 50 < k → o.length = i → -1 ≤ last → last ≤ 34359738367 →
    (i = 0 → last = -1) → (0 < i → rd o ((i - 1 : Nat) : Int) = last ∧ 0 ≤ last) →
    catchwordref01_Read.l0 k b a many o i = some (match readS d last (b.drop a) with | none => ([], 0, 5) | some (l, q) => (o ++ l, (a + q : Int), 0))
  | 0, k, i, a, o, last, hd, hi, ha, hk, ho, h0, h1, z0, z1 => by
    obtain ⟨k, rfl⟩ : ∃ m, k = m + 1 := ⟨k - 1, by omega⟩
    simp only [catchwordref01_Read.l0, readS]
    rw [if_neg (by omega)]
    simp
  | d + 1, k, i, a, o, last, hd, hi, ha, hk, ho, h0, h1, z0, z1 => by
    obtain ⟨k, rfl⟩ : ∃ m, k = m + 1 := ⟨k - 1, by omega⟩
    simp only [catchwordref01_Read.l0, readS]
    rw [if_pos (by omega), rget_f b a hb hm k (by omega), decR_at b a ha]
    cases hc : dec 5 (b.drop a) true with
    | none =>
      simp only [Option.bind_some]
      by_cases hi0 : i = 0
      · rw [if_neg (by omega), if_neg (by decide)]
      · rw [if_pos (by omega), w64n (x := (i : Int) - 1) (i - 1) (by omega) (by omega), if_pos (by omega), if_pos (by omega), if_neg (by decide)]
    | some p =>
      obtain ⟨s, j⟩ := p
      obtain ⟨a1, a2, a3, a4, a5, a6, _⟩ := enc_dec 5 (b.drop a) true s j (hb.drop a) hc
      simp only [List.length_drop] at a4
      simp only [Option.bind_some, if_true]
      have ih : last + s + 1 ≤ 34359738367 → catchwordref01_Read.l0 k b ((a : Int) + (j : Int)) many (o ++ [last + s + 1]) ((i + 1 : Nat) : Int) = some (match (readS d (last + s + 1) ((b.drop a).drop j)).map (fun p => ((last + s + 1) :: p.1, j + p.2)) with | none => ([], 0, 5) | some (l, q) => (o ++ l, (a + q : Int), 0)) := by
        intro hn
        rw [show (a : Int) + (j : Int) = ((a + j : Nat) : Int) by omega,
          rread_l0 b hb hm many hmm d k (i + 1) (a + j) (o ++ [last + s + 1]) (last + s + 1) (by omega) (by omega) (by omega) (by omega) (by simp [ho]) (by omega) (by omega) (by omega) (fun _ => ⟨by simp [rd, ← ho, List.getD_eq_getElem?_getD], by omega⟩), List.drop_drop]
        cases readS d (last + s + 1) (b.drop (a + j)) with
        | none => rfl
        | some p =>
          obtain ⟨l, q⟩ := p
          simp only [Option.map_some, List.append_assoc, List.cons_append, List.nil_append, Option.some.injEq, Prod.mk.injEq, true_and, and_true]
          omega
      by_cases hi0 : i = 0
      · have hl := z0 hi0
        rw [if_neg (by omega)]
        have hs : s = last + s + 1 := by omega
        by_cases hn : last + s + 1 ≤ 34359738367
        · rw [if_neg (by omega), if_pos hn, if_pos (by omega), w64n (x := (i : Int) + 1) (i + 1) (by omega) (by omega)]
          have := ih hn
          rw [← hs] at this
          rw [this, ← hs]
        · rw [if_pos (by omega), if_neg hn]
      · obtain ⟨z2, z3⟩ := z1 (by omega)
        rw [if_pos (by omega), w64n (x := (i : Int) - 1) (i - 1) (by omega) (by omega), if_pos (by omega), if_pos (by omega), z2, w64 (x := s + last) (by omega) (by omega), w64 (x := s + last + 1) (by omega) (by omega), show s + last + 1 = last + s + 1 by omega]
        by_cases hn : last + s + 1 ≤ 34359738367
        · rw [if_neg (by omega), if_pos hn, if_pos (by omega), w64n (x := (i : Int) + 1) (i + 1) (by omega) (by omega), ih hn]
        · rw [if_pos (by omega), if_neg hn]
theorem rread_f (b : List Int) (a : Int) (hb : Byt b) (hm : b.length ≤ 140737488351232) (k : Nat) (hk : 2060 ≤ k) : catchwordref01_Read.f k b a = some (readR b a) := by
  unfold catchwordref01_Read.f readR
  rw [rget_f b a hb hm k (by omega)]
  unfold decR
  by_cases h : a < 0 ∨ (b.length : Int) < a
  · rw [if_pos h, if_pos h]
    simp
  · rw [if_neg h, if_neg h]
    obtain ⟨a, rfl⟩ : ∃ n : Nat, a = n := ⟨a.toNat, by omega⟩
    simp only [Int.toNat_natCast]
    cases hc : dec 5 (b.drop a) true with
    | none => simp
    | some p =>
      obtain ⟨m, j⟩ := p
      obtain ⟨a1, a2, a3, a4, a5, a6, _⟩ := enc_dec 5 (b.drop a) true m j (hb.drop a) hc
      simp only [List.length_drop] at a4
      simp only [Option.bind_some, if_true]
      by_cases h2 : m > 2000
      · rw [if_pos h2, if_pos h2]
      · rw [if_neg h2, if_neg h2]
        obtain ⟨m, rfl⟩ : ∃ n : Nat, m = n := ⟨m.toNat, by omega⟩
        have hr := rread_l0 b hb hm m (by omega) m k 0 (a + j) [] (-1) (by omega) (by omega) (by omega) (by omega) rfl (by omega) (by omega) (fun _ => rfl) (fun h => by omega)
        simp only [Int.natCast_add] at hr
        rw [show ((0 : Nat) : Int) = 0 from rfl] at hr
        rw [hr]
        simp only [Int.toNat_natCast]
        cases readS m (-1) (b.drop (a + j)) with
        | none => rfl
        | some p => simp

theorem rrising_l0 (l : List Int) (hm : l.length ≤ 140737488355328) : ∀ (d k i : Nat) (last : Int), d = l.length - i → i ≤ l.length → d < k → (i = 0 → last = -1) → (0 < i → rd l ((i - 1 : Nat) : Int) = last ∧ 0 ≤ last) →
    catchwordref01_Rising.l0 k l i = some (ris last (l.drop i) && decide (l.length ≤ 2000))
  | 0, k, i, last, hd, hi, hk, h0, h1 => by
    obtain ⟨k, rfl⟩ : ∃ m, k = m + 1 := ⟨k - 1, by omega⟩
    simp only [catchwordref01_Rising.l0]
    rw [if_neg (by omega), List.drop_eq_nil_of_le (by omega)]
    simp [ris]; omega
  | d + 1, k, i, last, hd, hi, hk, h0, h1 => by
    obtain ⟨k, rfl⟩ : ∃ m, k = m + 1 := ⟨k - 1, by omega⟩
    simp only [catchwordref01_Rising.l0]
    rw [if_pos (by omega), if_pos (by omega), w64n (x := (i : Int) + 1) (i + 1) (by omega) (by omega), rd_at l i (by omega)]
    have ih : rd l i = rd l i → 0 ≤ rd l i → catchwordref01_Rising.l0 k l ((i + 1 : Nat) : Int) = some (ris (rd l i) (l.drop (i + 1)) && decide (l.length ≤ 2000)) := fun _ hh =>
      rrising_l0 l hm d k (i + 1) (rd l i) (by omega) (by omega) (by omega) (by omega) (fun _ => ⟨by simp, hh⟩)
    simp only [ris]
    generalize rd l i = n at ih
    by_cases hn0 : n < 0
    · rw [if_pos hn0]
      have : ¬ last < n := by
        by_cases hi0 : i = 0
        · have := h0 hi0; omega
        · have := h1 (by omega); omega
      simp [this]
    · rw [if_neg hn0]
      by_cases hn1 : n > 34359738367
      · rw [if_pos hn1]
        simp [show ¬ n ≤ 34359738367 by omega]
      · rw [if_neg hn1]
        by_cases hi0 : i = 0
        · rw [if_neg (by omega), ih rfl (by omega)]
          have := h0 hi0
          rw [show decide (last < n) = true by simp; omega, show decide (n ≤ 34359738367) = true by simp; omega]
          simp
        · obtain ⟨h4, h5⟩ := h1 (by omega)
          rw [if_pos (by omega), w64n (x := (i : Int) - 1) (i - 1) (by omega) (by omega), if_pos (by omega), if_pos (by omega), h4]
          by_cases hle : n ≤ last
          · rw [if_pos hle, show decide (last < n) = false by simp; omega]
            simp
          · rw [if_neg hle, ih rfl (by omega), show decide (last < n) = true by simp; omega, show decide (n ≤ 34359738367) = true by simp; omega]
            simp
theorem rrising_f (l : List Int) (hm : l.length ≤ 140737488355328) (k : Nat) (hk : l.length < k) : catchwordref01_Rising.f k l = some (ris (-1) l && decide (l.length ≤ 2000)) := by
  unfold catchwordref01_Rising.f
  have := rrising_l0 l hm l.length k 0 (-1) (by omega) (by omega) hk (fun _ => rfl) (fun h => by omega)
  simpa using this

theorem rrise_l0 (l : List Int) (hl : l.length ≤ 2000) : ∀ (d k i : Nat) (o : List Int) (last : Int), d = l.length - i → i ≤ l.length → d + 20 < k → o.length + 5 * d ≤ 20000 → -1 ≤ last → last ≤ 34359738367 → ris last (l.drop i) = true → (i = 0 → last = -1) → (0 < i → rd l ((i - 1 : Nat) : Int) = last ∧ 0 ≤ last) →
    catchwordref01_Rise.l0 k l o i = some (o ++ encAll (steps last (l.drop i)), 0)
  | 0, k, i, o, last, hd, hi, hk, ho, h0, h1, hr, z0, z1 => by
    obtain ⟨k, rfl⟩ : ∃ m, k = m + 1 := ⟨k - 1, by omega⟩
    simp only [catchwordref01_Rise.l0]
    rw [if_neg (by omega), List.drop_eq_nil_of_le (by omega)]
    simp [steps, encAll]
  | d + 1, k, i, o, last, hd, hi, hk, ho, h0, h1, hr, z0, z1 => by
    obtain ⟨k, rfl⟩ : ∃ m, k = m + 1 := ⟨k - 1, by omega⟩
    simp only [catchwordref01_Rise.l0]
    rw [rd_at l i (by omega)] at hr ⊢
    obtain ⟨r1, r2, r3⟩ := ris_cons.1 hr
    have ih : ∀ o' : List Int, o'.length + 5 * d ≤ 20000 → catchwordref01_Rise.l0 k l o' ((i + 1 : Nat) : Int) = some (o' ++ encAll (steps (rd l i) (l.drop (i + 1))), 0) := fun o' ho' =>
      rrise_l0 l hl d k (i + 1) o' (rd l i) (by omega) (by omega) (by omega) ho' (by omega) r2 r3 (by omega) (fun _ => ⟨by simp, by omega⟩)
    generalize rd l i = n at *
    have hnum : Num (n - last - 1) := ⟨by omega, by omega⟩
    have h5 := hnum.len
    rw [if_pos (by omega), if_pos (by omega), w64n (x := (i : Int) + 1) (i + 1) (by omega) (by omega)]
    by_cases hi0 : i = 0
    · have hl := z0 hi0
      have he : n - last - 1 = n := by omega
      rw [he] at hnum h5
      rw [if_neg (by omega), rput_f n k (by omega)]
      simp only [Option.bind_some, putR]
      rw [if_pos hnum, if_pos (by omega), ih _ (by simp; omega)]
      simp [steps, encAll_cons, he]
    · obtain ⟨z2, z3⟩ := z1 (by omega)
      rw [if_pos (by omega), w64n (x := (i : Int) - 1) (i - 1) (by omega) (by omega), if_pos (by omega), if_pos (by omega), z2, w64 (x := n - last) (by omega) (by omega), w64 (x := n - last - 1) (by omega) (by omega), rput_f _ k (by omega)]
      simp only [Option.bind_some, putR]
      rw [if_pos hnum, if_pos (by omega), ih _ (by simp; omega)]
      simp [steps, encAll_cons]
theorem rrise_f (l : List Int) (hm : l.length ≤ 140737488355328) (k : Nat) (hk : l.length + 100 < k) : catchwordref01_Rise.f k l = some (riseR l) := by
  unfold catchwordref01_Rise.f riseR
  rw [rrising_f l hm k (by omega)]
  by_cases h : ris (-1) l = true ∧ l.length ≤ 2000
  · rw [if_pos h]
    obtain ⟨h1, h2⟩ := h
    have hlen : Num (l.length : Int) := ⟨by omega, by omega⟩
    have h5 := hlen.len
    simp only [Option.bind_some, h1, h2, decide_true, Bool.and_self, if_true]
    rw [rput_f _ k (by omega)]
    simp only [Option.bind_some, putR]
    rw [if_pos hlen]
    have := rrise_l0 l h2 l.length k 0 (enc l.length) (-1) (by omega) (by omega) (by omega) (by omega) (by omega) (by omega) (by simpa using h1) (fun _ => rfl) (fun h => by omega)
    simpa using this
  · rw [if_neg h]
    simp only [Option.bind_some]
    rw [if_neg (by simpa using h)]

end Go.Proofs.Ytepmcdcncjimeaa.VPostPacks
