/- What the program's Get, Read and the reference's Bytes tell, for the functions printed for one law. -/
import Derived.Test.YtepmcdcncjimeaaPPostPacksx
import Derived.Test.YtepmcdcncjimeaaVListPostPacksU
namespace Go.Proofs.Ytepmcdcncjimeaa.VPostPacks
set_option linter.unusedVariables false
set_option linter.unusedSimpArgs false
open Go Go.RowKit Go.Proofs.Ytepmcdcncjimeaa.PPostPacks Go.Proofs.YtepmcdcncjimeaaW.PrintWords Go.Proofs.YtepmcdcncjimeaaW.PrintLast Go.Proofs.YtepmcdcncjimeaaW.PrintMore Go.Proofs.Ytepmcdcncjimeaa.VSpec

theorem or_high (acc y : Int) (j : Nat) (h0 : 0 ≤ acc) (h1 : acc < 2 ^ j) (h2 : 0 ≤ y) (h3 : y % 2 ^ j = 0) (h4 : y < 2 ^ 63) (h5 : j ≤ 63) : Go.bits .or .i64 acc y = acc + y := by
  have hw : ∀ n : Int, 0 ≤ n → n < 2 ^ 63 → IntKind.i64.wrap n = n := fun n h h' => by rw [IntKind.wrap_i64]; omega
  have hcm : Go.bits .or .i64 acc y = Go.bits .or .i64 y acc := by simp only [Go.bits, BitVec.or_comm]
  have hle : (2 : Int) ^ j ≤ 2 ^ 63 := by
    have := Nat.pow_le_pow_right (n := 2) (by decide) h5
    exact_mod_cast this
  rw [hcm, bits_join .i64 63 (by decide) hw j y acc h2 h3 h4 h0 h1 (Int.lt_of_lt_of_le h1 hle), Int.add_comm]

theorem or_step (acc c : Int) (i : Nat) (hi : i < 5) (h0 : 0 ≤ acc) (h1 : acc < 128 ^ i) (hc0 : 0 ≤ c) (hc1 : c < 128) :
    Go.bits .or .i64 acc (shl .i64 (wrap64 c) (wrap64 (7 * (i : Int)))) = acc + 128 ^ i * c := by
  have hs : shl .i64 (wrap64 c) (wrap64 (7 * (i : Int))) = 128 ^ i * c := by
    rw [w64 (x := c) (by omega) (by omega), w64 (x := 7 * (i : Int)) (by omega) (by omega)]
    unfold shl
    rw [IntKind.wrap_i64]
    have : i = 0 ∨ i = 1 ∨ i = 2 ∨ i = 3 ∨ i = 4 := by omega
    rcases this with rfl | rfl | rfl | rfl | rfl <;> simp [IntKind.bits] <;> omega
  rw [hs]
  have : i = 0 ∨ i = 1 ∨ i = 2 ∨ i = 3 ∨ i = 4 := by omega
  rcases this with rfl | rfl | rfl | rfl | rfl
  · exact or_high _ _ 0 h0 (by simpa using h1) (by omega) (by omega) (by omega) (by omega)
  · exact or_high _ _ 7 h0 (by omega) (by omega) (by omega) (by omega) (by omega)
  · exact or_high _ _ 14 h0 (by omega) (by omega) (by omega) (by omega) (by omega)
  · exact or_high _ _ 21 h0 (by omega) (by omega) (by omega) (by omega) (by omega)
  · exact or_high _ _ 28 h0 (by omega) (by omega) (by omega) (by omega) (by omega)

theorem get_l0 (b : List Int) (a : Nat) (hb : Byt b) (ha : a ≤ b.length) (hm : b.length ≤ 140737488351232) : ∀ (d k i : Nat) (acc : Int), d = 5 - i → i ≤ 5 → d < k → 0 ≤ acc → acc < 128 ^ i →
    vint_Get.l0 k b a acc (mn 5 ((b.length : Int) - a)) i = some (match dec d (b.drop (a + i)) (i == 0) with | none => (0, 0, 5) | some (n, j) => (acc + 128 ^ i * n, (a + i + j : Int), 0))
  | 0, k, i, acc, hd, hi, hk, h0, h1 => by
    obtain ⟨k, rfl⟩ : ∃ m, k = m + 1 := ⟨k - 1, by omega⟩
    simp only [vint_Get.l0, dec]
    rw [if_neg (by unfold mn; split <;> omega)]
  | d + 1, k, i, acc, hd, hi, hk, h0, h1 => by
    obtain ⟨k, rfl⟩ : ∃ m, k = m + 1 := ⟨k - 1, by omega⟩
    simp only [vint_Get.l0]
    by_cases hl : a + i < b.length
    · have hb' : 0 ≤ rd b ((a + i : Nat) : Int) ∧ rd b ((a + i : Nat) : Int) < 256 := by
        have hmem : rd b ((a + i : Nat) : Int) ∈ b.drop (a + i) := by rw [rd_at b (a + i) hl]; exact List.mem_cons_self ..
        exact hb _ (List.mem_of_mem_drop hmem)
      rw [if_pos (by unfold mn; split <;> omega), w64n (x := (a : Int) + i) (a + i) (by omega) (by omega), if_pos (by omega), if_pos (by omega), rd_at b (a + i) hl]
      generalize rd b ((a + i : Nat) : Int) = c at hb'
      rw [if_pos (by rw [w64] <;> omega), show Int.tmod c 128 = c % 128 from Int.tmod_eq_emod_of_nonneg hb'.1, or_step acc (c % 128) i (by omega) h0 h1 (by omega) (by omega),
        w64n (x := (i : Int) + 1) (i + 1) (by omega) (by omega), w64n (x := ((a + i : Nat) : Int) + 1) (a + i + 1) (by omega) (by omega)]
      simp only [dec]
      have hpp : (128 : Int) ^ (i + 1) = 128 ^ i * 128 := Int.pow_succ ..
      have hp : (0 : Int) < 128 ^ i := Int.pow_pos (by omega)
      generalize hP : (128 : Int) ^ i = P at h1 hp hpp
      by_cases hge : c ≥ 128
      · have hm1 : P * (c % 128) ≤ P * 127 := Int.mul_le_mul_of_nonneg_left (by omega) (by omega)
        have hm0 : 0 ≤ P * (c % 128) := Int.mul_nonneg (by omega) (by omega)
        rw [if_pos hge, if_pos (show 128 ≤ c from hge), get_l0 b a hb ha hm d k (i + 1) (acc + P * (c % 128)) (by omega) (by omega) (by omega) (by omega) (by omega)]
        rw [show ((i + 1 == 0) = false) by simp, show (a + (i + 1)) = a + i + 1 by omega]
        cases hg : dec d (b.drop (a + i + 1)) false with
        | none => rfl
        | some p =>
          obtain ⟨m, j⟩ := p
          simp only [Option.map_some, Option.some.injEq, Prod.mk.injEq, and_true]
          refine ⟨?_, by omega⟩
          rw [hpp, Int.add_assoc, Int.mul_assoc, ← Int.mul_add]
          congr 2; omega
      · rw [if_neg hge, if_neg (show ¬ 128 ≤ c by omega)]
        by_cases hz : c = 0
        · subst hz
          by_cases hi0 : i = 0
          · subst hi0
            simp
          · rw [if_pos rfl, if_pos (by omega), if_pos ⟨rfl, by simp [hi0]⟩]
        · rw [if_neg hz, if_neg (fun h => hz h.1), show c % 128 = c by omega]
          simp
    · rw [if_neg (by unfold mn; split <;> omega), List.drop_eq_nil_of_le (by omega)]
      simp only [dec]

theorem get_f (b : List Int) (a : Int) (hb : Byt b) (hm : b.length ≤ 140737488351232) (k : Nat) (hk : 10 ≤ k) : vint_Get.f k b a = some (decR b a) := by
  obtain ⟨k, rfl⟩ : ∃ m, k = m + 1 := ⟨k - 1, by omega⟩
  unfold vint_Get.f decR
  by_cases h0 : a < 0
  · rw [if_pos h0, if_pos (Or.inl h0)]
    simp [vint_Get.j0]
  · rw [if_neg h0]
    simp only [vint_Get.j0]
    by_cases h1 : (b.length : Int) < a
    · rw [if_pos (by simpa using h1), if_pos (.inr h1)]
    · rw [if_neg (by simpa using h1), if_neg (by omega)]
      obtain ⟨a, rfl⟩ : ∃ n : Nat, a = n := ⟨a.toNat, by omega⟩
      rw [w64 (x := (b.length : Int) - ((a : Nat) : Int)) (by omega) (by omega)]
      have := get_l0 b a hb (by omega) hm 5 k 0 0 rfl (by omega) (by omega) (by omega) (by omega)
      simp only [Int.natCast_zero] at this
      rw [this]
      simp only [Nat.add_zero, beq_self_eq_true, Option.some.injEq, Int.toNat_natCast]
      cases dec 5 (List.drop a b) true with
      | none => rfl
      | some p => obtain ⟨n, j⟩ := p; simp

/-- Two lists of bytes are the same. -/
theorem bytes_l0 (x y : List Int) (he : x.length = y.length) (hm : x.length ≤ 140737488355328) : ∀ (d k i : Nat), d = x.length - i → i ≤ x.length → d < k → catchwordref01_Bytes.l0 k x y i = some (x.drop i == y.drop i)
  | 0, k, i, hd, hi, hk => by
    obtain ⟨k, rfl⟩ : ∃ m, k = m + 1 := ⟨k - 1, by omega⟩
    simp only [catchwordref01_Bytes.l0]
    rw [if_neg (by omega), List.drop_eq_nil_of_le (by omega), List.drop_eq_nil_of_le (by omega)]
    rfl
  | d + 1, k, i, hd, hi, hk => by
    obtain ⟨k, rfl⟩ : ∃ m, k = m + 1 := ⟨k - 1, by omega⟩
    simp only [catchwordref01_Bytes.l0]
    rw [if_pos (by omega), if_pos (by omega), if_pos (by omega), w64n (x := (i : Int) + 1) (i + 1) (by omega) (by omega), bytes_l0 x y he hm d k (i + 1) (by omega) (by omega) (by omega),
      rd_at x i (by omega), rd_at y i (by omega), List.cons_beq_cons]
    split
    · rename_i h; rw [h]; simp
    · rename_i h; simp [h]
theorem bytes_f (x y : List Int) (hm : x.length ≤ 140737488355328) (k : Nat) (hk : x.length < k) : catchwordref01_Bytes.f k x y = some (x == y) := by
  unfold catchwordref01_Bytes.f
  by_cases he : x.length = y.length
  · rw [if_pos (by omega)]
    have := bytes_l0 x y he hm x.length k 0 (by omega) (by omega) hk
    simpa using this
  · rw [if_neg (by omega)]
    congr 1
    symm
    rw [beq_eq_false_iff_ne]
    rintro rfl
    exact he rfl

theorem decR_at (b : List Int) (a : Nat) (h : a ≤ b.length) : decR b a = match dec 5 (b.drop a) true with
    | none => (0, 0, 5)
    | some (n, k) => (n, (a + k : Int), 0) := by
  unfold decR
  rw [if_neg (by omega)]
  rfl
theorem read_l0 (b : List Int) (hb : Byt b) (hm : b.length ≤ 140737488351232) (many : Nat) (hmm : many ≤ 2000) : ∀ (d k i a : Nat) (o : List Int) (last : Int), d = many - i → i ≤ many → a ≤ b.length → d + 10 < k → o.length + d ≤ 2000 → -1 ≤ last → last ≤ 34359738367 →
    vint_Read.l0 k b a o last many i = some (match readS d last (b.drop a) with | none => ([], 0, 5) | some (l, q) => (o ++ l, (a + q : Int), 0))
  | 0, k, i, a, o, last, hd, hi, ha, hk, ho, h0, h1 => by
    obtain ⟨k, rfl⟩ : ∃ m, k = m + 1 := ⟨k - 1, by omega⟩
    simp only [vint_Read.l0, readS]
    rw [if_neg (by omega)]
    simp
  | d + 1, k, i, a, o, last, hd, hi, ha, hk, ho, h0, h1 => by
    obtain ⟨k, rfl⟩ : ∃ m, k = m + 1 := ⟨k - 1, by omega⟩
    simp only [vint_Read.l0, readS]
    rw [if_pos (by omega), get_f b a hb hm k (by omega), decR_at b a ha]
    cases hc : dec 5 (b.drop a) true with
    | none => simp [may_f]
    | some p =>
      obtain ⟨s, j⟩ := p
      obtain ⟨a1, a2, a3, a4, a5, a6, _⟩ := enc_dec 5 (b.drop a) true s j (hb.drop a) hc
      simp only [List.length_drop] at a4
      simp only [Option.bind_some, if_true]
      rw [w64 (x := s + 1) (by omega) (by omega), w64 (x := last + (s + 1)) (by omega) (by omega), may_f]
      simp only [Option.bind_some, decide_eq_true_eq]
      by_cases hn : last + s + 1 ≤ 34359738367
      · rw [if_pos (show Num (last + (s + 1)) from ⟨by omega, by omega⟩), if_pos hn, if_pos (by omega), w64n (x := (i : Int) + 1) (i + 1) (by omega) (by omega), show (a : Int) + (j : Int) = ((a + j : Nat) : Int) by omega,
          read_l0 b hb hm many hmm d k (i + 1) (a + j) (o ++ [last + (s + 1)]) (last + (s + 1)) (by omega) (by omega) (by omega) (by omega) (by simp; omega) (by omega) (by omega), List.drop_drop, show last + (s + 1) = last + s + 1 by omega]
        cases readS d (last + s + 1) (b.drop (a + j)) with
        | none => rfl
        | some p =>
          obtain ⟨l, q⟩ := p
          simp only [Option.map_some, List.append_assoc, List.cons_append, List.nil_append, Option.some.injEq, Prod.mk.injEq, true_and, and_true]
          omega
      · rw [if_neg (fun h : Num (last + (s + 1)) => by have := h.2; omega), if_neg hn]
theorem read_f (b : List Int) (a : Int) (hb : Byt b) (hm : b.length ≤ 140737488351232) (k : Nat) (hk : 2020 ≤ k) : vint_Read.f k b a = some (readR b a) := by
  unfold vint_Read.f readR
  rw [get_f b a hb hm k (by omega)]
  unfold decR
  by_cases h : a < 0 ∨ (b.length : Int) < a
  · rw [if_pos h, if_pos h]
    simp
  · rw [if_neg h, if_neg h]
    obtain ⟨a, rfl⟩ : ∃ n : Nat, a = n := ⟨a.toNat, by omega⟩
    simp only [Int.toNat_natCast]
    cases hc : dec 5 (b.drop a) true with
    | none => simp
    | some p =>
      obtain ⟨m, j⟩ := p
      obtain ⟨a1, a2, a3, a4, a5, a6, _⟩ := enc_dec 5 (b.drop a) true m j (hb.drop a) hc
      simp only [List.length_drop] at a4
      simp only [Option.bind_some, if_true]
      by_cases h2 : m > 2000
      · rw [if_pos h2, if_pos h2]
      · rw [if_neg h2, if_neg h2]
        obtain ⟨m, rfl⟩ : ∃ n : Nat, m = n := ⟨m.toNat, by omega⟩
        have hr := read_l0 b hb hm m (by omega) m k 0 (a + j) [] (-1) (by omega) (by omega) (by omega) (by omega) (by simp; omega) (by omega) (by omega)
        simp only [Int.natCast_add] at hr
        rw [show ((0 : Nat) : Int) = 0 from rfl] at hr
        rw [hr]
        simp only [Int.toNat_natCast]
        cases readS m (-1) (b.drop (a + j)) with
        | none => rfl
        | some p => simp

end Go.Proofs.Ytepmcdcncjimeaa.VPostPacks
