/- What the program's Read and Rise, and the reference's Ints, tell, for the functions printed for one law. -/
import Derived.Test.YtmgmpdlceepjdaaVGetVintRises
import Derived.Test.YtmgmpdlceepjdaaVList
namespace Go.Proofs.Ytmgmpdlceepjdaa.VVintRises
open Go Go.RowKit Go.Proofs.Ytmgmpdlceepjdaa.PVintRises Go.Proofs.YtmgmpdlceepjdaaW.PrintWords Go.Proofs.YtmgmpdlceepjdaaW.PrintLast Go.Proofs.YtmgmpdlceepjdaaW.PrintMore Go.Proofs.Ytmgmpdlceepjdaa.VSpec

theorem ints_l0 (x y : List Int) (he : x.length = y.length) (hm : x.length ≤ 140737488355328) : ∀ (d k i : Nat), d = x.length - i → i ≤ x.length → d < k → catchwordref01_Ints.l0 k x y i = some (x.drop i == y.drop i)
  | 0, k, i, hd, hi, hk => by
    obtain ⟨k, rfl⟩ : ∃ m, k = m + 1 := ⟨k - 1, by omega⟩
    simp only [catchwordref01_Ints.l0]
    rw [if_neg (by omega), List.drop_eq_nil_of_le (by omega), List.drop_eq_nil_of_le (by omega)]
    rfl
  | d + 1, k, i, hd, hi, hk => by
    obtain ⟨k, rfl⟩ : ∃ m, k = m + 1 := ⟨k - 1, by omega⟩
    simp only [catchwordref01_Ints.l0]
    rw [if_pos (by omega), if_pos (by omega), if_pos (by omega), w64n (x := (i : Int) + 1) (i + 1) (by omega) (by omega), ints_l0 x y he hm d k (i + 1) (by omega) (by omega) (by omega),
      rd_at x i (by omega), rd_at y i (by omega), List.cons_beq_cons]
    split
    · rename_i h; rw [h]; simp
    · rename_i h; simp [h]
theorem ints_f (x y : List Int) (hm : x.length ≤ 140737488355328) (k : Nat) (hk : x.length < k) : catchwordref01_Ints.f k x y = some (x == y) := by
  unfold catchwordref01_Ints.f
  by_cases he : x.length = y.length
  · rw [if_pos (by omega)]
    have := ints_l0 x y he hm x.length k 0 (by omega) (by omega) hk
    simpa using this
  · rw [if_neg (by omega)]
    congr 1
    symm
    rw [beq_eq_false_iff_ne]
    rintro rfl
    exact he rfl

theorem decR_at (b : List Int) (a : Nat) (h : a ≤ b.length) : decR b a = match dec 5 (b.drop a) true with
    | none => (0, 0, 5)
    | some (n, k) => (n, (a + k : Int), 0) := by
  unfold decR
  rw [if_neg (by omega)]
  rfl
theorem read_l0 (b : List Int) (hb : Byt b) (hm : b.length ≤ 140737488351232) (many : Nat) (hmm : many ≤ 2000) : ∀ (d k i a : Nat) (o : List Int) (last : Int), d = many - i → i ≤ many → a ≤ b.length → d + 10 < k → o.length + d ≤ 2000 → -1 ≤ last → last ≤ 34359738367 →
    vint_Read.l0 k b a o last many i = some (match readS d last (b.drop a) with | none => ([], 0, 5) | some (l, q) => (o ++ l, (a + q : Int), 0))
  | 0, k, i, a, o, last, hd, hi, ha, hk, ho, h0, h1 => by
    obtain ⟨k, rfl⟩ : ∃ m, k = m + 1 := ⟨k - 1, by omega⟩
    simp only [vint_Read.l0, readS]
    rw [if_neg (by omega)]
    simp
  | d + 1, k, i, a, o, last, hd, hi, ha, hk, ho, h0, h1 => by
    obtain ⟨k, rfl⟩ : ∃ m, k = m + 1 := ⟨k - 1, by omega⟩
    simp only [vint_Read.l0, readS]
    rw [if_pos (by omega), get_f b a hb hm k (by omega), decR_at b a ha]
    cases hc : dec 5 (b.drop a) true with
    | none => simp [may_f]
    | some p =>
      obtain ⟨s, j⟩ := p
      obtain ⟨a1, a2, a3, a4, a5, a6, _⟩ := enc_dec 5 (b.drop a) true s j (hb.drop a) hc
      simp only [List.length_drop] at a4
      simp only [Option.bind_some, if_true]
      rw [w64 (x := s + 1) (by omega) (by omega), w64 (x := last + (s + 1)) (by omega) (by omega), may_f]
      simp only [Option.bind_some, decide_eq_true_eq]
      by_cases hn : last + s + 1 ≤ 34359738367
      · rw [if_pos (show Num (last + (s + 1)) from ⟨by omega, by omega⟩), if_pos hn, if_pos (by omega), w64n (x := (i : Int) + 1) (i + 1) (by omega) (by omega), show (a : Int) + (j : Int) = ((a + j : Nat) : Int) by omega,
          read_l0 b hb hm many hmm d k (i + 1) (a + j) (o ++ [last + (s + 1)]) (last + (s + 1)) (by omega) (by omega) (by omega) (by omega) (by simp; omega) (by omega) (by omega), List.drop_drop, show last + (s + 1) = last + s + 1 by omega]
        cases readS d (last + s + 1) (b.drop (a + j)) with
        | none => rfl
        | some p =>
          obtain ⟨l, q⟩ := p
          simp only [Option.map_some, List.append_assoc, List.cons_append, List.nil_append, Option.some.injEq, Prod.mk.injEq, true_and, and_true]
          omega
      · rw [if_neg (fun h : Num (last + (s + 1)) => by have := h.2; omega), if_neg hn]
theorem read_f (b : List Int) (a : Int) (hb : Byt b) (hm : b.length ≤ 140737488351232) (k : Nat) (hk : 2020 ≤ k) : vint_Read.f k b a = some (readR b a) := by
  unfold vint_Read.f readR
  rw [get_f b a hb hm k (by omega)]
  unfold decR
  by_cases h : a < 0 ∨ (b.length : Int) < a
  · rw [if_pos h, if_pos h]
    simp
  · rw [if_neg h, if_neg h]
    obtain ⟨a, rfl⟩ : ∃ n : Nat, a = n := ⟨a.toNat, by omega⟩
    simp only [Int.toNat_natCast]
    cases hc : dec 5 (b.drop a) true with
    | none => simp
    | some p =>
      obtain ⟨m, j⟩ := p
      obtain ⟨a1, a2, a3, a4, a5, a6, _⟩ := enc_dec 5 (b.drop a) true m j (hb.drop a) hc
      simp only [List.length_drop] at a4
      simp only [Option.bind_some, if_true]
      by_cases h2 : m > 2000
      · rw [if_pos h2, if_pos h2]
      · rw [if_neg h2, if_neg h2]
        obtain ⟨m, rfl⟩ : ∃ n : Nat, m = n := ⟨m.toNat, by omega⟩
        have hr := read_l0 b hb hm m (by omega) m k 0 (a + j) [] (-1) (by omega) (by omega) (by omega) (by omega) (by simp; omega) (by omega) (by omega)
        simp only [Int.natCast_add] at hr
        rw [show ((0 : Nat) : Int) = 0 from rfl] at hr
        rw [hr]
        simp only [Int.toNat_natCast]
        cases readS m (-1) (b.drop (a + j)) with
        | none => rfl
        | some p => simp

theorem rising_l0 (l : List Int) (hm : l.length ≤ 140737488355328) : ∀ (d k i : Nat) (last : Int), d = l.length - i → i ≤ l.length → d < k → (i = 0 → last = -1) → (0 < i → rd l ((i - 1 : Nat) : Int) = last ∧ 0 ≤ last) →
    vint_rising.l0 k l l l.length i = some (ris last (l.drop i) && decide (l.length ≤ 2000))
  | 0, k, i, last, hd, hi, hk, h0, h1 => by
    obtain ⟨k, rfl⟩ : ∃ m, k = m + 1 := ⟨k - 1, by omega⟩
    simp only [vint_rising.l0]
    rw [if_neg (by omega), List.drop_eq_nil_of_le (by omega)]
    simp [ris]; omega
  | d + 1, k, i, last, hd, hi, hk, h0, h1 => by
    obtain ⟨k, rfl⟩ : ∃ m, k = m + 1 := ⟨k - 1, by omega⟩
    simp only [vint_rising.l0]
    rw [if_pos (by omega), if_pos (by omega), if_pos (by omega), may_f, w64n (x := (i : Int) + 1) (i + 1) (by omega) (by omega), rd_at l i (by omega)]
    have ih : rd l i = rd l i → 0 ≤ rd l i → vint_rising.l0 k l l l.length ((i + 1 : Nat) : Int) = some (ris (rd l i) (l.drop (i + 1)) && decide (l.length ≤ 2000)) := fun _ hh =>
      rising_l0 l hm d k (i + 1) (rd l i) (by omega) (by omega) (by omega) (by omega) (fun _ => ⟨by simp, hh⟩)
    simp only [Option.bind_some, decide_eq_true_eq, ris]
    generalize rd l i = n at ih
    by_cases hn : Num n
    · rw [if_pos hn]
      have h2 := hn.1
      have h3 := hn.2
      by_cases hi0 : i = 0
      · rw [if_neg (by omega), ih rfl h2]
        have := h0 hi0
        rw [show decide (last < n) = true by simp; omega, show decide (n ≤ 34359738367) = true by simp; omega]
        simp
      · obtain ⟨h4, h5⟩ := h1 (by omega)
        rw [if_pos (by omega), w64n (x := (i : Int) - 1) (i - 1) (by omega) (by omega), if_pos (by omega), if_pos (by omega), h4]
        by_cases hle : n ≤ last
        · rw [if_pos hle, show decide (last < n) = false by simp; omega]
          simp
        · rw [if_neg hle, ih rfl h2, show decide (last < n) = true by simp; omega, show decide (n ≤ 34359738367) = true by simp; omega]
          simp
    · rw [if_neg hn]
      congr 1
      unfold Num at hn
      by_cases h2 : n ≤ 34359738367
      · have : ¬ last < n := by
          by_cases hi0 : i = 0
          · have := h0 hi0; omega
          · have := h1 (by omega); omega
        simp [this]
      · simp [h2]
theorem rising_f (l : List Int) (hm : l.length ≤ 140737488355328) (k : Nat) (hk : l.length < k) : vint_rising.f k l = some (ris (-1) l && decide (l.length ≤ 2000)) := by
  unfold vint_rising.f
  have := rising_l0 l hm l.length k 0 (-1) (by omega) (by omega) hk (fun _ => rfl) (fun h => by omega)
  simpa using this

theorem rise_l0 (l : List Int) (hl : l.length ≤ 2000) : ∀ (d k i : Nat) (o : List Int) (last : Int), d = l.length - i → i ≤ l.length → d + 12100 < k → o.length = i → -1 ≤ last → last ≤ 34359738367 → ris last (l.drop i) = true → (∀ x ∈ o, Num x) →
    vint_Rise.l0 k l (o ++ List.replicate d 0) last l l.length i = some (enc l.length ++ encAll (o ++ steps last (l.drop i)), 0)
  | 0, k, i, o, last, hd, hi, hk, ho, h0, h1, hr, hx => by
    obtain ⟨k, rfl⟩ : ∃ m, k = m + 1 := ⟨k - 1, by omega⟩
    simp only [vint_Rise.l0]
    have hlen : Num (l.length : Int) := ⟨by omega, by omega⟩
    have h5 := hlen.len
    rw [if_neg (by omega), List.drop_eq_nil_of_le (by omega), all_f [] [(l.length : Int)] (by simpa using hlen) k (by simp; omega) (by simp)]
    simp only [Option.bind_some, List.nil_append, List.replicate_zero, List.append_nil, steps]
    rw [show encAll [(l.length : Int)] = enc l.length by simp [encAll], all_f (enc l.length) o hx k (by omega) (by omega)]
    simp
  | d + 1, k, i, o, last, hd, hi, hk, ho, h0, h1, hr, hx => by
    obtain ⟨k, rfl⟩ : ∃ m, k = m + 1 := ⟨k - 1, by omega⟩
    simp only [vint_Rise.l0]
    rw [rd_at l i (by omega)] at hr ⊢
    obtain ⟨r1, r2, r3⟩ := ris_cons.1 hr
    generalize rd l i = n at *
    rw [if_pos (by omega), if_pos (by omega), if_pos (by omega), if_pos (by simp; omega), w64n (x := (i : Int) + 1) (i + 1) (by omega) (by omega), w64 (x := n - last) (by omega) (by omega), w64 (x := n - last - 1) (by omega) (by omega)]
    have hset : (o ++ List.replicate (d + 1) 0).set (i : Int).toNat (n - last - 1) = (o ++ [n - last - 1]) ++ List.replicate d 0 := by
      rw [Int.toNat_natCast, List.set_append_right _ _ (by omega), ho, Nat.sub_self, List.replicate_succ, List.set_cons_zero]
      simp
    rw [hset, rise_l0 l hl d k (i + 1) (o ++ [n - last - 1]) n (by omega) (by omega) (by omega) (by simp [ho]) (by omega) r2 r3 (by
      intro x h
      rcases List.mem_append.1 h with h | h
      · exact hx x h
      · simp only [List.mem_singleton] at h
        subst h
        exact ⟨by omega, by omega⟩)]
    simp [steps]
theorem rise_f (l : List Int) (hm : l.length ≤ 140737488355328) (k : Nat) (hk : l.length + 15000 < k) : vint_Rise.f k l = some (riseR l) := by
  unfold vint_Rise.f riseR
  rw [rising_f l hm k (by omega)]
  by_cases h : ris (-1) l = true ∧ l.length ≤ 2000
  · rw [if_pos h]
    obtain ⟨h1, h2⟩ := h
    simp only [Option.bind_some, h1, h2, decide_true, Bool.and_self, if_true]
    rw [if_pos (by omega), if_pos (by omega)]
    have := rise_l0 l h2 l.length k 0 [] (-1) (by omega) (by omega) (by omega) rfl (by omega) (by omega) (by simpa using h1) (by simp)
    simpa using this
  · rw [if_neg h]
    simp only [Option.bind_some]
    rw [if_neg (by simpa using h)]

end Go.Proofs.Ytmgmpdlceepjdaa.VVintRises
