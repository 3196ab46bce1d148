/- What the program's Sum, Wrap and Open tell, for the functions printed for one law. -/
import Derived.Test.YtoedahdhlcagkaaVGetFrameTurned
import Derived.Test.YtoedahdhlcagkaaFSpec
import Derived.Laws.BitsAllLaws
namespace Go.Proofs.Ytoedahdhlcagkaa.VFrameTurned
open Go Go.RowKit Go.Proofs.Ytoedahdhlcagkaa.PFrameTurned Go.Proofs.YtoedahdhlcagkaaW.PrintWords Go.Proofs.YtoedahdhlcagkaaW.PrintLast Go.Proofs.YtoedahdhlcagkaaW.PrintMore Go.Proofs.Ytoedahdhlcagkaa.VSpec Go.Proofs.Ytoedahdhlcagkaa.FSpec

theorem and_one (r : Nat) (h : r < 4294967296) : Go.bits .and .u32 (r : Int) 1 = ((r % 2 : Nat) : Int) := by
  have := u32_and_nat r 1 h (by omega)
  rw [Nat.and_one_is_mod] at this
  exact this
theorem step_odd (r : Nat) (h : r < 4294967296) (ho : r % 2 = 1) : Go.bits .xor .u32 ((r : Int) / 2) 2197175160 = ((bit r : Nat) : Int) := by
  have e := u32_xor_nat (r / 2) 2197175160 (by omega) (by omega)
  rw [show ((r / 2 : Nat) : Int) = (r : Int) / 2 by omega] at e
  rw [bit, if_pos ho]
  exact e
theorem step_even (r : Nat) (ho : ¬ r % 2 = 1) : ((r : Int) / 2) = ((bit r : Nat) : Int) := by
  rw [bit, if_neg ho]
  omega
theorem add_l0 : ∀ (d k i r : Nat), d + i = 8 → d < k → r < 4294967296 → frame_sum_add.l0 k (i : Int) (r : Int) = some ((bitsN d r : Nat) : Int)
  | 0, k, i, r, hi, hk, hr => by
    obtain ⟨k, rfl⟩ : ∃ m, k = m + 1 := ⟨k - 1, by omega⟩
    simp only [frame_sum_add.l0]
    rw [if_neg (by omega)]
    rfl
  | d + 1, k, i, r, hi, hk, hr => by
    obtain ⟨k, rfl⟩ : ∃ m, k = m + 1 := ⟨k - 1, by omega⟩
    simp only [frame_sum_add.l0]
    rw [if_pos (by omega), and_one r hr, w64n (x := (i : Int) + 1) (i + 1) (by omega) (by omega)]
    have ih := add_l0 d k (i + 1) (bit r) (by omega) (by omega) (bit_lt hr)
    by_cases ho : r % 2 = 1
    · rw [if_pos (by omega), step_odd r hr ho, ih]; rfl
    · rw [if_neg (by omega), step_even r ho, ih]; rfl
theorem add_f (r : Nat) (c : Int) (hr : r < 4294967296) (hc : 0 ≤ c ∧ c < 256) (k : Nat) (hk : 9 ≤ k) : frame_sum_add.f k (r : Int) c = some ((byteOn r c.toNat : Nat) : Int) := by
  unfold frame_sum_add.f byteOn
  have e := u32_xor_nat r c.toNat hr (by omega)
  rw [show ((c.toNat : Nat) : Int) = c % 4294967296 by omega] at e
  rw [e]
  exact add_l0 8 k 0 _ (by omega) (by omega) (xor_lt hr (by omega))
theorem sum_l0 (l : List Int) (hb : Byt l) (hm : l.length ≤ 140737488355328) : ∀ (d k i r : Nat), d + i = l.length → d + 10 < k → r < 4294967296 → frame_Sum.l0 k l (i : Int) (r : Int) = some ((crc r (nat (l.drop i)) : Nat) : Int)
  | 0, k, i, r, hi, hk, hr => by
    obtain ⟨k, rfl⟩ : ∃ m, k = m + 1 := ⟨k - 1, by omega⟩
    simp only [frame_Sum.l0]
    rw [if_neg (by omega), List.drop_eq_nil_of_le (by omega)]
    rfl
  | d + 1, k, i, r, hi, hk, hr => by
    obtain ⟨k, rfl⟩ : ∃ m, k = m + 1 := ⟨k - 1, by omega⟩
    simp only [frame_Sum.l0]
    have hx : 0 ≤ rd l i ∧ rd l i < 256 := hb.drop i _ (by rw [rd_at l i (by omega)]; exact List.mem_cons_self ..)
    rw [if_pos (by omega), if_pos (by omega), add_f r _ hr hx k (by omega), w64n (x := (i : Int) + 1) (i + 1) (by omega) (by omega), Option.bind_some, rd_at l i (by omega)]
    exact sum_l0 l hb hm d k (i + 1) _ (by omega) (by omega) (byteOn_lt hr (by omega))
theorem not_u32 (r : Nat) (h : r < 4294967296) : Go.bits .xor .u32 IntKind.u32.max (r : Int) = ((4294967295 - r : Nat) : Int) := by
  have e := u32_xor_nat 4294967295 r (by omega) h
  have e2 : 4294967295 ^^^ r = 4294967295 - r := by
    apply Nat.eq_of_testBit_eq
    intro i
    have h1 := Nat.testBit_two_pow_sub_succ (x := r) (n := 32) h i
    have h2 := Nat.testBit_two_pow_sub_one 32 i
    rw [Nat.testBit_xor, show (4294967295 : Nat) = 2 ^ 32 - 1 from rfl, h2, show 2 ^ 32 - 1 - r = 2 ^ 32 - (r + 1) by omega, h1]
    by_cases hi : i < 32
    · simp [hi]
    · have : r.testBit i = false := Nat.testBit_lt_two_pow (Nat.lt_of_lt_of_le h (show (2 : Nat) ^ 32 ≤ 2 ^ i from Nat.pow_le_pow_right (by decide) (by omega)))
      simp [hi, this]
  rw [e2] at e
  exact e
theorem sum_f (l : List Int) (hb : Byt l) (hm : l.length ≤ 140737488355328) (k : Nat) (hk : l.length + 10 < k) : frame_Sum.f k l = some ((sum l : Nat) : Int) := by
  unfold frame_Sum.f
  have := sum_l0 l hb hm l.length k 0 4294967295 (by omega) hk (by omega)
  rw [List.drop_zero] at this
  rw [show (4294967295 : Int) = ((4294967295 : Nat) : Int) from rfl, show (0 : Int) = ((0 : Nat) : Int) from rfl, this, Option.bind_some, not_u32 _ (crc_lt _ _ (by omega) (nat_lt hb))]
  rfl
theorem decR_two (b : List Int) (h : 2 ≤ b.length) : (dec 5 (b.drop 2) true = none ∧ decR b 2 = (0, 0, 5)) ∨ ∃ n k, dec 5 (b.drop 2) true = some (n, k) ∧ decR b 2 = (n, (2 + k : Int), 0) := by
  unfold decR
  rw [if_neg (by omega)]
  simp only [show (2 : Int).toNat = 2 from rfl]
  cases h : dec 5 (b.drop 2) true with
  | none => exact .inl ⟨rfl, rfl⟩
  | some p => exact .inr ⟨p.1, p.2, rfl, rfl⟩
theorem of_f (n : Nat) : frame_of.f (n : Int) = some (((n % 256 : Nat) : Int), ((n / 256 % 256 : Nat) : Int), ((n / 65536 % 256 : Nat) : Int), ((n / 16777216 % 256 : Nat) : Int)) := by
  unfold frame_of.f
  congr 1
theorem wrap_f (kind : Int) (b : List Int) (hk0 : 0 ≤ kind ∧ kind < 256) (hb : Byt b) (k : Nat) (hk : b.length + 30 ≤ k) : frame_Wrap.f k kind b = some (wrapR kind b) := by
  unfold frame_Wrap.f wrapR
  by_cases hl : b.length ≤ 65536
  · rw [if_neg (by omega), if_pos hl, put_f _ k (by omega)]
    have hn : Num (b.length : Int) := ⟨by omega, by omega⟩
    have hp := body_len (k := kind) hl
    have e5 := hn.len
    simp only [Option.bind_some, putR, if_pos hn]
    rw [if_pos (by simp only [List.length_cons, List.length_nil]; omega), if_pos (by simp only [List.length_append, List.length_cons, List.length_nil]; omega)]
    have e : [70, kind] ++ enc (b.length : Int) ++ b = body kind b := rfl
    rw [e, sum_f _ (body_byt hk0 hb) (by omega) k (by omega), Option.bind_some, of_f, Option.bind_some]
    rw [if_pos (by simp only [List.length_cons, List.length_nil]; omega)]
    rfl
  · rw [if_pos (by omega), if_neg hl]
/-- 'of' against four bytes that were read. -/
theorem ne4 (n : Nat) (d : List Int) (h : d.length = 4) : ((!((n % 256 : Nat) : Int) == rd d 0 || (!((n / 256 % 256 : Nat) : Int) == rd d 1 || (!((n / 65536 % 256 : Nat) : Int) == rd d 2 || (!((n / 16777216 % 256 : Nat) : Int) == rd d 3)))) = true) ↔ ¬ le4 n = d := by
  match d, h with
  | [p, q, r, s], _ =>
    simp [le4, rd]
    constructor
    · intro h a b c d
      rcases h with h | h | h | h
      · exact h a
      · exact h b
      · exact h c
      · exact h d
    · intro h
      by_cases ha : (n : Int) % 256 = p
      · by_cases hb : (n : Int) / 256 % 256 = q
        · by_cases hc : (n : Int) / 65536 % 256 = r
          · exact .inr (.inr (.inr (h ha hb hc)))
          · exact .inr (.inr (.inl hc))
        · exact .inr (.inl hb)
      · exact .inl ha
theorem clone_f (l : List Int) (h : l.length < 140737488355328) : slices_Clone_byte_byte.f l = some l := by
  unfold slices_Clone_byte_byte.f
  rw [if_pos h]
theorem open_head (b : List Int) (kind : Int) (k : Nat) : frame_Open.f (k + 1) b kind = frame_Open.j0 (k + 1) b (decide (b.length < 2 ∨ rd b 0 ≠ 70 ∨ rd b 1 ≠ kind)) := by
  unfold frame_Open.f
  by_cases h0 : b.length < 2
  · rw [if_pos (by omega), decide_eq_true (.inl h0)]
  · rw [if_neg (by omega), if_pos (by omega)]
    by_cases h1 : rd b 0 = 70
    · rw [if_pos h1, if_pos (by omega)]
      congr 1
      by_cases h2 : rd b 1 = kind
      · rw [decide_eq_false (by simp only [h1, h2, not_or, ne_eq, not_true_eq_false, not_false_eq_true, and_true]; exact h0), h2]; exact bne_self_eq_false _
      · rw [decide_eq_true (.inr (.inr h2))]; exact bne_iff_ne.2 h2
    · rw [if_neg h1, decide_eq_true (.inr (.inl h1))]
theorem open_f (b : List Int) (kind : Int) (hb : Byt b) (hm : b.length ≤ 140737488351232) (k : Nat) (hk : b.length + 40 ≤ k) : frame_Open.f k b kind = some (openR b kind) := by
  obtain ⟨k, rfl⟩ : ∃ m, k = m + 1 := ⟨k - 1, by omega⟩
  rw [open_head]
  simp only [frame_Open.j0]
  unfold openR
  by_cases h0 : b.length < 2 ∨ rd b 0 ≠ 70 ∨ rd b 1 ≠ kind
  · rw [if_pos (decide_eq_true h0), if_pos h0]
  · rw [if_neg (by rw [decide_eq_false h0]; decide), if_neg h0, get_f b 2 hb hm k (by omega), Option.bind_some]
    have h2 : 2 ≤ b.length := by omega
    clear h0
    obtain ⟨k, rfl⟩ : ∃ m, k = m + 1 := ⟨k - 1, by omega⟩
    rcases decR_two b h2 with ⟨hc, hd⟩ | ⟨n, j, hc, hd⟩
    · rw [hc, hd]; simp [frame_Open.j1]
    · rw [hd, hc]
      clear hd
      simp only [if_true]
      obtain ⟨a1, a2, a3, a4, a5, a6, _⟩ := enc_dec 5 (b.drop 2) true n j (hb.drop 2) hc
      simp only [List.length_drop] at a4
      have hpow : (128 : Int) ^ 5 = 34359738368 := by decide
      rw [hpow] at a2
      by_cases hn : n > 65536
      · rw [if_pos hn, if_pos (.inl hn)]; simp [frame_Open.j1]
      · rw [if_neg hn, w64 (x := (b.length : Int) - (2 + j)) (by omega) (by omega), w64 (x := n + 4) (by omega) (by omega)]
        by_cases he : (b.length : Int) ≠ 2 + j + n + 4
        · rw [if_pos (.inr he), show ((b.length : Int) - (2 + j) != n + 4) = true from bne_iff_ne.2 (by omega)]; simp [frame_Open.j1]
        · rw [if_neg (by omega), show ((b.length : Int) - (2 + j) != n + 4) = false from bne_eq_false_iff_eq.2 (by omega)]
          simp only [frame_Open.j1]
          have ht : (2 + (j : Int) + n).toNat = 2 + j + n.toNat := by omega
          have hd : (b.drop (2 + j + n.toNat)).length = 4 := by rw [List.length_drop]; omega
          rw [w64 (x := 2 + (j : Int) + n) (by omega) (by omega), ht]
          rw [if_neg (by decide), if_pos (by omega), if_pos (by omega), sum_f _ (hb.take _) (by rw [List.length_take]; omega) (k) (by rw [List.length_take]; omega), Option.bind_some, of_f, Option.bind_some]
          simp only [hd]
          rw [if_pos (by omega), if_pos (by omega), if_pos (by omega), if_pos (by omega), if_pos (by omega)]
          by_cases hs : le4 (sum (b.take (2 + j + n.toNat))) = b.drop (2 + j + n.toNat)
          · rw [if_neg (fun h => (ne4 _ _ hd).1 h hs), if_pos (by omega), if_pos (by omega), if_pos hs, clone_f _ (by simp only [List.length_drop, List.length_take]; omega), Option.bind_some]
            congr 2
            rw [show (2 + (j : Int)).toNat = 2 + j by omega, List.drop_take]
            congr 1
            omega
          · rw [if_pos ((ne4 _ _ hd).2 hs), if_neg hs]
end Go.Proofs.Ytoedahdhlcagkaa.VFrameTurned
