/- What the document's Sum, Wrap and Open tell, for the functions printed for one law. -/
import Derived.Test.YtoedahdhlcagkaaFFunFrameTells
import Derived.Test.YtoedahdhlcagkaaRGetFrameTells
namespace Go.Proofs.Ytoedahdhlcagkaa.VFrameTells
open Go Go.RowKit Go.Proofs.Ytoedahdhlcagkaa.PFrameTells Go.Proofs.YtoedahdhlcagkaaW.PrintWords Go.Proofs.YtoedahdhlcagkaaW.PrintLast Go.Proofs.YtoedahdhlcagkaaW.PrintMore Go.Proofs.Ytoedahdhlcagkaa.VSpec Go.Proofs.Ytoedahdhlcagkaa.FSpec

theorem rbit_odd (r : Nat) (h : r < 4294967296) (ho : r % 2 = 1) : Go.bits .xor .u32 ((Int.tdiv (r : Int) 2) % 4294967296) 2197175160 = ((bit r : Nat) : Int) := by
  have e : (Int.tdiv (r : Int) 2) % 4294967296 = (r : Int) / 2 := by
    rw [Int.tdiv_eq_ediv_of_nonneg (by omega)]; omega
  rw [e]
  exact step_odd r h ho
theorem rbit_even (r : Nat) (h : r < 4294967296) (ho : ¬ r % 2 = 1) : (Int.tdiv (r : Int) 2) % 4294967296 = ((bit r : Nat) : Int) := by
  rw [Int.tdiv_eq_ediv_of_nonneg (by omega), ← step_even r ho]
  omega
theorem rsum_l1 (x : List Int) (i : Int) : ∀ (d k j r : Nat), d + j = 8 → d < k → r < 4294967296 → ∃ k', k ≤ k' + d + 1 ∧ catchwordref02_Sum.l1 k x (r : Int) i (j : Int) = catchwordref02_Sum.l0 k' x ((bitsN d r : Nat) : Int) (wrap64 (i + 1))
  | 0, k, j, r, hd, hk, hr => by
    obtain ⟨k, rfl⟩ : ∃ m, k = m + 1 := ⟨k - 1, by omega⟩
    refine ⟨k, by omega, ?_⟩
    simp only [catchwordref02_Sum.l1]
    rw [if_neg (by omega)]
    rfl
  | d + 1, k, j, r, hd, hk, hr => by
    obtain ⟨k, rfl⟩ : ∃ m, k = m + 1 := ⟨k - 1, by omega⟩
    obtain ⟨k', h1, h2⟩ := rsum_l1 x i d k (j + 1) (bit r) (by omega) (by omega) (bit_lt hr)
    refine ⟨k', by omega, ?_⟩
    simp only [catchwordref02_Sum.l1]
    rw [if_pos (by omega), w64n (x := (j : Int) + 1) (j + 1) (by omega) (by omega)]
    have et : Int.tmod (r : Int) 2 = (r : Int) % 2 := Int.tmod_eq_emod_of_nonneg (by omega)
    rw [et]
    by_cases ho : r % 2 = 1
    · rw [if_pos (by omega), rbit_odd r hr ho, h2]; rfl
    · rw [if_neg (by omega), rbit_even r hr ho, h2]; rfl
theorem rsum_l0 (l : List Int) (hb : Byt l) (hm : l.length ≤ 140737488355328) : ∀ (d k i r : Nat), d + i = l.length → 10 * d + 10 < k → r < 4294967296 → catchwordref02_Sum.l0 k l (r : Int) (i : Int) = some ((4294967295 - crc r (nat (l.drop i)) : Nat) : Int)
  | 0, k, i, r, hi, hk, hr => by
    obtain ⟨k, rfl⟩ : ∃ m, k = m + 1 := ⟨k - 1, by omega⟩
    simp only [catchwordref02_Sum.l0]
    rw [if_neg (by omega), List.drop_eq_nil_of_le (by omega)]
    show some _ = some _
    congr 1
    show (4294967295 - (r : Int)) % 4294967296 = ((4294967295 - r : Nat) : Int)
    omega
  | d + 1, k, i, r, hi, hk, hr => by
    obtain ⟨k, rfl⟩ : ∃ m, k = m + 1 := ⟨k - 1, by omega⟩
    simp only [catchwordref02_Sum.l0]
    have hx : 0 ≤ rd l i ∧ rd l i < 256 := hb.drop i _ (by rw [rd_at l i (by omega)]; exact List.mem_cons_self ..)
    rw [if_pos (by omega), if_pos (by omega)]
    have e := u32_xor_nat r (rd l i).toNat hr (by omega)
    rw [show (((rd l i).toNat : Nat) : Int) = rd l i % 4294967296 by omega] at e
    rw [e]
    obtain ⟨k', h1, h2⟩ := rsum_l1 l i 8 k 0 (r ^^^ (rd l i).toNat) (by omega) (by omega) (xor_lt hr (by omega))
    rw [show (0 : Int) = ((0 : Nat) : Int) from rfl, h2, w64n (x := (i : Int) + 1) (i + 1) (by omega) (by omega), rd_at l i (by omega)]
    exact rsum_l0 l hb hm d k' (i + 1) _ (by omega) (by omega) (byteOn_lt hr (by omega))
theorem rsum_f (l : List Int) (hb : Byt l) (hm : l.length ≤ 140737488355328) (k : Nat) (hk : 10 * l.length + 10 < k) : catchwordref02_Sum.f k l = some ((sum l : Nat) : Int) := by
  unfold catchwordref02_Sum.f
  have := rsum_l0 l hb hm l.length k 0 4294967295 (by omega) hk (by omega)
  rw [List.drop_zero] at this
  exact this
theorem rtail (n : Nat) (hn : n < 4294967296) (o : List Int) (ho : o.length ≤ 140737488355000) (k : Nat) (hk : 6 ≤ k) : catchwordref02_Wrap.l0 k o (n : Int) 0 = some (o ++ le4 n) := by
  have hd : ∀ m : Nat, m < 4294967296 → Int.tdiv (m : Int) 256 % 4294967296 = ((m / 256 : Nat) : Int) := fun m hm => by
    rw [Int.tdiv_eq_ediv_of_nonneg (by omega)]; omega
  have hr : ∀ m : Nat, Int.tmod (m : Int) 256 % 256 = ((m % 256 : Nat) : Int) := fun m => by
    rw [Int.tmod_eq_emod_of_nonneg (by omega)]; omega
  have step : ∀ (k j : Nat) (m : Nat) (o : List Int), m < 4294967296 → j < 4 → o.length < 140737488355328 → catchwordref02_Wrap.l0 (k + 1) o (m : Int) (j : Int) = catchwordref02_Wrap.l0 k (o ++ [((m % 256 : Nat) : Int)]) ((m / 256 : Nat) : Int) ((j + 1 : Nat) : Int) := fun k j m o hm hj ho => by
    simp only [catchwordref02_Wrap.l0]
    rw [if_pos (by omega), if_pos ho, hd m hm, hr, w64n (x := (j : Int) + 1) (j + 1) (by omega) (by omega)]
  obtain ⟨k, rfl⟩ : ∃ m, k = m + 5 := ⟨k - 5, by omega⟩
  rw [show (0 : Int) = ((0 : Nat) : Int) from rfl, step _ 0 n o hn (by omega) (by omega), step _ 1 _ _ (by omega) (by omega) (by simp; omega), step _ 2 _ _ (by omega) (by omega) (by simp; omega), step _ 3 _ _ (by omega) (by omega) (by simp; omega)]
  simp only [catchwordref02_Wrap.l0]
  rw [if_neg (by omega)]
  have e1 : n / 256 / 256 = n / 65536 := by omega
  have e2 : n / 256 / 256 / 256 = n / 16777216 := by omega
  rw [e2, e1]
  simp [le4]
theorem rwrap_f (kind : Int) (b : List Int) (hk0 : 0 ≤ kind ∧ kind < 256) (hb : Byt b) (k : Nat) (hk : 10 * b.length + 100 ≤ k) : catchwordref02_Wrap.f k kind b = some (wrapR kind b) := by
  unfold catchwordref02_Wrap.f wrapR
  by_cases hl : b.length ≤ 65536
  · rw [if_neg (by omega), if_pos hl, rput_f _ k (by omega)]
    have hn : Num (b.length : Int) := ⟨by omega, by omega⟩
    have hp := body_len (k := kind) hl
    have e5 := hn.len
    simp only [Option.bind_some, putR, if_pos hn]
    rw [if_pos (by simp only [List.length_cons, List.length_nil]; omega), if_pos (by simp only [List.length_append, List.length_cons, List.length_nil]; omega)]
    have e : [70, kind] ++ enc (b.length : Int) ++ b = body kind b := rfl
    rw [e, rsum_f _ (body_byt hk0 hb) (by omega) k (by omega), Option.bind_some, rtail _ (sum_lt _) _ (by omega) k (by omega)]
    rfl
  · rw [if_pos (by omega), if_neg hl]
theorem ropen_head (b : List Int) (kind : Int) (k : Nat) : catchwordref02_Open.f (k + 1) b kind = catchwordref02_Open.j0 (k + 1) b kind (decide (b.length < 2 ∨ rd b 0 ≠ 70 ∨ rd b 1 ≠ kind)) := by
  unfold catchwordref02_Open.f
  by_cases h0 : b.length < 2
  · rw [if_pos (by omega), decide_eq_true (.inl h0)]
  · rw [if_neg (by omega), if_pos (by omega)]
    by_cases h1 : rd b 0 = 70
    · rw [if_pos h1, if_pos (by omega)]
      congr 1
      by_cases h2 : rd b 1 = kind
      · rw [decide_eq_false (by simp only [h1, h2, not_or, ne_eq, not_true_eq_false, not_false_eq_true, and_true]; exact h0), h2]; exact bne_self_eq_false _
      · rw [decide_eq_true (.inr (.inr h2))]; exact bne_iff_ne.2 h2
    · rw [if_neg h1, decide_eq_true (.inr (.inl h1))]
theorem ropen_f (b : List Int) (kind : Int) (hk0 : 0 ≤ kind ∧ kind < 256) (hb : Byt b) (hm : b.length ≤ 140737488351232) (k : Nat) (hk : 10 * b.length + 200 ≤ k) : catchwordref02_Open.f k b kind = some (openR b kind) := by
  obtain ⟨k, rfl⟩ : ∃ m, k = m + 1 := ⟨k - 1, by omega⟩
  rw [ropen_head]
  simp only [catchwordref02_Open.j0]
  unfold openR
  by_cases h0 : b.length < 2 ∨ rd b 0 ≠ 70 ∨ rd b 1 ≠ kind
  · rw [if_pos (decide_eq_true h0), if_pos h0]
  · rw [if_neg (by rw [decide_eq_false h0]; decide), if_neg h0, rget_f b 2 hb hm k (by omega), Option.bind_some]
    have h2 : 2 ≤ b.length := by omega
    obtain ⟨k, rfl⟩ : ∃ m, k = m + 1 := ⟨k - 1, by omega⟩
    rcases decR_two b h2 with ⟨hc, hd⟩ | ⟨n, j, hc, hd⟩
    · rw [hc, hd]; simp [catchwordref02_Open.j1]
    · rw [hd, hc]
      clear hd
      simp only [if_true]
      obtain ⟨a1, a2, a3, a4, a5, a6, _⟩ := enc_dec 5 (b.drop 2) true n j (hb.drop 2) hc
      simp only [List.length_drop] at a4
      have hpow : (128 : Int) ^ 5 = 34359738368 := by decide
      rw [hpow] at a2
      by_cases hn : n > 65536
      · rw [if_pos hn, if_pos (.inl hn)]; simp [catchwordref02_Open.j1]
      · rw [if_neg hn, w64 (x := (b.length : Int) - (2 + j)) (by omega) (by omega), w64 (x := n + 4) (by omega) (by omega)]
        by_cases he : (b.length : Int) ≠ 2 + j + n + 4
        · rw [if_pos (.inr he), show ((b.length : Int) - (2 + j) != n + 4) = true from bne_iff_ne.2 (by omega)]; simp [catchwordref02_Open.j1]
        · rw [if_neg (by omega), show ((b.length : Int) - (2 + j) != n + 4) = false from bne_eq_false_iff_eq.2 (by omega)]
          simp only [catchwordref02_Open.j1]
          have ht : (2 + (j : Int) + n).toNat = 2 + j + n.toNat := by omega
          have ht2 : (2 + (j : Int)).toNat = 2 + j := by omega
          have hx : (b.take (2 + j + n.toNat)).drop (2 + j) = (b.drop (2 + j)).take n.toNat := by
            rw [List.drop_take]
            congr 1
            omega
          have hxl : ((b.drop (2 + j)).take n.toNat).length = n.toNat := by simp; omega
          rw [w64 (x := 2 + (j : Int) + n) (by omega) (by omega), ht, ht2, hx]
          rw [if_neg (by decide), if_pos (by omega), if_pos (by omega), if_pos (by omega), if_pos (by simp only [List.length_nil, hxl]; omega), Option.bind_some, List.nil_append]
          have hxb : Byt ((b.drop (2 + j)).take n.toNat) := (hb.drop _).take _
          rw [rwrap_f kind _ hk0 hxb k (by omega), Option.bind_some]
          have hbody : body kind ((b.drop (2 + j)).take n.toNat) = b.take (2 + j + n.toNat) := by
            have hb2 : b.take 2 = [70, kind] := by
              match b, h0 with
              | [], h0 => simp at h0
              | [_], h0 => simp at h0
              | p :: q :: t, h0 =>
                simp only [not_or, Decidable.not_not, rd] at h0
                simp at h0
                simp [h0]
            unfold body
            rw [hxl, show ((n.toNat : Nat) : Int) = n by omega, a6, ← hb2, List.append_assoc, Nat.add_assoc, List.take_add, List.take_add, List.drop_drop]
          have hw : wrapR kind ((b.drop (2 + j)).take n.toNat) = b.take (2 + j + n.toNat) ++ le4 (sum (b.take (2 + j + n.toNat))) := by
            rw [wrapR, if_pos (by omega), wrap, hbody]
          rw [hw, bytes_f _ _ (by simp [le4]; omega) k (by simp [le4]; omega), Option.bind_some]
          by_cases hs : le4 (sum (b.take (2 + j + n.toNat))) = b.drop (2 + j + n.toNat)
          · rw [if_pos hs, if_pos (by rw [hs, List.take_append_drop]; exact beq_self_eq_true _)]
          · rw [if_neg hs, if_neg]
            intro h
            have h := eq_of_beq h
            have h' : b.take (2 + j + n.toNat) ++ le4 (sum (b.take (2 + j + n.toNat))) = b.take (2 + j + n.toNat) ++ b.drop (2 + j + n.toNat) := by rw [h, List.take_append_drop]
            exact hs (List.append_cancel_left h')
end Go.Proofs.Ytoedahdhlcagkaa.VFrameTells
