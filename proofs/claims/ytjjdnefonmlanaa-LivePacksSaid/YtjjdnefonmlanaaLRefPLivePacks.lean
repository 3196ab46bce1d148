/- What the reference's Pack and Unpack tell, for the functions printed for one law. -/
import Derived.Test.YtjjdnefonmlanaaLFunLivePacks
import Derived.Test.YtjjdnefonmlanaaRGetLivePacks
namespace Go.Proofs.Ytjjdnefonmlanaa.VLivePacks
open Go Go.RowKit Go.Proofs.Ytjjdnefonmlanaa.PLivePacks Go.Proofs.YtjjdnefonmlanaaW.PrintWords Go.Proofs.YtjjdnefonmlanaaW.PrintLast Go.Proofs.YtjjdnefonmlanaaW.PrintMore Go.Proofs.Ytjjdnefonmlanaa.VSpec Go.Proofs.Ytjjdnefonmlanaa.LSpec

theorem pow8 (j : Nat) (h : j ≤ 8) : (2 : Int) ^ j ≤ 256 ∧ 1 ≤ (2 : Int) ^ j := (show ∀ j : Fin 9, (2 : Int) ^ j.val ≤ 256 ∧ 1 ≤ (2 : Int) ^ j.val by decide) ⟨j, by omega⟩
theorem val_pow (l : List Bool) : (val l : Int) < 2 ^ l.length := by
  have := val_lt l
  have e : ((2 ^ l.length : Nat) : Int) = (2 : Int) ^ l.length := by simp
  omega
/-- One byte's bits. -/
theorem rpack_l1 (l : List Bool) (o : List Int) (i : Nat) (hl : l.length ≤ 64) (ho : o.length ≤ 100) (hi : i ≤ 64) : ∀ (d k j : Nat), j + d = ((l.drop i).take 8).length → 2 * d + 2 < k →
    ∃ k' : Nat, k ≤ k' + 2 * d + 2 ∧ catchwordref04_Pack.l1 k l o i (val (((l.drop i).take 8).take j) : Int) (2 ^ j) ((i + j : Nat) : Int) = catchwordref04_Pack.l0 k' l (o ++ [(val ((l.drop i).take 8) : Int)]) ((i + 8 : Nat) : Int)
  | 0, k, j, hd, hk => by
    obtain ⟨k, rfl⟩ : ∃ m, k = m + 2 := ⟨k - 2, by omega⟩
    refine ⟨k, by omega, ?_⟩
    have hc : ((l.drop i).take 8).length = min 8 (l.length - i) := by simp
    have h8 := take8_lt (l.drop i)
    have e8 := Aside0.mk (w64n (x := (i : Int) + 8) (i + 8) (by omega) (by omega))
    simp only [catchwordref04_Pack.l1, catchwordref04_Pack.j2]
    rw [e8.out, List.take_of_length_le (show ((l.drop i).take 8).length ≤ j by omega)]
    have e : ((val ((l.drop i).take 8) : Nat) : Int) % 256 = (val ((l.drop i).take 8) : Int) := by omega
    rw [e]
    by_cases h0 : (((i + j : Nat)) : Int) < ((i + 8 : Nat) : Int)
    · rw [if_pos h0, if_neg (by simp; omega), if_pos (by omega)]
    · rw [if_neg h0, if_neg (by decide), if_pos (by omega)]
  | d + 1, k, j, hd, hk => by
    obtain ⟨k, rfl⟩ : ∃ m, k = m + 2 := ⟨k - 2, by omega⟩
    have hc : ((l.drop i).take 8).length = min 8 (l.length - i) := by simp
    have hp := pow8 j (by omega)
    have hv := val_pow (((l.drop i).take 8).take j)
    have hjl : (((l.drop i).take 8).take j).length = j := by rw [List.length_take]; omega
    rw [hjl] at hv
    obtain ⟨k', h1, h2⟩ := rpack_l1 l o i hl ho hi d k (j + 1) (by omega) (by omega)
    refine ⟨k', by omega, ?_⟩
    rw [← h2]
    have e8 := Aside0.mk (w64n (x := (i : Int) + 8) (i + 8) (by omega) (by omega))
    have e1 := Aside0.mk (w64n (x := ((i + j : Nat) : Int) + 1) (i + (j + 1)) (by omega) (by omega))
    have e2 : Aside0 (wrap64 (2 * 2 ^ j) = 2 ^ (j + 1)) := ⟨by rw [w64 (by omega) (by omega), Int.pow_succ, Int.mul_comm]⟩
    have e3 : Aside0 (wrap64 ((val (((l.drop i).take 8).take j) : Int) + 2 ^ j) = (val (((l.drop i).take 8).take j) : Int) + 2 ^ j) := ⟨w64 (by omega) (by omega)⟩
    have hs : ((l.drop i).take 8).take (j + 1) = ((l.drop i).take 8).take j ++ [rdOf false l ((i + j : Nat) : Int)] := by
      rw [rdb l (i + j) (by omega), List.take_add_one, List.getElem?_eq_getElem (by omega), List.getElem_take, List.getElem_drop]
      rfl
    simp only [catchwordref04_Pack.l1, catchwordref04_Pack.j2]
    rw [e8.out, if_pos (by omega), if_pos (decide_eq_true (by omega)), if_pos (by omega), if_pos (by omega), e1.out, e2.out, e3.out, hs, val_snoc, hjl]
    by_cases hx : rdOf false l ((i + j : Nat) : Int) = true
    · rw [if_pos hx, if_pos hx]
      congr 1
    · rw [if_neg hx, if_neg hx]
      congr 1
theorem rpack_l0 (l : List Bool) (h : List Int) (hl : l.length ≤ 64) (hh : h.length ≤ 5) : ∀ (d k q : Nat), q + d = (l.length + 7) / 8 → 20 * d < k →
    catchwordref04_Pack.l0 k l (h ++ pb q l) ((8 * q : Nat) : Int) = some (h ++ pb ((l.length + 7) / 8) l)
  | 0, k, q, hd, hk => by
    obtain ⟨k, rfl⟩ : ∃ m, k = m + 1 := ⟨k - 1, by omega⟩
    obtain rfl : q = (l.length + 7) / 8 := by omega
    simp only [catchwordref04_Pack.l0]
    rw [if_neg (by omega)]
  | d + 1, k, q, hd, hk => by
    obtain ⟨k, rfl⟩ : ∃ m, k = m + 1 := ⟨k - 1, by omega⟩
    simp only [catchwordref04_Pack.l0]
    rw [if_pos (by omega)]
    have hpl := pb_len q l
    have hc : ((l.drop (8 * q)).take 8).length = min 8 (l.length - 8 * q) := by simp
    obtain ⟨k', h1, h2⟩ := rpack_l1 l (h ++ pb q l) (8 * q) hl (by rw [List.length_append]; omega) (by omega) _ k 0 (Nat.zero_add _) (by omega)
    simp only [List.take_zero, val, Nat.add_zero, Int.natCast_zero, Int.pow_zero] at h2
    rw [h2, List.append_assoc, ← pb_more, show 8 * q + 8 = 8 * (q + 1) by omega]
    exact rpack_l0 l h hl hh d k' (q + 1) (by omega) (by omega)
theorem rpack_f (l : List Bool) (k : Nat) (hk : 200 ≤ k) : catchwordref04_Pack.f k l = some (packR l) := by
  unfold catchwordref04_Pack.f packR
  by_cases h : l.length ≤ 64
  · have hn : Num (l.length : Int) := ⟨by omega, by omega⟩
    rw [if_neg (by omega), if_pos h, rput_f _ k (by omega)]
    simp only [Option.bind_some]
    rw [show putR (l.length : Int) = enc l.length from if_pos hn]
    have := rpack_l0 l (enc l.length) h hn.len ((l.length + 7) / 8) k 0 (by omega) (by omega)
    simpa [pb] using this
  · rw [if_pos (by omega), if_neg h]
theorem div_pow (c : Int) (m : Nat) : c / 2 ^ m / 2 = c / 2 ^ (m + 1) := by
  rw [Int.ediv_ediv_of_nonneg (Int.le_of_lt (Int.pow_pos (by decide))), Int.pow_succ]
/-- One bit. -/
theorem runpack_l1 (b : List Int) (n j i : Nat) (o : List Bool) (c : Int) (hc : 0 ≤ c ∧ c < 256) (ho : o.length ≤ 100) (hi : i ≤ 64) : ∀ (d k m : Nat), m + d = i % 8 → d + 1 < k →
    ∃ k' : Nat, k ≤ k' + d + 1 ∧ catchwordref04_Unpack.l1 k b n j o i (c / 2 ^ m) m = catchwordref04_Unpack.l0 k' b n j (o ++ [bitAt c (i % 8)]) ((i + 1 : Nat) : Int)
  | 0, k, m, hd, hk => by
    obtain ⟨k, rfl⟩ : ∃ m, k = m + 1 := ⟨k - 1, by omega⟩
    refine ⟨k, by omega, ?_⟩
    obtain rfl : m = i % 8 := by omega
    have e3 : Int.tmod (i : Int) 8 = ((i % 8 : Nat) : Int) := by rw [Int.tmod_eq_emod_of_nonneg (by omega)]; omega
    have h0 : 0 ≤ c / 2 ^ (i % 8) := Int.ediv_nonneg hc.1 (Int.le_of_lt (Int.pow_pos (by decide)))
    simp only [catchwordref04_Unpack.l1]
    rw [e3, if_neg (by omega), if_pos (by omega), Int.tmod_eq_emod_of_nonneg h0, w64n (x := (i : Int) + 1) (i + 1) (by omega) (by omega)]
    rfl
  | d + 1, k, m, hd, hk => by
    obtain ⟨k, rfl⟩ : ∃ m, k = m + 1 := ⟨k - 1, by omega⟩
    obtain ⟨k', h1, h2⟩ := runpack_l1 b n j i o c hc ho hi d k (m + 1) (by omega) (by omega)
    refine ⟨k', by omega, ?_⟩
    have e3 : Int.tmod (i : Int) 8 = ((i % 8 : Nat) : Int) := by rw [Int.tmod_eq_emod_of_nonneg (by omega)]; omega
    have hp : (0 : Int) < 2 ^ m := Int.pow_pos (by decide)
    have h0 : 0 ≤ c / 2 ^ m := Int.ediv_nonneg hc.1 (Int.le_of_lt hp)
    have h3 : c / 2 ^ m ≤ c := Int.ediv_le_self _ hc.1
    simp only [catchwordref04_Unpack.l1]
    rw [e3, if_pos (by omega), Int.tdiv_eq_ediv_of_nonneg h0, w64 (x := c / 2 ^ m / 2) (by omega) (by omega), div_pow, w64n (x := (m : Int) + 1) (m + 1) (by omega) (by omega), ← h2]
theorem runpack_l0 (b : List Int) (n j : Nat) (hn : n ≤ 64) (hj : j ≤ 5) (hb : Byt b) (hm : b.length ≤ 140737488351232) (hl : j + (n + 7) / 8 ≤ b.length) : ∀ (d k i : Nat), i + d = n → 10 * d + b.length + 300 < k →
    catchwordref04_Unpack.l0 k b n j (unb i (b.drop j)) i = some (if packR (unb n (b.drop j)) = b then (unb n (b.drop j), 0) else ([], 5))
  | 0, k, i, hd, hk => by
    obtain ⟨k, rfl⟩ : ∃ m, k = m + 1 := ⟨k - 1, by omega⟩
    obtain rfl : i = n := by omega
    simp only [catchwordref04_Unpack.l0]
    have hp := pack_len (unb i (b.drop j))
    rw [if_neg (by omega), rpack_f _ k (by omega)]
    simp only [Option.bind_some]
    rw [bytes_f _ _ (by omega) _ (by omega)]
    simp only [Option.bind_some, beq_iff_eq]
    split <;> rfl
  | d + 1, k, i, hd, hk => by
    obtain ⟨k, rfl⟩ : ∃ m, k = m + 1 := ⟨k - 1, by omega⟩
    simp only [catchwordref04_Unpack.l0]
    have e1 : Aside0 (wrap64 (Int.tdiv (i : Int) 8) = ((i / 8 : Nat) : Int)) := ⟨w64n _ (by rw [Int.tdiv_eq_ediv_of_nonneg (by omega)]; omega) (by omega)⟩
    have e2 : Aside0 (wrap64 ((j : Int) + ((i / 8 : Nat) : Int)) = ((j + i / 8 : Nat) : Int)) := ⟨w64n _ (by omega) (by omega)⟩
    have hul := unb_len i (b.drop j)
    have hr2 : 0 ≤ rd b ((j + i / 8 : Nat) : Int) ∧ rd b ((j + i / 8 : Nat) : Int) < 256 := hb.drop (j + i / 8) _ (by rw [rd_at b _ (by omega)]; exact List.mem_cons_self ..)
    have hr : rd b ((j + i / 8 : Nat) : Int) = (b.drop j).getD (i / 8) 0 := by
      simp only [rd, Int.toNat_natCast, List.getD_eq_getElem?_getD]
      rw [List.getElem?_drop]
    have e4 : Aside0 (wrap64 (rd b ((j + i / 8 : Nat) : Int)) = rd b ((j + i / 8 : Nat) : Int)) := ⟨w64 (by omega) (by omega)⟩
    rw [if_pos (by omega), e1.out, e2.out, if_neg (by omega), if_pos (by omega), if_pos (by omega), e4.out, hr]
    rw [hr] at hr2
    obtain ⟨k', h1, h2⟩ := runpack_l1 b n j i (unb i (b.drop j)) _ hr2 (by omega) (by omega) (i % 8) k 0 (by omega) (by omega)
    rw [Int.pow_zero, Int.ediv_one] at h2
    have h2 : catchwordref04_Unpack.l1 k b n j (unb i (b.drop j)) i ((b.drop j).getD (i / 8) 0) 0 = _ := h2
    rw [h2, ← unb_succ]
    exact runpack_l0 b n j hn hj hb hm hl d k' (i + 1) (by omega) (by omega)
theorem runpack_short (b : List Int) (n j : Nat) (hn : n ≤ 64) (hj : j ≤ 5) (hb : Byt b) (hm : b.length ≤ 140737488351232) (hl : b.length < j + (n + 7) / 8) (hjl : j ≤ b.length) : ∀ (d k i : Nat), i + d = n → i ≤ 8 * (b.length - j) → 10 * d + b.length + 300 < k →
    catchwordref04_Unpack.l0 k b n j (unb i (b.drop j)) i = some ([], 5)
  | 0, k, i, hd, hi, hk => by omega
  | d + 1, k, i, hd, hi, hk => by
    obtain ⟨k, rfl⟩ : ∃ m, k = m + 1 := ⟨k - 1, by omega⟩
    simp only [catchwordref04_Unpack.l0]
    have e1 : Aside0 (wrap64 (Int.tdiv (i : Int) 8) = ((i / 8 : Nat) : Int)) := ⟨w64n _ (by rw [Int.tdiv_eq_ediv_of_nonneg (by omega)]; omega) (by omega)⟩
    have e2 : Aside0 (wrap64 ((j : Int) + ((i / 8 : Nat) : Int)) = ((j + i / 8 : Nat) : Int)) := ⟨w64n _ (by omega) (by omega)⟩
    have hul := unb_len i (b.drop j)
    rw [if_pos (by omega), e1.out, e2.out]
    by_cases hx : b.length ≤ j + i / 8
    · rw [if_pos (by omega)]
    · have hr2 : 0 ≤ rd b ((j + i / 8 : Nat) : Int) ∧ rd b ((j + i / 8 : Nat) : Int) < 256 := hb.drop (j + i / 8) _ (by rw [rd_at b _ (by omega)]; exact List.mem_cons_self ..)
      have hr : rd b ((j + i / 8 : Nat) : Int) = (b.drop j).getD (i / 8) 0 := by
        simp only [rd, Int.toNat_natCast, List.getD_eq_getElem?_getD]
        rw [List.getElem?_drop]
      have e4 : Aside0 (wrap64 (rd b ((j + i / 8 : Nat) : Int)) = rd b ((j + i / 8 : Nat) : Int)) := ⟨w64 (by omega) (by omega)⟩
      rw [if_neg (by omega), if_pos (by omega), if_pos (by omega), e4.out, hr]
      rw [hr] at hr2
      obtain ⟨k', h1, h2⟩ := runpack_l1 b n j i (unb i (b.drop j)) _ hr2 (by omega) (by omega) (i % 8) k 0 (by omega) (by omega)
      rw [Int.pow_zero, Int.ediv_one] at h2
      have h2 : catchwordref04_Unpack.l1 k b n j (unb i (b.drop j)) i ((b.drop j).getD (i / 8) 0) 0 = _ := h2
      rw [h2, ← unb_succ]
      exact runpack_short b n j hn hj hb hm hl hjl d k' (i + 1) (by omega) (by omega) (by omega)
theorem runpack_f (b : List Int) (hb : Byt b) (hm : b.length ≤ 140737488351232) (k : Nat) (hk : b.length + 2000 ≤ k) : catchwordref04_Unpack.f k b = some (unpackR b) := by
  unfold catchwordref04_Unpack.f
  rw [rget_f b 0 hb hm k (by omega)]
  unfold decR
  rw [if_neg (by omega)]
  simp only [Int.toNat_zero, List.drop_zero]
  have skip : ∀ p q, catchwordref04_Unpack.j0 k b p q true = some ([], 5) := fun p q => by
    obtain ⟨k, rfl⟩ : ∃ m, k = m + 1 := ⟨k - 1, by omega⟩
    simp only [catchwordref04_Unpack.j0, if_true]
  cases hd : dec 5 b true with
  | none =>
    simp only [Option.bind_some]
    rw [if_neg (by omega), skip, unpack_none (fun n j h => by rw [hd] at h; cases h)]
  | some p =>
    obtain ⟨n, j⟩ := p
    obtain ⟨h0, h1, h2, h3, h4, h5, _⟩ := enc_dec 5 b true n j hb hd
    obtain ⟨n, rfl⟩ : ∃ m : Nat, n = m := ⟨n.toNat, by omega⟩
    simp only [Option.bind_some, Int.zero_add]
    rw [if_pos trivial]
    by_cases hn : n ≤ 64
    · rw [decide_eq_false (by omega)]
      obtain ⟨k, rfl⟩ : ∃ m, k = m + 1 := ⟨k - 1, by omega⟩
      simp only [catchwordref04_Unpack.j0]
      rw [if_neg (by decide)]
      by_cases hl : j + (n + 7) / 8 ≤ b.length
      · rw [unpack_try hd hn]
        exact runpack_l0 b n j hn h4 hb hm hl n k 0 (by omega) (by omega)
      · rw [unpack_none]
        · exact runpack_short b n j hn h4 hb hm (by omega) h3 n k 0 (by omega) (by omega) (by omega)
        · intro n' j' h hn' hl'
          rw [hd] at h
          simp only [Option.some.injEq, Prod.mk.injEq] at h
          omega
    · rw [decide_eq_true (by omega), skip, unpack_none]
      intro n' j' h hn' hl'
      rw [hd] at h
      simp only [Option.some.injEq, Prod.mk.injEq] at h
      omega
end Go.Proofs.Ytjjdnefonmlanaa.VLivePacks
