/- What the program's New, Kill, Less, And, Pack and Unpack tell, for the functions printed for one law. -/
import Derived.Test.YtjjdnefonmlanaaVGetLivePacks
import Derived.Test.YtjjdnefonmlanaaLSpec
import Derived.Test.YtjjdnefonmlanaaVList
namespace Go.Proofs.Ytjjdnefonmlanaa.VLivePacks
open Go Go.RowKit Go.Proofs.Ytjjdnefonmlanaa.PLivePacks Go.Proofs.YtjjdnefonmlanaaW.PrintWords Go.Proofs.YtjjdnefonmlanaaW.PrintLast Go.Proofs.YtjjdnefonmlanaaW.PrintMore Go.Proofs.Ytjjdnefonmlanaa.VSpec Go.Proofs.Ytjjdnefonmlanaa.LSpec

theorem live_awake : catchwordlaw04_awake.f 100 = some true := by decide +kernel
theorem live_awake' (k : Nat) (h : 100 ≤ k) : catchwordlaw04_awake.f k = some true := at_rounds (fun k => catchwordlaw04_awake.mono k) h live_awake

theorem bools_l0 (x y : List Bool) (he : x.length = y.length) (hm : x.length ≤ 140737488355328) : ∀ (d k i : Nat), d = x.length - i → i ≤ x.length → d < k → catchwordref04_Bools.l0 k x y i = some (x.drop i == y.drop i)
  | 0, k, i, hd, hi, hk => by
    obtain ⟨k, rfl⟩ : ∃ m, k = m + 1 := ⟨k - 1, by omega⟩
    simp only [catchwordref04_Bools.l0]
    rw [if_neg (by omega), List.drop_eq_nil_of_le (by omega), List.drop_eq_nil_of_le (by omega)]
    rfl
  | d + 1, k, i, hd, hi, hk => by
    obtain ⟨k, rfl⟩ : ∃ m, k = m + 1 := ⟨k - 1, by omega⟩
    simp only [catchwordref04_Bools.l0]
    rw [if_pos (by omega), if_pos (by omega), if_pos (by omega), w64n (x := (i : Int) + 1) (i + 1) (by omega) (by omega), bools_l0 x y he hm d k (i + 1) (by omega) (by omega) (by omega),
      rdb_at x i (by omega), rdb_at y i (by omega), List.cons_beq_cons]
    cases rdOf false x i <;> cases rdOf false y i <;> simp
theorem bools_f (x y : List Bool) (hm : x.length ≤ 140737488355328) (k : Nat) (hk : x.length < k) : catchwordref04_Bools.f k x y = some (x == y) := by
  unfold catchwordref04_Bools.f
  by_cases he : x.length = y.length
  · rw [if_pos (by omega)]
    have := bools_l0 x y he hm x.length k 0 (by omega) (by omega) hk
    simpa using this
  · rw [if_neg (by omega)]
    congr 1
    symm
    rw [beq_eq_false_iff_ne]
    rintro rfl
    exact he rfl
theorem new_f (n : Int) : live_New.f n = some (newR n) := by
  unfold live_New.f newR
  by_cases h0 : n < 0
  · rw [if_pos h0, if_neg (by omega)]
  · rw [if_neg h0]
    by_cases h1 : n > 64
    · rw [if_pos h1, if_neg (by omega)]
    · rw [if_neg h1, if_pos (by omega)]
      unfold slices_Repeat_bool_bool.f
      rw [if_pos ⟨rfl, by omega, by omega⟩]
      rfl
theorem lmay_f (l : List Bool) : live_May.f l = some (decide (l.length ≤ 64)) := by
  unfold live_May.f
  congr 1
  rw [decide_eq_decide]; omega
theorem cnt_le : ∀ a b : List Bool, (decide (a.length = b.length) && decide (live_Less.cnt a b = 0)) = le a b
  | [], [] => rfl
  | x :: a, y :: b => by
    have ih := cnt_le a b
    simp only [le, ← ih, live_Less.cnt, List.zipWith_cons_cons, List.count_cons, List.length_cons]
    cases x <;> cases y <;> simp <;> rfl
  | [], _ :: _ => rfl
  | _ :: _, [] => rfl
theorem less_f (a b : List Bool) : live_Less.f a b = some (le a b) := by
  unfold live_Less.f
  rw [cnt_le]
theorem count_f (a : List Bool) : live_Count.f a = some ((a.count true : Nat) : Int) := rfl
theorem kill_f (l : List Bool) (i : Int) (hm : l.length < 140737488355328) : live_Kill.f l i = some (killR l i) := by
  unfold live_Kill.f killR slices_Clone_bool_bool.f
  rw [if_pos hm]
  simp only [Option.bind_some]
  by_cases h0 : i < 0
  · rw [if_pos h0, if_neg (by omega)]
  · rw [if_neg h0]
    by_cases h1 : i ≥ l.length
    · rw [if_pos h1, if_neg (by omega)]
    · rw [if_neg h1, if_pos (by omega), if_pos (by omega)]
      by_cases h2 : rdOf false l i = true
      · rw [if_pos h2, if_pos (by omega), if_pos ⟨by omega, by omega, h2⟩]
      · rw [if_neg h2, if_neg (fun h => h2 h.2.2)]
theorem and_l0 (a b : List Bool) (he : a.length = b.length) (hm : a.length ≤ 140737488355328) : ∀ (d k i : Nat) (o : List Bool), i + d = a.length → d < k → o.length = i →
    live_And.l0 k a b (o ++ List.replicate d false) a.length i = some (o ++ List.zipWith (fun x y => x && y) (a.drop i) (b.drop i))
  | 0, k, i, o, hd, hk, ho => by
    obtain ⟨k, rfl⟩ : ∃ m, k = m + 1 := ⟨k - 1, by omega⟩
    simp only [live_And.l0]
    rw [if_neg (by omega), List.drop_eq_nil_of_le (by omega)]
    simp
  | d + 1, k, i, o, hd, hk, ho => by
    obtain ⟨k, rfl⟩ : ∃ m, k = m + 1 := ⟨k - 1, by omega⟩
    simp only [live_And.l0]
    have hset : ∀ v : Bool, (o ++ List.replicate (d + 1) false).set ((i : Int)).toNat v = (o ++ [v]) ++ List.replicate d false := by
      intro v
      rw [Int.toNat_natCast, List.set_append_right _ _ (by omega), ho, Nat.sub_self, List.replicate_succ, List.set_cons_zero]
      simp
    have hlen : (o ++ List.replicate (d + 1) false).length = a.length := by simp; omega
    rw [if_pos (by omega), if_pos (by omega), if_pos (by omega), rdb_at a i (by omega), rdb_at b i (by omega), List.zipWith_cons_cons, hset, hset, hlen]
    have w := Aside0.mk (w64n (x := (i : Int) + 1) (i + 1) (by omega) (by omega))
    by_cases hx : rdOf false a i = true
    · rw [if_pos hx, if_pos (by omega), if_pos (by omega), w.out, and_l0 a b he hm d k (i + 1) _ (by omega) (by omega) (by simp; omega), hx]
      simp
    · rw [if_neg hx, if_pos (by omega), w.out, and_l0 a b he hm d k (i + 1) _ (by omega) (by omega) (by simp; omega)]
      simp only [Bool.not_eq_true] at hx
      rw [hx]
      simp
theorem and_f (a b : List Bool) (hm : a.length ≤ 140737488355328) (k : Nat) (hk : a.length < k) : live_And.f k a b = some (both a b) := by
  unfold live_And.f both
  by_cases he : a.length = b.length
  · rw [if_pos (by omega), if_pos (by omega), if_pos (by omega), if_pos he, Int.toNat_natCast]
    have := and_l0 a b he hm a.length k 0 [] (by omega) hk rfl
    simpa using this
  · rw [if_neg (by omega), if_neg he]
theorem or_bit (v : Int) (j : Nat) (hj : j < 8) (h0 : 0 ≤ v) (h1 : v < 2 ^ j) : Go.bits .or .u8 v (shl .u8 1 (j : Int)) = v + 2 ^ j := by
  have hd : ∀ (j : Fin 8) (v : Fin 256), v.val < 2 ^ j.val → Go.bits .or .u8 (v.val : Int) (shl .u8 1 ((j.val : Nat) : Int)) = (v.val : Int) + 2 ^ j.val := by decide +kernel
  have hp : (2 : Int) ^ j ≤ 128 := (show ∀ j : Fin 8, (2 : Int) ^ j.val ≤ 128 by decide) ⟨j, hj⟩
  have := hd ⟨j, hj⟩ ⟨v.toNat, by omega⟩ (by
    show v.toNat < 2 ^ j
    have e : ((2 ^ j : Nat) : Int) = (2 : Int) ^ j := by simp
    omega)
  simp only at this
  rw [show ((v.toNat : Nat) : Int) = v by omega] at this
  exact this
theorem pack_l0 (l : List Bool) (h : List Int) (m : Nat) (hm : l.length ≤ 64) (hh : h.length ≤ 5) (hmm : m = (l.length + 7) / 8) : ∀ (d k i : Nat), i + d = l.length → d < k →
    live_Pack.l0 k l h (h ++ pb m (l.take i)) l.length i = some (h ++ pb m l)
  | 0, k, i, hd, hk => by
    obtain ⟨k, rfl⟩ : ∃ m, k = m + 1 := ⟨k - 1, by omega⟩
    simp only [live_Pack.l0]
    rw [if_neg (by omega), List.take_of_length_le (by omega)]
  | d + 1, k, i, hd, hk => by
    obtain ⟨k, rfl⟩ : ∃ m, k = m + 1 := ⟨k - 1, by omega⟩
    simp only [live_Pack.l0]
    have w := Aside0.mk (w64n (x := (i : Int) + 1) (i + 1) (by omega) (by omega))
    have e1 : Aside0 (wrap64 (Int.tdiv (i : Int) 8) = ((i / 8 : Nat) : Int)) := ⟨w64n _ (by rw [Int.tdiv_eq_ediv_of_nonneg (by omega)]; omega) (by omega)⟩
    have e2 : Aside0 (wrap64 ((h.length : Int) + ((i / 8 : Nat) : Int)) = ((h.length + i / 8 : Nat) : Int)) := ⟨w64n _ (by omega) (by omega)⟩
    have e3 : Int.tmod (i : Int) 8 = ((i % 8 : Nat) : Int) := by rw [Int.tmod_eq_emod_of_nonneg (by omega)]; omega
    have hpl := pb_len m (l.take i)
    have htl : (l.take i).length = i := by rw [List.length_take]; omega
    have hs : l.take (i + 1) = l.take i ++ [rdOf false l i] := by
      rw [rdb l i (by omega), List.take_add_one, List.getElem?_eq_getElem (by omega)]; rfl
    have hp := fun b => pb_snoc m (l.take i) b (by rw [htl]; omega)
    rw [htl] at hp
    have ih := pack_l0 l h m hm hh hmm d k (i + 1) (by omega) (by omega)
    rw [if_pos (by omega), if_pos (by omega), if_pos (by omega), e1.out, e2.out, e3, w.out]
    by_cases hx : rdOf false l i = true
    · have hp := hp true
      rw [hs, hx, hp.1] at ih
      rw [if_pos hx, if_pos (by omega), if_pos (by rw [List.length_append, hpl]; omega), if_pos (by omega)]
      have hr : rd (h ++ pb m (l.take i)) ((h.length + i / 8 : Nat) : Int) = (pb m (l.take i)).getD (i / 8) 0 := by
        simp only [rd, Int.toNat_natCast, List.getD_eq_getElem?_getD]
        rw [List.getElem?_append_right (by omega), Nat.add_sub_cancel_left]
      rw [hr, or_bit _ _ (by omega) hp.2.1 hp.2.2, Int.toNat_natCast, List.set_append_right _ _ (by omega), Nat.add_sub_cancel_left]
      exact ih
    · have hp := hp false
      simp only [Bool.not_eq_true] at hx
      rw [hs, hx, hp.1] at ih
      rw [if_neg (by rw [hx]; decide)]
      rw [show (pb m (l.take i)).set (i / 8) ((pb m (l.take i)).getD (i / 8) 0 + (if false = true then 2 ^ (i % 8) else 0)) = pb m (l.take i) by
        apply List.ext_getElem
        · simp
        · intro j h1 h2
          rw [List.getElem_set]
          split
          · rename_i hj
            subst hj
            simp [List.getD_eq_getElem?_getD, List.getElem?_eq_getElem h2]
          · rfl] at ih
      exact ih
theorem pack_f (l : List Bool) (k : Nat) (hk : 70 ≤ k) : live_Pack.f k l = some (packR l) := by
  unfold live_Pack.f packR
  rw [lmay_f]
  simp only [Option.bind_some, decide_eq_true_eq]
  by_cases h : l.length ≤ 64
  · have hn : Num (l.length : Int) := ⟨by omega, by omega⟩
    have e8 : Aside0 (wrap64 ((l.length : Int) + 8) = ((l.length + 8 : Nat) : Int)) := ⟨w64n _ (by omega) (by omega)⟩
    have e7 : Aside0 (wrap64 (((l.length + 8 : Nat) : Int) - 1) = ((l.length + 7 : Nat) : Int)) := ⟨w64n _ (by omega) (by omega)⟩
    have e1 : Aside0 (wrap64 (Int.tdiv ((l.length + 7 : Nat) : Int) 8) = (((l.length + 7) / 8 : Nat) : Int)) := ⟨w64n _ (by rw [Int.tdiv_eq_ediv_of_nonneg (by omega)]; omega) (by omega)⟩
    have h5 := hn.len
    rw [if_pos h, if_pos h, put_f _ k (by omega), e8.out, e7.out, e1.out]
    simp only [Option.bind_some]
    rw [show putR (l.length : Int) = enc l.length from if_pos hn, if_pos (by omega), Int.toNat_natCast, if_pos (by omega)]
    have := pack_l0 l (enc l.length) ((l.length + 7) / 8) h h5 rfl l.length k 0 (by omega) (by omega)
    rw [List.take_zero, pb_nil] at this
    exact this
  · rw [if_neg h, if_neg h]
theorem equal_l0 (x y : List Int) (he : x.length = y.length) (hm : x.length ≤ 140737488355328) : ∀ (d k i : Nat), d = x.length - i → i ≤ x.length → d < k → slices_Equal_byte_byte.l0 k x y x.length i = some (x.drop i == y.drop i)
  | 0, k, i, hd, hi, hk => by
    obtain ⟨k, rfl⟩ : ∃ m, k = m + 1 := ⟨k - 1, by omega⟩
    simp only [slices_Equal_byte_byte.l0]
    rw [if_neg (by omega), List.drop_eq_nil_of_le (by omega), List.drop_eq_nil_of_le (by omega)]
    rfl
  | d + 1, k, i, hd, hi, hk => by
    obtain ⟨k, rfl⟩ : ∃ m, k = m + 1 := ⟨k - 1, by omega⟩
    simp only [slices_Equal_byte_byte.l0]
    rw [if_pos (by omega), if_pos (by omega), if_pos (by omega), if_pos (by omega), w64n (x := (i : Int) + 1) (i + 1) (by omega) (by omega), equal_l0 x y he hm d k (i + 1) (by omega) (by omega) (by omega),
      rd_at x i (by omega), rd_at y i (by omega), List.cons_beq_cons]
    split
    · rename_i h; rw [h]; simp
    · rename_i h; simp [h]
theorem equal_f (x y : List Int) (hm : x.length ≤ 140737488355328) (k : Nat) (hk : x.length < k) : slices_Equal_byte_byte.f k x y = some (x == y) := by
  unfold slices_Equal_byte_byte.f
  by_cases he : x.length = y.length
  · rw [if_pos (by omega)]
    have := equal_l0 x y he hm x.length k 0 (by omega) (by omega) hk
    simpa using this
  · rw [if_neg (by omega)]
    congr 1
    symm
    rw [beq_eq_false_iff_ne]
    rintro rfl
    exact he rfl
theorem bit_of (c : Int) (j : Nat) (hj : j < 8) (h0 : 0 ≤ c) (h1 : c < 256) : (Go.bits .and .u8 (shr .u8 c (j : Int)) 1 == 1) = bitAt c j := by
  have hd : ∀ (j : Fin 8) (v : Fin 256), (Go.bits .and .u8 (shr .u8 (v.val : Int) ((j.val : Nat) : Int)) 1 == 1) = bitAt (v.val : Int) j.val := by decide +kernel
  have := hd ⟨j, hj⟩ ⟨c.toNat, by omega⟩
  simp only at this
  rw [show ((c.toNat : Nat) : Int) = c by omega] at this
  exact this
theorem unpack_l0 (b : List Int) (n j : Nat) (hn : n ≤ 64) (hj : j ≤ 5) (hb : Byt b) (hl : b.length = j + (n + 7) / 8) : ∀ (d k i : Nat), i + d = n → d + 100 < k →
    live_Unpack.l0 k b j (unb i (b.drop j) ++ List.replicate d false) n i = some (if packR (unb n (b.drop j)) = b then (unb n (b.drop j), 0) else ([], 5))
  | 0, k, i, hd, hk => by
    obtain ⟨k, rfl⟩ : ∃ m, k = m + 1 := ⟨k - 1, by omega⟩
    obtain rfl : i = n := by omega
    simp only [live_Unpack.l0]
    have hp := pack_len (unb i (b.drop j))
    rw [if_neg (by omega), List.replicate_zero, List.append_nil, pack_f _ k (by omega)]
    simp only [Option.bind_some]
    rw [equal_f _ _ (by omega) _ (by omega)]
    simp only [Option.bind_some, beq_iff_eq]
    split <;> rfl
  | d + 1, k, i, hd, hk => by
    obtain ⟨k, rfl⟩ : ∃ m, k = m + 1 := ⟨k - 1, by omega⟩
    simp only [live_Unpack.l0]
    have w := Aside0.mk (w64n (x := (i : Int) + 1) (i + 1) (by omega) (by omega))
    have e1 : Aside0 (wrap64 (Int.tdiv (i : Int) 8) = ((i / 8 : Nat) : Int)) := ⟨w64n _ (by rw [Int.tdiv_eq_ediv_of_nonneg (by omega)]; omega) (by omega)⟩
    have e2 : Aside0 (wrap64 ((j : Int) + ((i / 8 : Nat) : Int)) = ((j + i / 8 : Nat) : Int)) := ⟨w64n _ (by omega) (by omega)⟩
    have e3 : Int.tmod (i : Int) 8 = ((i % 8 : Nat) : Int) := by rw [Int.tmod_eq_emod_of_nonneg (by omega)]; omega
    have hul := unb_len i (b.drop j)
    have hr : rd b ((j + i / 8 : Nat) : Int) = (b.drop j).getD (i / 8) 0 := by
      simp only [rd, Int.toNat_natCast, List.getD_eq_getElem?_getD]
      rw [List.getElem?_drop]
    have hr2 : 0 ≤ rd b ((j + i / 8 : Nat) : Int) ∧ rd b ((j + i / 8 : Nat) : Int) < 256 := hb.drop (j + i / 8) _ (by rw [rd_at b _ (by omega)]; exact List.mem_cons_self ..)
    rw [if_pos (by omega), e1.out, e2.out, e3, if_pos (by omega), if_pos (by omega), if_pos (by omega), if_pos (by omega), if_pos (by rw [List.length_append, hul, List.length_replicate]; omega), w.out,
      bit_of _ _ (by omega) hr2.1 hr2.2, hr, Int.toNat_natCast, List.set_append_right _ _ (by omega), hul, Nat.sub_self, List.replicate_succ, List.set_cons_zero]
    have ih := unpack_l0 b n j hn hj hb hl d k (i + 1) (by omega) (by omega)
    rw [unb_succ] at ih
    rw [← ih]
    congr 1
    simp
theorem unpack_f (b : List Int) (hb : Byt b) (hm : b.length ≤ 140737488351232) (k : Nat) (hk : 200 ≤ k) : live_Unpack.f k b = some (unpackR b) := by
  unfold live_Unpack.f
  rw [get_f b 0 hb hm k (by omega)]
  unfold decR
  rw [if_neg (by omega)]
  simp only [Int.toNat_zero, List.drop_zero]
  have skip : ∀ p q, live_Unpack.j0 k b p q true = some ([], 5) := fun p q => by
    obtain ⟨k, rfl⟩ : ∃ m, k = m + 1 := ⟨k - 1, by omega⟩
    simp only [live_Unpack.j0, if_true]
  cases hd : dec 5 b true with
  | none =>
    simp only [Option.bind_some]
    rw [if_neg (by omega), skip, unpack_none (fun n j h => by rw [hd] at h; cases h)]
  | some p =>
    obtain ⟨n, j⟩ := p
    obtain ⟨h0, h1, h2, h3, h4, h5, _⟩ := enc_dec 5 b true n j hb hd
    obtain ⟨n, rfl⟩ : ∃ m : Nat, n = m := ⟨n.toNat, by omega⟩
    simp only [Option.bind_some, Int.zero_add]
    rw [if_pos trivial]
    by_cases hn : n ≤ 64
    · rw [if_neg (by omega)]
      have e0 : Aside0 (wrap64 ((b.length : Int) - (j : Int)) = ((b.length - j : Nat) : Int)) := ⟨w64n _ (by omega) (by omega)⟩
      have e8 : Aside0 (wrap64 ((n : Int) + 8) = ((n + 8 : Nat) : Int)) := ⟨w64n _ (by omega) (by omega)⟩
      have e7 : Aside0 (wrap64 (((n + 8 : Nat) : Int) - 1) = ((n + 7 : Nat) : Int)) := ⟨w64n _ (by omega) (by omega)⟩
      have e1 : Aside0 (wrap64 (Int.tdiv ((n + 7 : Nat) : Int) 8) = (((n + 7) / 8 : Nat) : Int)) := ⟨w64n _ (by rw [Int.tdiv_eq_ediv_of_nonneg (by omega)]; omega) (by omega)⟩
      rw [e0.out, e8.out, e7.out, e1.out]
      by_cases hl : b.length = j + (n + 7) / 8
      · rw [show ((((b.length - j : Nat) : Int)) != (((n + 7) / 8 : Nat) : Int)) = false by rw [bne_eq_false_iff_eq]; omega]
        obtain ⟨k, rfl⟩ : ∃ m, k = m + 1 := ⟨k - 1, by omega⟩
        simp only [live_Unpack.j0]
        rw [if_neg (by decide), if_pos (by omega), Int.toNat_natCast, if_pos (by omega)]
        have := unpack_l0 b n j hn h4 hb hl n k 0 (by omega) (by omega)
        rw [show unb 0 (b.drop j) = [] from rfl, List.nil_append] at this
        rw [unpack_try hd hn]
        exact this
      · rw [show ((((b.length - j : Nat) : Int)) != (((n + 7) / 8 : Nat) : Int)) = true by rw [bne_iff_ne]; omega, skip, unpack_none]
        intro n' j' h hn' hl'
        rw [hd] at h
        simp only [Option.some.injEq, Prod.mk.injEq] at h
        obtain ⟨e1, e2⟩ := h
        obtain rfl : n = n' := by omega
        subst e2
        exact hl hl'
    · rw [if_pos (by omega), skip, unpack_none]
      intro n' j' h hn' hl'
      rw [hd] at h
      simp only [Option.some.injEq, Prod.mk.injEq] at h
      omega
end Go.Proofs.Ytjjdnefonmlanaa.VLivePacks
