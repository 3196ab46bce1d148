/- What the program's Pack and Unpack tell, for the functions printed for one law. -/
import Derived.Test.YtamofikjjkpejaaDFunDictPacks
import Derived.Test.YtamofikjjkpejaaDPack
namespace Go.Proofs.Ytamofikjjkpejaa.VDictPacks
open Go Go.RowKit Go.Proofs.Ytamofikjjkpejaa.PDictPacks Go.Proofs.YtamofikjjkpejaaW.PrintWords Go.Proofs.YtamofikjjkpejaaW.PrintLast Go.Proofs.YtamofikjjkpejaaW.PrintMore Go.Proofs.Ytamofikjjkpejaa.VSpec Go.Proofs.Ytamofikjjkpejaa.DSpec

theorem btd (a : ByteArray) (i : Nat) (h : i < a.size) : (bytesOf a).drop i = bt a i :: (bytesOf a).drop (i + 1) := by
  rw [← rd_bytesOf]
  exact rd_at _ i (by rw [bytesOf_length]; exact h)
theorem shared_l0 (a b : ByteArray) (hm : a.size ≤ 140737488355328) : ∀ (d k i : Nat), i + d = a.size → i ≤ b.size → d < k → dict_shared.l0 k a b i = some ((i + sh ((bytesOf a).drop i) ((bytesOf b).drop i) : Nat) : Int)
  | 0, k, i, hd, hb, hk => by
    obtain ⟨k, rfl⟩ : ∃ m, k = m + 1 := ⟨k - 1, by omega⟩
    simp only [dict_shared.l0]
    rw [if_neg (by unfold mn; split <;> omega), List.drop_eq_nil_of_le (show (bytesOf a).length ≤ i by rw [bytesOf_length]; omega)]
    simp [sh]
  | d + 1, k, i, hd, hb, hk => by
    obtain ⟨k, rfl⟩ : ∃ m, k = m + 1 := ⟨k - 1, by omega⟩
    simp only [dict_shared.l0]
    by_cases h : i < b.size
    · rw [if_pos (by unfold mn; split <;> omega), if_pos (by omega), if_pos (by omega), if_pos (by omega), btd a i (by omega), btd b i h, w64n (x := (i : Int) + 1) (i + 1) (by omega) (by omega), shared_l0 a b hm d k (i + 1) (by omega) (by omega) (by omega)]
      simp only [sh]
      by_cases e : bt a i = bt b i
      · rw [if_pos e, if_pos e]
        congr 2; omega
      · rw [if_neg e, if_neg e]
        rfl
    · rw [if_neg (by unfold mn; split <;> omega), List.drop_eq_nil_of_le (show (bytesOf b).length ≤ i by rw [bytesOf_length]; omega), btd a i (by omega)]
      simp [sh]
theorem shared_f (a b : ByteArray) (hm : a.size ≤ 140737488355328) (k : Nat) (hk : a.size < k) : dict_shared.f k a b = some ((sh (bytesOf a) (bytesOf b) : Nat) : Int) := by
  unfold dict_shared.f
  have := shared_l0 a b hm a.size k 0 (by omega) (by omega) hk
  simpa using this
theorem texts_l0 (x y : List ByteArray) (he : x.length = y.length) (hm : x.length ≤ 140737488355328) : ∀ (d k i : Nat), d = x.length - i → i ≤ x.length → d < k → catchwordref05_Texts.l0 k x y i = some ((ws x).drop i == (ws y).drop i)
  | 0, k, i, hd, hi, hk => by
    obtain ⟨k, rfl⟩ : ∃ m, k = m + 1 := ⟨k - 1, by omega⟩
    simp only [catchwordref05_Texts.l0]
    rw [if_neg (by omega), List.drop_eq_nil_of_le (by rw [ws_len]; omega), List.drop_eq_nil_of_le (by rw [ws_len]; omega)]
    rfl
  | d + 1, k, i, hd, hi, hk => by
    obtain ⟨k, rfl⟩ : ∃ m, k = m + 1 := ⟨k - 1, by omega⟩
    simp only [catchwordref05_Texts.l0]
    rw [if_pos (by omega), if_pos (by omega), if_pos (by omega), w64n (x := (i : Int) + 1) (i + 1) (by omega) (by omega), texts_l0 x y he hm d k (i + 1) (by omega) (by omega) (by omega), ws_drop x i (by omega), ws_drop y i (by omega), List.cons_beq_cons]
    by_cases h : wd x i = wd y i
    · rw [if_pos ((same_iff _ _).2 h), h]; simp
    · rw [if_neg (fun h' => h ((same_iff _ _).1 h'))]; simp [h]
theorem texts_f (x y : List ByteArray) (hm : x.length ≤ 140737488355328) (k : Nat) (hk : x.length < k) : catchwordref05_Texts.f k x y = some (ws x == ws y) := by
  unfold catchwordref05_Texts.f
  by_cases he : x.length = y.length
  · rw [if_pos (by omega)]
    have := texts_l0 x y he hm x.length k 0 (by omega) (by omega) hk
    simpa using this
  · rw [if_neg (by omega)]
    congr 1
    symm
    rw [beq_eq_false_iff_ne]
    intro h
    exact he (by rw [← ws_len, h, ws_len])
theorem strOf_bytes (l : List Int) (h : Byt l) : bytesOf (strOfNums l) = l := by
  unfold bytesOf
  rw [strOfNums_data, List.map_map]
  refine (List.map_congr_left (fun x hx => ?_)).trans (List.map_id l)
  have := h x hx
  simp only [Function.comp_apply, id_eq]
  rw [UInt8.toNat_ofNat_of_lt' (by show x.toNat < 256; omega)]
  omega
theorem bytes_append (a b : ByteArray) : bytesOf (a ++ b) = bytesOf a ++ bytesOf b := by
  unfold bytesOf
  rw [ByteArray.data_append, Array.toList_append, List.map_append]
theorem bytes_take (a : ByteArray) (n : Nat) : bytesOf (a.extract 0 n) = (bytesOf a).take n := by
  unfold bytesOf
  rw [ByteArray.data_extract, Array.toList_extract, List.extract_eq_take_drop, List.drop_zero, Nat.sub_zero, List.map_take]
theorem bytes_drop (a : ByteArray) (n : Nat) : bytesOf (a.extract n a.size) = (bytesOf a).drop n := by
  unfold bytesOf
  rw [ByteArray.data_extract, Array.toList_extract, List.extract_eq_take_drop, List.map_take, List.map_drop, List.take_of_length_le]
  rw [List.length_drop, List.length_map, data_length]
  omega

/-- A word is put behind another one. -/
theorem pack_l0 (l : List ByteArray) (hl : l.length ≤ 200) (hs : ∀ x ∈ l, x.size ≤ 40) : ∀ (d k i : Nat) (o : List Int) (p : ByteArray), i + d = l.length → d + 100 < k → o.length + 60 * d ≤ 100000 → p.size ≤ 40 →
    dict_Pack.l0 k o p l l.length i = some (o ++ packW (bytesOf p) ((ws l).drop i))
  | 0, k, i, o, p, hd, hk, ho, hp => by
    obtain ⟨k, rfl⟩ : ∃ m, k = m + 1 := ⟨k - 1, by omega⟩
    simp only [dict_Pack.l0]
    rw [if_neg (by omega), List.drop_eq_nil_of_le (by rw [ws_len]; omega)]
    simp [packW]
  | d + 1, k, i, o, p, hd, hk, ho, hp => by
    obtain ⟨k, rfl⟩ : ∃ m, k = m + 1 := ⟨k - 1, by omega⟩
    simp only [dict_Pack.l0]
    have hsz : (rdOf ByteArray.empty l (i : Int)).size ≤ 40 := by rw [size_eq]; exact wd_le l 40 hs i
    have hsh := sh_le (bytesOf p) (bytesOf (rdOf ByteArray.empty l (i : Int)))
    rw [bytesOf_length, bytesOf_length] at hsh
    have e0 : wd l i = bytesOf (rdOf ByteArray.empty l (i : Int)) := rfl
    rw [if_pos (by omega), if_pos (by omega), if_pos (by omega), shared_f p _ (by omega) k (by omega), Option.bind_some, ws_drop l i (by omega), e0]
    generalize rdOf ByteArray.empty l (i : Int) = t at hsz hsh
    simp only [packW, wb, bytesOf_length]
    generalize sh (bytesOf p) (bytesOf t) = s at hsh
    have n1 : Num (s : Int) := ⟨by omega, by omega⟩
    have n2 : Num ((t.size - s : Nat) : Int) := ⟨by omega, by omega⟩
    have l1 := n1.len
    have l2 := n2.len
    have hw := Aside0.mk (w64n (x := (t.size : Int) - (s : Int)) (t.size - s) (by omega) (by omega))
    have hsize : (t.extract s t.size).size = t.size - s := by rw [size_eq, bytes_drop, List.length_drop, bytesOf_length]
    rw [put_f _ k (by omega), hw.out, put_f _ k (by omega)]
    simp only [Option.bind_some, putR, if_pos n1, if_pos n2, Int.toNat_natCast]
    rw [if_pos (by omega), if_pos (by rw [List.length_append]; omega), if_pos (by omega), if_pos (by omega), if_pos (by rw [hsize, List.length_append, List.length_append]; omega), w64n (x := (i : Int) + 1) (i + 1) (by omega) (by omega), bytes_drop,
      pack_l0 l hl hs d k (i + 1) _ t (by omega) (by omega) (by simp only [List.length_append, List.length_drop, bytesOf_length]; omega) hsz]
    simp only [List.append_assoc]
theorem pack_f (l : List ByteArray) (hl : l.length ≤ 300) (hs : ∀ x ∈ l, x.size ≤ 40) (k : Nat) (hk : 1000 ≤ k) : dict_Pack.f k l = some (packR (ws l)) := by
  unfold dict_Pack.f packR
  rw [dmay_f l (by omega) k (by omega)]
  simp only [Option.bind_some]
  cases hm : mayR (ws l) with
  | false => rfl
  | true =>
    obtain ⟨_, h200⟩ := may_sorted hm
    have hn : Num (l.length : Int) := ⟨by omega, by omega⟩
    have h5 := hn.len
    rw [if_pos rfl, if_pos rfl, put_f _ k (by omega), Option.bind_some, show putR (l.length : Int) = enc l.length from if_pos hn, ws_len]
    exact pack_l0 l h200 hs l.length k 0 _ _ (by omega) (by omega) (by omega) (by decide)

def wordO (l0 : List Int) (a : Nat) (p : ByteArray) : ByteArray × Int := match wordR (l0.drop a) (bytesOf p) with
  | none => (⟨#[]⟩, 0)
  | some (t, q) => (strOfNums t, ((a + q : Nat) : Int))
theorem word_f (l : List Int) (hb : Byt l) (hm : l.length ≤ 140737488351232) (a : Nat) (ha : a ≤ l.length) (p : ByteArray) (hp : p.size ≤ 140737488351232) (k : Nat) (hk : p.size + 100 < k) : dict_word.f k l a p = some (wordO l a p) := by
  obtain ⟨k, rfl⟩ : ∃ m, k = m + 2 := ⟨k - 2, by omega⟩
  unfold dict_word.f wordO wordR
  rw [get_f l a hb hm (k + 2) (by omega)]
  unfold decR
  rw [if_neg (by omega)]
  simp only [Int.toNat_natCast]
  have skip0 : ∀ x y, dict_word.j0 (k + 2) l x p y true = some (⟨#[]⟩, 0) := fun x y => by simp only [dict_word.j0, if_true]
  cases hd : dec 5 (l.drop a) true with
  | none =>
    simp only [Option.bind_some]
    rw [if_neg (by omega), skip0]
  | some z =>
    obtain ⟨s, j⟩ := z
    obtain ⟨a1, a2, a3, a4, a5, a6, _⟩ := enc_dec 5 (l.drop a) true s j (hb.drop a) hd
    rw [List.length_drop] at a4
    simp only [Option.bind_some]
    rw [if_pos trivial, bytesOf_length]
    by_cases hs : s > (p.size : Int)
    · rw [decide_eq_true hs, skip0, if_pos hs]
    · rw [decide_eq_false hs, if_neg hs]
      simp only [dict_word.j0]
      rw [if_neg (by decide), show (a : Int) + (j : Int) = ((a + j : Nat) : Int) by omega, get_f l ((a + j : Nat) : Int) hb hm (k + 1) (by omega)]
      unfold decR
      rw [if_neg (by omega)]
      simp only [Int.toNat_natCast]
      have skip1 : ∀ x y q, dict_word.j1 (k + 1) l x p y q true = some (⟨#[]⟩, 0) := fun x y q => by simp only [dict_word.j1, if_true]
      rw [List.drop_drop]
      cases hd2 : dec 5 (l.drop (a + j)) true with
      | none =>
        simp only [Option.bind_some]
        rw [if_neg (by omega), skip1]
      | some z =>
        obtain ⟨n, j2⟩ := z
        obtain ⟨c1, c2, c3, c4, c5, c6, _⟩ := enc_dec 5 (l.drop (a + j)) true n j2 (hb.drop (a + j)) hd2
        rw [List.length_drop] at c4
        simp only [Option.bind_some]
        rw [if_pos trivial, show ((a + j : Nat) : Int) + (j2 : Int) = ((a + j + j2 : Nat) : Int) by omega, w64n (x := (l.length : Int) - ((a + j + j2 : Nat) : Int)) (l.length - (a + j + j2)) (by omega) (by omega), List.length_drop]
        by_cases hn : n > ((l.length - (a + j + j2) : Nat) : Int)
        · rw [decide_eq_true hn, skip1, if_pos (by omega)]
        · rw [decide_eq_false hn, if_neg (by omega)]
          simp only [dict_word.j1]
          obtain ⟨n, rfl⟩ : ∃ m : Nat, n = m := ⟨n.toNat, by omega⟩
          obtain ⟨s, rfl⟩ : ∃ m : Nat, s = m := ⟨s.toNat, by omega⟩
          have hw := Aside0.mk (w64n (x := ((a + j + j2 : Nat) : Int) + (n : Int)) (a + j + j2 + n) (by omega) (by omega))
          rw [hw.out, if_neg (by decide), if_pos (by omega), if_pos (by omega), if_pos (by omega), if_pos (by omega), if_pos (by omega)]
          simp only [Int.toNat_natCast]
          have hX : (l.take (a + j + j2 + n)).drop (a + j + j2) = (l.drop (a + j + j2)).take n := by rw [List.drop_take]; congr 1; omega
          have hXb : Byt ((l.drop (a + j + j2)).take n) := (hb.drop _).take _
          have hXl : ((l.drop (a + j + j2)).take n).length ≤ n := by rw [List.length_take]; omega
          rw [hX, List.drop_drop, show a + (j + j2) = a + j + j2 by omega]
          have hszz : (p.extract 0 s).size + (strOfNums ((l.drop (a + j + j2)).take n)).size ≤ 9223372036854775807 := by
            rw [strOfNums_size, size_eq, bytes_take, List.length_take, bytesOf_length]; omega
          have hbt : bytesOf (p.extract 0 s ++ strOfNums ((l.drop (a + j + j2)).take n)) = (bytesOf p).take s ++ (l.drop (a + j + j2)).take n := by rw [bytes_append, bytes_take, strOf_bytes _ hXb]
          rw [if_pos hszz, shared_f p _ (by omega) k (by omega), Option.bind_some, hbt]
          by_cases hq : ((sh (bytesOf p) ((bytesOf p).take s ++ (l.drop (a + j + j2)).take n) : Nat) : Int) = (s : Int)
          · rw [if_pos hq, if_pos hq]
            have : strOfNums ((bytesOf p).take s ++ (l.drop (a + j + j2)).take n) = p.extract 0 s ++ strOfNums ((l.drop (a + j + j2)).take n) := by
              refine bytesOf_inj ?_
              rw [hbt, strOf_bytes]
              exact ((bytesOf_byt p).take s).app hXb
            simp only [this]
            congr 2
            omega
          · rw [if_neg hq, if_neg hq]
def strs (L : List (List Int)) : List ByteArray := L.map strOfNums
theorem ws_strs (L : List (List Int)) (h : ∀ x ∈ L, Byt x) : ws (strs L) = L := by
  unfold ws strs
  rw [List.map_map]
  refine (List.map_congr_left (fun x hx => ?_)).trans (List.map_id L)
  simp only [Function.comp_apply, id_eq]
  exact strOf_bytes x (h x hx)
theorem wordR_byt {b p t : List Int} {q : Nat} (hb : Byt b) (hp : Byt p) (h : wordR b p = some (t, q)) : Byt t := by
  unfold wordR at h
  split at h
  · cases h
  · split at h
    · cases h
    · split at h
      · cases h
      · split at h
        · cases h
        · split at h
          · simp only [Option.some.injEq, Prod.mk.injEq] at h
            obtain ⟨rfl, rfl⟩ := h
            exact (hp.take _).app ((hb.drop _).take _)
          · cases h
theorem readW_byt : ∀ (m : Nat) (p b : List Int) (L : List (List Int)) (q : Nat), Byt b → Byt p → readW m p b = some (L, q) → ∀ x ∈ L, Byt x
  | 0, _, _, L, q, _, _, h => by
    simp only [readW, Option.some.injEq, Prod.mk.injEq] at h
    obtain ⟨rfl, rfl⟩ := h
    intro x hx
    cases hx
  | m + 1, p, b, L, q, hb, hp, h => by
    simp only [readW] at h
    cases hw : wordR b p with
    | none => rw [hw] at h; cases h
    | some z =>
      obtain ⟨t, q1⟩ := z
      rw [hw] at h
      simp only at h
      cases hr : readW m t (b.drop q1) with
      | none => rw [hr] at h; cases h
      | some z =>
        obtain ⟨L', q2⟩ := z
        rw [hr] at h
        simp only [Option.map_some, Option.some.injEq, Prod.mk.injEq] at h
        obtain ⟨rfl, rfl⟩ := h
        have ht := wordR_byt hb hp hw
        intro x hx
        rcases List.mem_cons.1 hx with rfl | hx
        · exact ht
        · exact readW_byt m t _ L' q2 (hb.drop q1) ht hr x hx
theorem unpack_l0 (l : List Int) (hb : Byt l) (hm : l.length ≤ 100000) (many : Nat) (hmm : many ≤ 200) : ∀ (d k i a : Nat) (o : List ByteArray) (p : ByteArray), d = many - i → i ≤ many → a ≤ l.length → p.size ≤ a → o.length + d ≤ 200 → 1 ≤ a → d + l.length + 500 < k →
    dict_Unpack.l0 k l a o p many i = some (match readW d (bytesOf p) (l.drop a) with
      | none => ([], 5)
      | some (L, q) => if a + q = l.length ∧ mayR (ws (o ++ strs L)) = true then (o ++ strs L, 0) else ([], 5))
  | 0, k, i, a, o, p, hd, hi, ha, hp, ho, h1, hk => by
    obtain ⟨k, rfl⟩ : ∃ m, k = m + 1 := ⟨k - 1, by omega⟩
    simp only [dict_Unpack.l0, readW]
    rw [if_neg (by omega)]
    simp only [strs, List.map_nil, List.append_nil, Nat.add_zero]
    by_cases he : a = l.length
    · rw [if_pos (by omega), dmay_f o (by omega) k (by omega), Option.bind_some]
      cases mayR (ws o) with
      | true => rw [if_pos rfl, if_pos ⟨he, rfl⟩]
      | false => rw [if_neg (by decide), if_neg (fun h => by cases h.2)]
    · rw [if_neg (by omega), if_neg (fun h => he h.1)]
  | d + 1, k, i, a, o, p, hd, hi, ha, hp, ho, h1, hk => by
    obtain ⟨k, rfl⟩ : ∃ m, k = m + 1 := ⟨k - 1, by omega⟩
    simp only [dict_Unpack.l0, readW]
    rw [if_pos (by omega), word_f l hb (by omega) a ha p (by omega) k (by omega), Option.bind_some]
    unfold wordO
    cases hw : wordR (l.drop a) (bytesOf p) with
    | none => rw [if_pos rfl]
    | some z =>
      obtain ⟨t, q⟩ := z
      obtain ⟨c1, c2, c3, _⟩ := wordR_spec (hb.drop a) hw
      rw [List.length_drop] at c1
      rw [bytesOf_length] at c3
      have htb := wordR_byt (hb.drop a) (bytesOf_byt p) hw
      simp only
      have hts : (strOfNums t).size ≤ a + q := by rw [strOfNums_size]; omega
      rw [if_neg (by omega), if_pos (by omega), w64n (x := (i : Int) + 1) (i + 1) (by omega) (by omega), unpack_l0 l hb hm many hmm d k (i + 1) (a + q) (o ++ [strOfNums t]) (strOfNums t) (by omega) (by omega) (by omega) hts (by rw [List.length_append]; simp; omega) (by omega) (by omega), strOf_bytes t htb, List.drop_drop]
      cases readW d t (l.drop (a + q)) with
      | none => rfl
      | some z =>
        obtain ⟨L, q2⟩ := z
        simp only [Option.map_some, strs, List.map_cons, List.append_assoc, List.cons_append, List.nil_append, ← Nat.add_assoc]
def unpackO (b : List Int) : List ByteArray × Int := (strs (unpackR b).1, (unpackR b).2)
theorem unpack_f (l : List Int) (hb : Byt l) (hm : l.length ≤ 100000) (k : Nat) (hk : l.length + 1000 < k) : dict_Unpack.f k l = some (unpackO l) := by
  obtain ⟨k, rfl⟩ : ∃ m, k = m + 1 := ⟨k - 1, by omega⟩
  unfold dict_Unpack.f unpackO unpackR
  rw [get_f l 0 hb (by omega) (k + 1) (by omega)]
  unfold decR
  rw [if_neg (by omega)]
  simp only [Int.toNat_zero, List.drop_zero]
  have skip : ∀ x y, dict_Unpack.j0 (k + 1) l x y true = some ([], 5) := fun x y => by simp only [dict_Unpack.j0, if_true]
  cases hd : dec 5 l true with
  | none =>
    simp only [Option.bind_some]
    rw [if_neg (by omega), skip]
    rfl
  | some z =>
    obtain ⟨n, j⟩ := z
    obtain ⟨a1, a2, a3, a4, a5, a6, _⟩ := enc_dec 5 l true n j hb hd
    simp only [Option.bind_some, Int.zero_add]
    rw [if_pos trivial]
    by_cases hn : n > 200
    · rw [decide_eq_true hn, skip, if_pos hn]
      rfl
    · rw [decide_eq_false hn, if_neg hn]
      obtain ⟨n, rfl⟩ : ∃ m : Nat, n = m := ⟨n.toNat, by omega⟩
      simp only [dict_Unpack.j0, Int.toNat_natCast]
      rw [if_neg (by decide)]
      have := unpack_l0 l hb hm n (by omega) n k 0 j [] ⟨#[]⟩ (by omega) (by omega) a4 (Nat.zero_le _) (by simp; omega) a3 (by omega)
      rw [show bytesOf (⟨#[]⟩ : ByteArray) = [] from rfl, show ((0 : Nat) : Int) = 0 from rfl] at this
      rw [this]
      cases hr : readW n [] (l.drop j) with
      | none => rfl
      | some z =>
        obtain ⟨L, q⟩ := z
        simp only [List.nil_append]
        rw [ws_strs L (readW_byt n [] _ L q (hb.drop j) Byt.nil hr)]
        split <;> rfl
theorem unpackO_cases (b : List Int) (hb : Byt b) : (∃ l : List ByteArray, mayR (ws l) = true ∧ packR (ws l) = b ∧ unpackO b = (l, 0)) ∨ unpackO b = ([], 5) := by
  by_cases h0 : (unpackR b).2 = 0
  · obtain ⟨L, e⟩ : ∃ L, unpackR b = (L, 0) := ⟨(unpackR b).1, by rw [← h0]⟩
    obtain ⟨m1, m2⟩ := pack_unpack hb e
    have hL : ∀ x ∈ L, Byt x := by
      unfold unpackR at e
      split at e
      · simp at e
      · split at e
        · simp at e
        · split at e
          · simp at e
          · rename_i hr
            split at e
            · simp only [Prod.mk.injEq, and_true] at e
              subst e
              exact readW_byt _ [] _ _ _ (hb.drop _) Byt.nil hr
            · simp at e
    refine .inl ⟨strs L, ?_, ?_, ?_⟩
    · rw [ws_strs L hL]; exact m1
    · rw [ws_strs L hL]; exact m2
    · unfold unpackO; rw [e]
  · right
    unfold unpackO
    rw [unpack_err b h0]
    rfl
theorem unpackO_pack (l : List ByteArray) (h : mayR (ws l) = true) : unpackO (packR (ws l)) = (l, 0) := by
  unfold unpackO
  rw [unpack_pack h]
  simp only [Prod.mk.injEq, and_true]
  refine ws_inj ?_
  rw [ws_strs]
  intro x hx
  obtain ⟨y, _, rfl⟩ := List.mem_map.1 hx
  exact bytesOf_byt y
theorem ws_byt (l : List ByteArray) : ∀ x ∈ ws l, Byt x := by
  intro x hx
  obtain ⟨y, _, rfl⟩ := List.mem_map.1 hx
  exact bytesOf_byt y
theorem may_size {l : List ByteArray} (h : mayR (ws l) = true) : ∀ x ∈ l, x.size ≤ 40 := by
  intro x hx
  have := (mayR_mem h).2 (bytesOf x) (List.mem_map.2 ⟨x, hx, rfl⟩)
  rw [size_eq]; omega
end Go.Proofs.Ytamofikjjkpejaa.VDictPacks
