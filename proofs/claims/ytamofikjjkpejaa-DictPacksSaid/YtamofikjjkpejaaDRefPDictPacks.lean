/- What the reference's May, Pack and Unpack tell, for the functions printed for one law. -/
import Derived.Test.YtamofikjjkpejaaDPackFDictPacks
import Derived.Test.YtamofikjjkpejaaRGetDictPacks
namespace Go.Proofs.Ytamofikjjkpejaa.DSpec
open Go Go.RowKit Go.Proofs.YtamofikjjkpejaaW.PrintWords Go.Proofs.YtamofikjjkpejaaW.PrintLast Go.Proofs.YtamofikjjkpejaaW.PrintMore Go.Proofs.Ytamofikjjkpejaa.VSpec

/-- What the reference reads: it asks no more than that the words' bytes are there. -/
def wordX (b ahead : List Int) : Option (List Int × Nat) :=
  match dec 5 b true with
  | none => none
  | some (s, j) => match dec 5 (b.drop j) true with
    | none => none
    | some (n, j2) => if s > ahead.length then none else if n > (b.length : Int) - (j + j2 : Nat) then none
      else some (ahead.take s.toNat ++ (b.drop (j + j2)).take n.toNat, j + j2 + n.toNat)
def readX : Nat → List Int → List Int → Option (List (List Int) × Nat)
  | 0, _, _ => some ([], 0)
  | m + 1, ahead, b => match wordX b ahead with
    | none => none
    | some (t, q) => (readX m t (b.drop q)).map (fun p => (t :: p.1, q + p.2))
theorem wordX_of {b ahead : List Int} {p : List Int × Nat} (h : wordR b ahead = some p) : wordX b ahead = some p := by
  unfold wordR at h
  unfold wordX
  cases hd : dec 5 b true with
  | none => rw [hd] at h; cases h
  | some z =>
    obtain ⟨s, j⟩ := z
    rw [hd] at h
    simp only at h ⊢
    split at h
    · cases h
    · rename_i hs
      cases hd2 : dec 5 (b.drop j) true with
      | none => rw [hd2] at h; cases h
      | some z =>
        obtain ⟨n, j2⟩ := z
        rw [hd2] at h
        simp only at h ⊢
        rw [if_neg hs]
        split at h
        · cases h
        · rename_i hn
          rw [if_neg hn]
          split at h
          · exact h
          · cases h
theorem readX_of : ∀ (m : Nat) (ahead b : List Int) (p : List (List Int) × Nat), readW m ahead b = some p → readX m ahead b = some p
  | 0, _, _, _, h => h
  | m + 1, ahead, b, p, h => by
    simp only [readW] at h
    simp only [readX]
    cases hw : wordR b ahead with
    | none => rw [hw] at h; cases h
    | some z =>
      obtain ⟨t, q⟩ := z
      rw [hw] at h
      rw [wordX_of hw]
      simp only at h ⊢
      cases hr : readW m t (b.drop q) with
      | none => rw [hr] at h; cases h
      | some z =>
        rw [hr] at h
        rw [readX_of m t _ z hr]
        exact h
def unpackX (b : List Int) : List (List Int) × Int :=
  match dec 5 b true with
  | none => ([], 5)
  | some (n, j) => if n > 200 then ([], 5) else match readX n.toNat [] (b.drop j) with
    | none => ([], 5)
    | some (L, _) => if mayR L = true ∧ packR L = b then (L, 0) else ([], 5)
/-- Both read the same. -/
theorem unpackX_eq {b : List Int} (hb : Byt b) : unpackX b = unpackR b := by
  by_cases h0 : (unpackR b).2 = 0
  · obtain ⟨L, e⟩ : ∃ L, unpackR b = (L, 0) := ⟨(unpackR b).1, by rw [← h0]⟩
    obtain ⟨m1, m2⟩ := pack_unpack hb e
    obtain ⟨d1, d2, d3⟩ := pack_read m1 []
    rw [List.append_nil] at d1 d2
    rw [e, ← m2]
    unfold unpackX
    rw [d1]
    simp only [Int.toNat_natCast]
    rw [if_neg (by have := (mayR_mem m1).1; omega), readX_of _ _ _ _ d2]
    simp only
    rw [if_pos ⟨m1, trivial⟩]
  · have e := unpack_err b h0
    rw [e]
    unfold unpackX
    split
    · rfl
    · split
      · rfl
      · split
        · rfl
        · split
          · rename_i h
            exact absurd (by rw [← h.2, unpack_pack h.1]) h0
          · rfl
theorem wordX_spec {b ahead t : List Int} {q : Nat} (hb : Byt b) (h : wordX b ahead = some (t, q)) : q ≤ b.length ∧ 2 ≤ q ∧ t.length ≤ ahead.length + q := by
  unfold wordX at h
  cases hd : dec 5 b true with
  | none => rw [hd] at h; cases h
  | some p =>
    obtain ⟨s, j⟩ := p
    obtain ⟨a1, a2, a3, a4, a5, a6, _⟩ := enc_dec 5 b true s j hb hd
    rw [hd] at h
    simp only at h
    cases hd2 : dec 5 (b.drop j) true with
    | none => rw [hd2] at h; cases h
    | some p =>
      obtain ⟨n, j2⟩ := p
      obtain ⟨c1, c2, c3, c4, c5, c6, _⟩ := enc_dec 5 (b.drop j) true n j2 (hb.drop j) hd2
      rw [List.length_drop] at c4
      rw [hd2] at h
      simp only at h
      split at h
      · cases h
      · rename_i hs
        split at h
        · cases h
        · rename_i hn
          simp only [Option.some.injEq, Prod.mk.injEq] at h
          obtain ⟨rfl, rfl⟩ := h
          have hX : ((b.drop (j + j2)).take n.toNat).length = n.toNat := by rw [List.length_take, List.length_drop]; omega
          have hS : (ahead.take s.toNat).length = s.toNat := by rw [List.length_take]; omega
          refine ⟨by omega, by omega, by rw [List.length_append, hX, hS]; omega⟩
end Go.Proofs.Ytamofikjjkpejaa.DSpec
namespace Go.Proofs.Ytamofikjjkpejaa.VDictPacks
open Go Go.RowKit Go.Proofs.Ytamofikjjkpejaa.PDictPacks Go.Proofs.YtamofikjjkpejaaW.PrintWords Go.Proofs.YtamofikjjkpejaaW.PrintLast Go.Proofs.YtamofikjjkpejaaW.PrintMore Go.Proofs.Ytamofikjjkpejaa.VSpec Go.Proofs.Ytamofikjjkpejaa.DSpec

theorem rbelow_l0 (a b : ByteArray) (hm : a.size ≤ 140737488355328) : ∀ (d k i : Nat), i + d = a.size → i ≤ b.size → 2 * d + 2 < k → catchwordref03_Below.l0 k a b i = some (lt ((bytesOf a).drop i) ((bytesOf b).drop i))
  | 0, k, i, hd, hb, hk => by
    obtain ⟨k, rfl⟩ : ∃ m, k = m + 2 := ⟨k - 2, by omega⟩
    simp only [catchwordref03_Below.l0, catchwordref03_Below.j1]
    rw [if_neg (by omega), if_neg (by decide), List.drop_eq_nil_of_le (by rw [bytesOf_length]; omega)]
    by_cases h : i < b.size
    · rw [btd b i h, decide_eq_true (by omega)]
      rfl
    · rw [List.drop_eq_nil_of_le (by rw [bytesOf_length]; omega), decide_eq_false (by omega)]
      rfl
  | d + 1, k, i, hd, hb, hk => by
    obtain ⟨k, rfl⟩ : ∃ m, k = m + 2 := ⟨k - 2, by omega⟩
    simp only [catchwordref03_Below.l0, catchwordref03_Below.j1]
    rw [if_pos (by omega), btd a i (by omega)]
    by_cases h : i < b.size
    · rw [if_pos (decide_eq_true (by omega)), if_pos (by omega), if_pos (by omega), if_pos (by omega), btd b i h, w64n (x := (i : Int) + 1) (i + 1) (by omega) (by omega), rbelow_l0 a b hm d k (i + 1) (by omega) (by omega) (by omega)]
      simp only [lt]
      by_cases e : bt a i = bt b i
      · rw [if_pos e, decide_eq_true e, decide_eq_false (by omega : ¬ bt a i < bt b i)]
        simp
      · rw [if_neg e, decide_eq_false e]
        simp
    · rw [if_neg (by simp; omega), List.drop_eq_nil_of_le (show (bytesOf b).length ≤ i by rw [bytesOf_length]; omega), decide_eq_false (by omega)]
      rfl
theorem rbelow_f (a b : ByteArray) (n : Nat) (ha : a.size ≤ n) (hn : n ≤ 1000) (k : Nat) (hk : 2 * n + 2 < k) : catchwordref03_Below.f k a b = some (lt (bytesOf a) (bytesOf b)) := by
  unfold catchwordref03_Below.f
  have := rbelow_l0 a b (by omega) a.size k 0 (by omega) (by omega) (by omega)
  simpa using this
theorem rmay_l0 (l : List ByteArray) (hm : l.length ≤ 300) : ∀ (d k i : Nat), i + d = l.length → (i = 0 ∨ (wd l (i - 1)).length ≤ 32) → 2 * d + 200 < k → catchwordref07_May.l0 k l i = some (DSpec.chk (prevOf l i) ((ws l).drop i))
  | 0, k, i, hd, hp, hk => by
    obtain ⟨k, rfl⟩ : ∃ m, k = m + 1 := ⟨k - 1, by omega⟩
    simp only [catchwordref07_May.l0]
    rw [if_neg (by omega), List.drop_eq_nil_of_le (by rw [ws_len]; omega)]
    rfl
  | d + 1, k, i, hd, hp, hk => by
    obtain ⟨k, rfl⟩ : ∃ m, k = m + 2 := ⟨k - 2, by omega⟩
    simp only [catchwordref07_May.l0, catchwordref07_May.j1]
    rw [if_pos (by omega), if_pos (by omega), wd_size, ws_drop l i (by omega), w64n (x := (i : Int) + 1) (i + 1) (by omega) (by omega)]
    simp only [DSpec.chk]
    by_cases h1 : (wd l i).length < 1
    · rw [if_pos (by omega), decide_eq_false (by omega)]; simp
    · rw [if_neg (by omega), decide_eq_true (by omega : 1 ≤ (wd l i).length)]
      by_cases h2 : (wd l i).length ≤ 32
      · have ih := rmay_l0 l hm d k (i + 1) (by omega) (.inr (by rw [Nat.add_sub_cancel]; exact h2)) (by omega)
        rw [show prevOf l (i + 1) = some (wd l i) from by simp [prevOf]] at ih
        rw [if_neg (by omega), decide_eq_true h2, ih]
        by_cases h3 : i = 0
        · rw [if_neg (by omega)]
          simp [prevOf, h3]
        · have hpr : (rdOf ByteArray.empty l ((i - 1 : Nat) : Int)).size ≤ 32 := by
            rw [size_eq]
            rcases hp with hp | hp
            · exact absurd hp h3
            · exact hp
          rw [if_pos (by omega), w64n (x := (i : Int) - 1) (i - 1) (by omega) (by omega), if_pos (by omega), if_pos (by omega), rbelow_f _ _ 32 hpr (by omega) (k + 1) (by omega)]
          rw [show prevOf l i = some (wd l (i - 1)) from by simp [prevOf, h3]]
          simp only [Bool.true_and, Option.bind_some]
          change (if (!lt (wd l (i - 1)) (wd l i)) = true then _ else _) = _
          cases lt (wd l (i - 1)) (wd l i) <;> simp
      · rw [if_pos (by omega), decide_eq_false h2]; simp
theorem rmay_f (l : List ByteArray) (hm : l.length ≤ 300) (k : Nat) (hk : 2 * l.length + 300 < k) : catchwordref07_May.f k l = some (mayR (ws l)) := by
  unfold catchwordref07_May.f mayR
  rw [ws_len]
  by_cases h : l.length ≤ 200
  · rw [if_neg (by omega), decide_eq_true h, Bool.and_true]
    have := rmay_l0 l hm l.length k 0 (by omega) (.inl rfl) (by omega)
    simpa [prevOf] using this
  · rw [if_pos (by omega), decide_eq_false h, Bool.and_false]

def prevB (l : List ByteArray) (i : Nat) : List Int := if i = 0 then [] else wd l (i - 1)
theorem rpack_l1 (l : List ByteArray) (hl : l.length ≤ 200) (hs : ∀ x ∈ l, x.size ≤ 40) (o : List Int) (i : Nat) (hi : i < l.length) (K : Nat) : ∀ (d n : Nat), sh ((prevB l i).drop n) ((wd l i).drop n) = d → n + d ≤ 40 → catchwordref07_Pack.l1 (K + 2 * d + 1) l o i n = catchwordref07_Pack.j2 K l o i ((n + d : Nat) : Int) false
  | d, n, hd, hn => by
    have hwt : ((rdOf ByteArray.empty l (i : Int)).size : Int) = ((wd l i).length : Int) := wd_size l i
    simp only [catchwordref07_Pack.l1]
    by_cases h0 : i = 0
    · rw [if_neg (by omega)]
      have : d = 0 := by rw [← hd]; simp [prevB, h0, sh]
      subst this
      rfl
    · rw [if_pos (by omega), if_pos (by omega), if_pos (by omega), hwt, w64n (x := (i : Int) - 1) (i - 1) (by omega) (by omega), wd_size]
      have hpe : prevB l i = wd l (i - 1) := if_neg h0
      rw [hpe] at hd
      by_cases h1 : n < (wd l i).length
      · rw [if_pos (by omega), if_pos (by omega), if_pos (by omega)]
        by_cases h2 : n < (wd l (i - 1)).length
        · rw [if_pos (by omega), if_pos (by omega)]
          have e1 : (wd l i).drop n = bt (rdOf ByteArray.empty l (i : Int)) n :: (wd l i).drop (n + 1) := btd _ n (by rw [size_eq]; exact h1)
          have e2 : (wd l (i - 1)).drop n = bt (rdOf ByteArray.empty l ((i - 1 : Nat) : Int)) n :: (wd l (i - 1)).drop (n + 1) := btd _ n (by rw [size_eq]; exact h2)
          rw [e1, e2] at hd
          simp only [sh] at hd
          by_cases e : bt (rdOf ByteArray.empty l ((i - 1 : Nat) : Int)) n = bt (rdOf ByteArray.empty l (i : Int)) n
          · rw [if_pos e] at hd
            rw [e, beq_self_eq_true]
            obtain ⟨d, rfl⟩ : ∃ m, d = m + 1 := ⟨d - 1, by omega⟩
            rw [show K + 2 * (d + 1) = (K + 2 * d + 1) + 1 by omega]
            simp only [catchwordref07_Pack.j2]
            rw [if_pos trivial, w64n (x := (n : Int) + 1) (n + 1) (by omega) (by omega)]
            have := rpack_l1 l hl hs o i hi K d (n + 1) (by rw [hpe]; omega) (by omega)
            rw [this, show n + 1 + d = n + (d + 1) by omega]
          · rw [if_neg e] at hd
            subst hd
            rw [beq_eq_false_iff_ne.2 (fun h => e h.symm)]
            rfl
        · rw [if_neg (by omega)]
          have : d = 0 := by rw [← hd, List.drop_eq_nil_of_le (by omega : (wd l (i - 1)).length ≤ n)]; simp [sh]
          subst this
          rfl
      · rw [if_neg (by omega)]
        have : d = 0 := by rw [← hd, List.drop_eq_nil_of_le (by omega : (wd l i).length ≤ n)]; cases (wd l (i - 1)).drop n <;> simp [sh]
        subst this
        rfl
theorem rpack_l0 (l : List ByteArray) (hl : l.length ≤ 200) (hs : ∀ x ∈ l, x.size ≤ 40) : ∀ (d k i : Nat) (o : List Int), i + d = l.length → 100 * d + 100 < k → o.length + 60 * d ≤ 100000 →
    catchwordref07_Pack.l0 k l o i = some (o ++ packW (prevB l i) ((ws l).drop i))
  | 0, k, i, o, hd, hk, ho => by
    obtain ⟨k, rfl⟩ : ∃ m, k = m + 1 := ⟨k - 1, by omega⟩
    simp only [catchwordref07_Pack.l0]
    rw [if_neg (by omega), List.drop_eq_nil_of_le (by rw [ws_len]; omega)]
    simp [packW]
  | d + 1, k, i, o, hd, hk, ho => by
    have hsh := sh_le (prevB l i) (wd l i)
    have hle := wd_le l 40 hs i
    obtain ⟨k, rfl⟩ : ∃ m, k = (m + 1 + 2 * sh (prevB l i) (wd l i) + 1) + 1 := ⟨k - 3 - 2 * sh (prevB l i) (wd l i), by omega⟩
    have hkk : 100 * d + 100 < k := by omega
    clear hk
    simp only [catchwordref07_Pack.l0]
    have h1 := rpack_l1 l hl hs o i (by omega) (k + 1) (sh (prevB l i) (wd l i)) 0 (by rw [List.drop_zero, List.drop_zero]) (by omega)
    rw [Nat.zero_add, show ((0 : Nat) : Int) = 0 from rfl] at h1
    rw [if_pos (by omega), h1, ws_drop l i (by omega)]
    simp only [catchwordref07_Pack.j2, packW, wb]
    have hprev : prevB l (i + 1) = wd l i := by simp [prevB]
    have ih := fun o' h => rpack_l0 l hl hs d k (i + 1) o' (by omega) (by omega) h
    rw [hprev] at ih
    rw [if_neg (by decide)]
    have hwd : wd l i = bytesOf (rdOf ByteArray.empty l (i : Int)) := rfl
    rw [hwd] at hsh hle ih ⊢
    rw [bytesOf_length] at hle
    generalize rdOf ByteArray.empty l (i : Int) = t at hsh hle ih
    rw [bytesOf_length] at hsh
    rw [bytesOf_length]
    generalize sh (prevB l i) (bytesOf t) = s at hsh
    have n1 : Num (s : Int) := ⟨by omega, by omega⟩
    have n2 : Num ((t.size - s : Nat) : Int) := ⟨by omega, by omega⟩
    have l1 := n1.len
    have l2 := n2.len
    have hw := Aside0.mk (w64n (x := (t.size : Int) - (s : Int)) (t.size - s) (by omega) (by omega))
    have hsize : (t.extract s t.size).size = t.size - s := by rw [size_eq, bytes_drop, List.length_drop, bytesOf_length]
    rw [rput_f _ k (by omega), hw.out, rput_f _ k (by omega)]
    simp only [Option.bind_some, putR, if_pos n1, if_pos n2, Int.toNat_natCast]
    rw [if_pos (by omega), if_pos (by omega), if_pos (by omega), if_pos (by rw [List.length_append]; omega), if_pos (by omega), if_pos (by omega), if_pos (by rw [hsize, List.length_append, List.length_append]; omega), w64n (x := (i : Int) + 1) (i + 1) (by omega) (by omega), bytes_drop,
      ih _ (by simp only [List.length_append, List.length_drop, bytesOf_length]; omega)]
    simp only [List.append_assoc]
theorem rpack_f (l : List ByteArray) (hl : l.length ≤ 300) (hs : mayR (ws l) = true → ∀ x ∈ l, x.size ≤ 40) (k : Nat) (hk : 30000 ≤ k) : catchwordref07_Pack.f k l = some (packR (ws l)) := by
  unfold catchwordref07_Pack.f packR
  rw [rmay_f l hl k (by omega)]
  simp only [Option.bind_some]
  cases hm : mayR (ws l) with
  | false => rfl
  | true =>
    obtain ⟨_, h200⟩ := may_sorted hm
    have hn : Num (l.length : Int) := ⟨by omega, by omega⟩
    have h5 := hn.len
    rw [if_pos rfl, if_pos rfl, rput_f _ k (by omega), Option.bind_some, show putR (l.length : Int) = enc l.length from if_pos hn, ws_len]
    have := rpack_l0 l h200 (hs hm) l.length k 0 (enc l.length) (by omega) (by omega) (by omega)
    rw [show ((0 : Nat) : Int) = 0 from rfl, List.drop_zero] at this
    exact this

theorem rread_l0 (l : List Int) (hb : Byt l) (hm : l.length ≤ 100000) (many : Nat) (hmm : many ≤ 200) : ∀ (d k i a : Nat) (o : List ByteArray) (p : ByteArray), d = many - i → i ≤ many → a ≤ l.length → p.size ≤ a → o.length + d ≤ 200 → 2 * d + 500 < k →
    catchwordref07_read.l0 k l many a o p i = some (match readX d (bytesOf p) (l.drop a) with
      | none => ([], false)
      | some (L, _) => (o ++ strs L, true)) ∧ (∀ L q, readX d (bytesOf p) (l.drop a) = some (L, q) → L.length = d ∧ ∀ x ∈ L, Byt x)
  | 0, k, i, a, o, p, hd, hi, ha, hp, ho, hk => by
    obtain ⟨k, rfl⟩ : ∃ m, k = m + 1 := ⟨k - 1, by omega⟩
    simp only [catchwordref07_read.l0, readX]
    rw [if_neg (by omega)]
    simp [strs]
  | d + 1, k, i, a, o, p, hd, hi, ha, hp, ho, hk => by
    obtain ⟨k, rfl⟩ : ∃ m, k = m + 2 := ⟨k - 2, by omega⟩
    simp only [catchwordref07_read.l0, readX]
    rw [if_pos (by omega), rget_f l a hb (by omega) (k + 1) (by omega), Option.bind_some, rget_f l _ hb (by omega) (k + 1) (by omega), Option.bind_some]
    have skip : ∀ x y z, catchwordref07_read.j2 (k + 1) l many o p i x y z true = some ([], false) := fun x y z => by simp only [catchwordref07_read.j2, if_true]
    cases hd1 : dec 5 (l.drop a) true with
    | none =>
      have e1 : decR l a = (0, 0, 5) := by unfold decR; rw [if_neg (by omega), Int.toNat_natCast, hd1]
      have e2 : wordX (l.drop a) (bytesOf p) = none := by unfold wordX; rw [hd1]
      rw [e1, e2, if_neg (by simp), skip]
      exact ⟨rfl, fun _ _ h => by cases h⟩
    | some z =>
      obtain ⟨s, j⟩ := z
      obtain ⟨a1, a2, a3, a4, a5, a6, _⟩ := enc_dec 5 (l.drop a) true s j (hb.drop a) hd1
      rw [List.length_drop] at a4
      have e1 : decR l a = (s, ((a + j : Nat) : Int), 0) := by unfold decR; rw [if_neg (by omega), Int.toNat_natCast, hd1]; simp
      rw [e1, if_pos rfl]
      simp only
      cases hd2 : dec 5 ((l.drop a).drop j) true with
      | none =>
        have e3 : decR l ((a + j : Nat) : Int) = (0, 0, 5) := by unfold decR; rw [if_neg (by omega), Int.toNat_natCast, ← List.drop_drop, hd2]
        have e2 : wordX (l.drop a) (bytesOf p) = none := by unfold wordX; rw [hd1]; simp only [hd2]
        rw [e3, e2, if_neg (by simp), skip]
        exact ⟨rfl, fun _ _ h => by cases h⟩
      | some z =>
        obtain ⟨n, j2⟩ := z
        obtain ⟨c1, c2, c3, c4, c5, c6, _⟩ := enc_dec 5 ((l.drop a).drop j) true n j2 ((hb.drop a).drop j) hd2
        rw [List.length_drop, List.length_drop] at c4
        have e3 : decR l ((a + j : Nat) : Int) = (n, ((a + j + j2 : Nat) : Int), 0) := by unfold decR; rw [if_neg (by omega), Int.toNat_natCast, ← List.drop_drop, hd2]; simp
        rw [e3, if_pos rfl]
        simp only
        unfold wordX
        rw [hd1]
        simp only [hd2]
        rw [bytesOf_length, List.length_drop]
        by_cases hs : s > (p.size : Int)
        · rw [if_pos hs, if_pos hs, skip]
          exact ⟨rfl, fun _ _ h => by cases h⟩
        · rw [if_neg hs, if_neg hs, w64n (x := (l.length : Int) - ((a + j + j2 : Nat) : Int)) (l.length - (a + j + j2)) (by omega) (by omega)]
          by_cases hn : n > ((l.length - (a + j + j2) : Nat) : Int)
          · rw [decide_eq_true hn, skip, if_pos (by omega)]
            exact ⟨rfl, fun _ _ h => by cases h⟩
          · rw [decide_eq_false hn, if_neg (by omega)]
            simp only [catchwordref07_read.j2]
            obtain ⟨n, rfl⟩ : ∃ m : Nat, n = m := ⟨n.toNat, by omega⟩
            obtain ⟨s, rfl⟩ : ∃ m : Nat, s = m := ⟨s.toNat, by omega⟩
            have hw := Aside0.mk (w64n (x := ((a + j + j2 : Nat) : Int) + (n : Int)) (a + j + j2 + n) (by omega) (by omega))
            rw [hw.out, if_neg (by decide), if_pos (by omega), if_pos (by omega), if_pos (by omega), if_pos (by omega), if_pos (by omega)]
            simp only [Int.toNat_natCast]
            have hX : (l.take (a + j + j2 + n)).drop (a + j + j2) = (l.drop (a + j + j2)).take n := by rw [List.drop_take]; congr 1; omega
            have hXb : Byt ((l.drop (a + j + j2)).take n) := (hb.drop _).take _
            have hXl : ((l.drop (a + j + j2)).take n).length ≤ n := by rw [List.length_take]; omega
            rw [hX, List.drop_drop, show a + (j + j2) = a + j + j2 by omega]
            have hszz : (p.extract 0 s).size + (strOfNums ((l.drop (a + j + j2)).take n)).size ≤ a + j + j2 + n := by
              rw [strOfNums_size, size_eq, bytes_take, List.length_take, bytesOf_length]; omega
            have hbt : bytesOf (p.extract 0 s ++ strOfNums ((l.drop (a + j + j2)).take n)) = (bytesOf p).take s ++ (l.drop (a + j + j2)).take n := by rw [bytes_append, bytes_take, strOf_bytes _ hXb]
            have hst : strOfNums ((bytesOf p).take s ++ (l.drop (a + j + j2)).take n) = p.extract 0 s ++ strOfNums ((l.drop (a + j + j2)).take n) := by
              refine bytesOf_inj ?_
              rw [hbt, strOf_bytes]
              exact ((bytesOf_byt p).take s).app hXb
            have hbb : Byt ((bytesOf p).take s ++ (l.drop (a + j + j2)).take n) := ((bytesOf_byt p).take s).app hXb
            rw [if_pos (by omega), if_pos (by omega), w64n (x := (i : Int) + 1) (i + 1) (by omega) (by omega)]
            obtain ⟨i1, i2⟩ := rread_l0 l hb hm many hmm d k (i + 1) (a + j + j2 + n) (o ++ [p.extract 0 s ++ strOfNums ((l.drop (a + j + j2)).take n)]) (p.extract 0 s ++ strOfNums ((l.drop (a + j + j2)).take n)) (by omega) (by omega) (by omega) (by rw [ByteArray.size_append]; omega) (by rw [List.length_append]; simp; omega) (by omega)
            rw [i1]
            rw [hbt] at i2 ⊢
            rw [List.drop_drop, show a + (j + j2 + n) = a + j + j2 + n by omega]
            cases hr : readX d ((bytesOf p).take s ++ (l.drop (a + j + j2)).take n) (l.drop (a + j + j2 + n)) with
            | none => exact ⟨rfl, fun _ _ h => by cases h⟩
            | some z =>
              obtain ⟨L, q⟩ := z
              obtain ⟨r1, r2⟩ := i2 L q hr
              refine ⟨?_, fun L' q' h => ?_⟩
              · simp only [Option.map_some, strs, List.map_cons, List.append_assoc, List.cons_append, List.nil_append, hst]
              · simp only [Option.map_some, Option.some.injEq, Prod.mk.injEq] at h
                obtain ⟨rfl, _⟩ := h
                refine ⟨by simp [r1], fun x hx => ?_⟩
                rcases List.mem_cons.1 hx with rfl | hx
                · exact hbb
                · exact r2 x hx
theorem runpack_f (l : List Int) (hb : Byt l) (hm : l.length ≤ 100000) (k : Nat) (hk : 150000 ≤ k) : catchwordref07_Unpack.f k l = some (unpackO l) := by
  obtain ⟨k, rfl⟩ : ∃ m, k = m + 1 := ⟨k - 1, by omega⟩
  have hgoal : unpackO l = (strs (unpackX l).1, (unpackX l).2) := by unfold unpackO; rw [unpackX_eq hb]
  rw [hgoal]
  unfold catchwordref07_Unpack.f catchwordref07_read.f unpackX
  rw [rget_f l 0 hb (by omega) (k + 1) (by omega)]
  unfold decR
  rw [if_neg (by omega)]
  simp only [Int.toNat_zero, List.drop_zero]
  have rskip : ∀ x y, catchwordref07_read.j0 (k + 1) l x y true = some ([], false) := fun x y => by simp only [catchwordref07_read.j0, if_true]
  have bad : (catchwordref07_May.f (k + 1) []).bind (fun t294 => if false = true then catchwordref07_Unpack.j0 (k + 1) l [] (!t294) else catchwordref07_Unpack.j0 (k + 1) l [] true) = some ([], 5) := by
    rw [rmay_f [] (by simp) (k + 1) (by simp; omega), Option.bind_some, if_neg (by decide)]
    simp only [catchwordref07_Unpack.j0, if_true]
  cases hd : dec 5 l true with
  | none =>
    simp only [Option.bind_some]
    rw [if_neg (by omega), rskip]
    simp only [Option.bind_some]
    rw [bad]
    rfl
  | some z =>
    obtain ⟨n, j⟩ := z
    obtain ⟨a1, a2, a3, a4, a5, a6, _⟩ := enc_dec 5 l true n j hb hd
    simp only [Option.bind_some, Int.zero_add]
    rw [if_pos trivial]
    by_cases hn : n > 200
    · rw [decide_eq_true hn, rskip, if_pos hn]
      simp only [Option.bind_some]
      rw [bad]
      rfl
    · rw [decide_eq_false hn, if_neg hn]
      obtain ⟨n, rfl⟩ : ∃ m : Nat, n = m := ⟨n.toNat, by omega⟩
      simp only [catchwordref07_read.j0, Int.toNat_natCast]
      rw [if_neg (by decide)]
      obtain ⟨i1, i2⟩ := rread_l0 l hb hm n (by omega) n k 0 j [] ⟨#[]⟩ (by omega) (by omega) a4 (Nat.zero_le _) (by simp; omega) (by omega)
      rw [show bytesOf (⟨#[]⟩ : ByteArray) = [] from rfl, show ((0 : Nat) : Int) = 0 from rfl] at i1
      rw [show bytesOf (⟨#[]⟩ : ByteArray) = [] from rfl] at i2
      rw [i1]
      cases hr : readX n [] (l.drop j) with
      | none =>
        simp only [Option.bind_some]
        rw [bad]
        rfl
      | some z =>
        obtain ⟨L, q⟩ := z
        obtain ⟨r1, r2⟩ := i2 L q hr
        have hsl : (strs L).length ≤ 200 := by unfold strs; rw [List.length_map]; omega
        simp only [Option.bind_some, List.nil_append]
        rw [rmay_f (strs L) (by omega) (k + 1) (by omega), Option.bind_some, if_pos trivial, ws_strs L r2]
        simp only [catchwordref07_Unpack.j0]
        cases hmay : mayR L with
        | false =>
          rw [if_pos (by decide), if_neg (fun h => by cases h.1)]
          rfl
        | true =>
          have hmw : mayR (ws (strs L)) = true := by rw [ws_strs L r2]; exact hmay
          rw [if_neg (by decide), rpack_f (strs L) (by omega) (fun h => may_size h) k (by omega), Option.bind_some, ws_strs L r2, bytes_f _ _ (by have := (packR_len hmay).2.2; omega) k (by have := (packR_len hmay).2.2; omega), Option.bind_some]
          by_cases he : packR L = l
          · rw [if_pos (by rw [he]; exact beq_self_eq_true l), if_pos ⟨rfl, he⟩]
          · rw [if_neg (by rw [beq_iff_eq]; exact he), if_neg (fun h => he h.2)]
            rfl
end Go.Proofs.Ytamofikjjkpejaa.VDictPacks
