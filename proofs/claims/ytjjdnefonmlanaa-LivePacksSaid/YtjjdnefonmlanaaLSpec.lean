/- Lists of who lives, and their bytes, in plain Lean, with no program in sight. -/
import Derived.Test.YtjjdnefonmlanaaVSpec
namespace Go.Proofs.Ytjjdnefonmlanaa.LSpec
open Go Go.RowKit Go.Proofs.YtjjdnefonmlanaaW.PrintWords Go.Proofs.YtjjdnefonmlanaaW.PrintLast Go.Proofs.YtjjdnefonmlanaaW.PrintMore Go.Proofs.Ytjjdnefonmlanaa.VSpec

theorem rdb_at (l : List Bool) (i : Nat) (h : i < l.length) : l.drop i = rdOf false l (i : Int) :: l.drop (i + 1) := by
  rw [List.drop_eq_getElem_cons h]
  simp [rdOf, List.getD_eq_getElem?_getD, List.getElem?_eq_getElem h]
theorem rdb (l : List Bool) (i : Nat) (h : i < l.length) : rdOf false l (i : Int) = l[i] := by
  simp [rdOf, List.getD_eq_getElem?_getD, List.getElem?_eq_getElem h]

/-- As many, and whoever lives in the one lives in the other. -/
def le : List Bool → List Bool → Bool
  | [], [] => true
  | x :: a, y :: b => (!x || y) && le a b
  | _, _ => false
def both (a b : List Bool) : List Bool := if a.length = b.length then List.zipWith (fun x y => x && y) a b else []
def killR (l : List Bool) (i : Int) : List Bool × Bool := if 0 ≤ i ∧ i < l.length ∧ rdOf false l i = true then (l.set i.toNat false, true) else (l, false)
def newR (n : Int) : List Bool := if 0 ≤ n ∧ n ≤ 64 then List.replicate n.toNat true else []

theorem le_refl : ∀ a, le a a = true
  | [] => rfl
  | x :: a => by simp [le, le_refl a]
theorem le_len : ∀ a b, le a b = true → a.length = b.length
  | [], [], _ => rfl
  | x :: a, y :: b, h => by
    simp only [le, Bool.and_eq_true] at h
    simp [le_len a b h.2]
  | [], _ :: _, h => by simp [le] at h
  | _ :: _, [], h => by simp [le] at h
theorem le_trans : ∀ a b c, le a b = true → le b c = true → le a c = true
  | [], [], [], _, _ => rfl
  | x :: a, y :: b, z :: c, h, h' => by
    simp only [le, Bool.and_eq_true] at h h' ⊢
    refine ⟨?_, le_trans a b c h.2 h'.2⟩
    cases x <;> cases y <;> cases z <;> simp_all
  | [], _ :: _, _, h, _ => by simp [le] at h
  | _ :: _, [], _, h, _ => by simp [le] at h
  | [], [], _ :: _, _, h => by simp [le] at h
  | _ :: _, _ :: _, [], _, h => by simp [le] at h
theorem le_same : ∀ a b, (le a b && le b a) = (a == b)
  | [], [] => rfl
  | x :: a, y :: b => by
    have ih := le_same a b
    rw [List.cons_beq_cons, ← ih]
    simp only [le]
    cases x <;> cases y <;> simp
  | [], _ :: _ => rfl
  | _ :: _, [] => rfl
theorem le_count : ∀ a b, le a b = true → a.count true ≤ b.count true
  | [], [], _ => Nat.le_refl _
  | x :: a, y :: b, h => by
    simp only [le, Bool.and_eq_true] at h
    have ih := le_count a b h.2
    cases x <;> cases y <;> simp_all
    omega
  | [], _ :: _, h => by simp [le] at h
  | _ :: _, [], h => by simp [le] at h
theorem both_len (a b : List Bool) (h : a.length = b.length) : (both a b).length = a.length := by
  unfold both; rw [if_pos h]; simp; omega
theorem both_comm (a b : List Bool) : both a b = both b a := by
  unfold both
  by_cases h : a.length = b.length
  · rw [if_pos h, if_pos h.symm, List.zipWith_comm]
    congr 1; funext x y; exact Bool.and_comm _ _
  · rw [if_neg h, if_neg (fun e => h e.symm)]
theorem both_self (a : List Bool) : both a a = a := by
  unfold both
  rw [if_pos rfl]
  induction a with
  | nil => rfl
  | cons x a _ => simp
theorem le_both : ∀ c a b : List Bool, a.length = b.length → (le c a && le c b) = le c (List.zipWith (fun x y => x && y) a b)
  | [], [], [], _ => rfl
  | z :: c, x :: a, y :: b, h => by
    have ih := le_both c a b (by simpa using h)
    simp only [le, List.zipWith_cons_cons]
    rw [← ih]
    cases x <;> cases y <;> cases z <;> simp
    all_goals (try rw [Bool.and_comm])
  | [], _ :: _, _ :: _, _ => rfl
  | _ :: _, [], [], _ => rfl
  | _, [], _ :: _, h => by simp at h
  | _, _ :: _, [], h => by simp at h
theorem both_le (a b : List Bool) (h : a.length = b.length) : le (both a b) a = true ∧ le (both a b) b = true := by
  have := le_both (both a b) a b h
  rw [show List.zipWith (fun x y => x && y) a b = both a b by unfold both; rw [if_pos h], le_refl, Bool.and_eq_true] at this
  exact this
theorem le_new (l : List Bool) : le l (List.replicate l.length true) = true := by
  induction l with
  | nil => rfl
  | cons x l ih => simp [le, List.replicate_succ, ih]

theorem kill_len (l : List Bool) (i : Int) : (killR l i).1.length = l.length := by
  unfold killR; split <;> simp
theorem set_le : ∀ (l : List Bool) (i : Nat), le (l.set i false) l = true
  | [], _ => rfl
  | x :: l, 0 => by simp [le, le_refl]
  | x :: l, i + 1 => by simp [le, set_le l i]
theorem set_nle : ∀ (l : List Bool) (i : Nat) (h : i < l.length), l[i] = true → le l (l.set i false) = false
  | x :: l, 0, _, h => by simp at h; simp [le, h]
  | x :: l, i + 1, hi, h => by
    have := set_nle l i (by simpa using hi) (by simpa using h)
    simp [le, this]
theorem set_count : ∀ (l : List Bool) (i : Nat) (h : i < l.length), l[i] = true → (l.set i false).count true + 1 = l.count true
  | x :: l, 0, _, h => by simp at h; simp [h]
  | x :: l, i + 1, hi, h => by
    have := set_count l i (by simpa using hi) (by simpa using h)
    rw [List.set_cons_succ, List.count_cons, List.count_cons]
    omega

/-! ### Bytes -/
/-- At most eight, as a number. -/
def val : List Bool → Nat
  | [] => 0
  | b :: t => (if b then 1 else 0) + 2 * val t
/-- So many bytes. -/
def pb : Nat → List Bool → List Int
  | 0, _ => []
  | m + 1, l => (val (l.take 8) : Int) :: pb m (l.drop 8)
def packR (l : List Bool) : List Int := if l.length ≤ 64 then enc l.length ++ pb ((l.length + 7) / 8) l else []
def bitAt (c : Int) (j : Nat) : Bool := c / 2 ^ j % 2 == 1
def unb (n : Nat) (b : List Int) : List Bool := (List.range n).map fun i => bitAt (b.getD (i / 8) 0) (i % 8)

theorem val_lt : ∀ l : List Bool, val l < 2 ^ l.length
  | [] => by simp [val]
  | b :: t => by
    have := val_lt t
    simp only [val, List.length_cons, Nat.pow_succ]
    split <;> omega
theorem pb_len : ∀ (m : Nat) (l : List Bool), (pb m l).length = m
  | 0, _ => rfl
  | m + 1, l => by simp [pb, pb_len m]
theorem take8_lt (l : List Bool) : val (l.take 8) < 256 :=
  Nat.lt_of_lt_of_le (val_lt _) (show 2 ^ (l.take 8).length ≤ 2 ^ 8 from Nat.pow_le_pow_right (by decide) (by simp; omega))
theorem pb_more : ∀ (q : Nat) (l : List Bool), pb (q + 1) l = pb q l ++ [(val ((l.drop (8 * q)).take 8) : Int)]
  | 0, l => by simp [pb]
  | q + 1, l => by
    have ih := pb_more q (l.drop 8)
    rw [pb, ih, List.drop_drop, show 8 + 8 * q = 8 * (q + 1) by omega]
    rfl
theorem pb_byt : ∀ (m : Nat) (l : List Bool), Byt (pb m l)
  | 0, _ => Byt.nil
  | m + 1, l => Byt.cons ⟨by omega, by have := take8_lt l; omega⟩ (pb_byt m _)
theorem pb_nil : ∀ m, pb m [] = List.replicate m 0
  | 0 => rfl
  | m + 1 => by simp [pb, pb_nil m, List.replicate_succ, val]
theorem val_snoc : ∀ (l : List Bool) (b : Bool), val (l ++ [b]) = val l + (if b then 2 ^ l.length else 0)
  | [], b => by cases b <;> simp [val]
  | x :: l, b => by
    simp only [List.cons_append, val, val_snoc l b, List.length_cons, Nat.pow_succ]
    split <;> split <;> omega
/-- One more. -/
theorem pb_snoc : ∀ (m : Nat) (l : List Bool) (b : Bool), l.length / 8 < m →
    pb m (l ++ [b]) = (pb m l).set (l.length / 8) ((pb m l).getD (l.length / 8) 0 + (if b then 2 ^ (l.length % 8) else 0)) ∧ 0 ≤ (pb m l).getD (l.length / 8) 0 ∧ (pb m l).getD (l.length / 8) 0 < 2 ^ (l.length % 8)
  | 0, _, _, h => by omega
  | m + 1, l, b, h => by
    by_cases hl : l.length < 8
    · have e0 : l.length / 8 = 0 := by omega
      have e1 : l.length % 8 = l.length := by omega
      have ht : (l ++ [b]).take 8 = l ++ [b] := List.take_of_length_le (by simp; omega)
      have ht' : l.take 8 = l := List.take_of_length_le (by omega)
      have hd : (l ++ [b]).drop 8 = [] := List.drop_eq_nil_of_le (by simp; omega)
      have hd' : l.drop 8 = [] := List.drop_eq_nil_of_le (by omega)
      rw [e0, e1]
      simp only [pb, ht, ht', hd, hd', List.set_cons_zero, List.getD_cons_zero, val_snoc]
      have := val_lt l
      have hp : ((2 ^ l.length : Nat) : Int) = (2 : Int) ^ l.length := by simp
      refine ⟨?_, by omega, by omega⟩
      congr 1
      split
      · omega
      · omega
    · have e0 : l.length / 8 = (l.drop 8).length / 8 + 1 := by rw [List.length_drop]; omega
      have e1 : l.length % 8 = (l.drop 8).length % 8 := by rw [List.length_drop]; omega
      have ih := pb_snoc m (l.drop 8) b (by omega)
      have ht : (l ++ [b]).take 8 = l.take 8 := List.take_append_of_le_length (by omega)
      have hd : (l ++ [b]).drop 8 = l.drop 8 ++ [b] := List.drop_append_of_le_length (by omega)
      rw [e0, e1]
      simp only [pb, ht, hd, List.set_cons_succ, List.getD_cons_succ]
      refine ⟨?_, ih.2.1, ih.2.2⟩
      rw [← ih.1]
theorem bit_val : ∀ (l : List Bool) (j : Nat) (h : j < l.length), bitAt (val l) j = l[j]
  | b :: t, 0, _ => by
    simp only [bitAt, val, List.getElem_cons_zero]
    cases b <;> simp <;> try omega
  | b :: t, j + 1, h => by
    have ih := bit_val t j (by simpa using h)
    rw [List.getElem_cons_succ, ← ih]
    simp only [bitAt, val]
    congr 2
    rw [Int.pow_succ, Int.mul_comm, ← Int.ediv_ediv_of_nonneg (by omega)]
    congr 1
    split <;> omega
theorem pb_get : ∀ (m : Nat) (l : List Bool) (i : Nat), i < m → (pb m l).getD i 0 = val ((l.drop (8 * i)).take 8)
  | 0, _, _, h => by omega
  | m + 1, l, 0, _ => by simp [pb]
  | m + 1, l, i + 1, h => by
    have := pb_get m (l.drop 8) i (by omega)
    rw [pb, List.getD_cons_succ, this, List.drop_drop, show 8 + 8 * i = 8 * (i + 1) by omega]
theorem unb_pb (l : List Bool) : unb l.length (pb ((l.length + 7) / 8) l) = l := by
  apply List.ext_getElem
  · simp [unb]
  · intro i h1 h2
    simp only [unb, List.getElem_map, List.getElem_range]
    rw [pb_get _ _ _ (by omega)]
    have hlt : i % 8 < ((l.drop (8 * (i / 8))).take 8).length := by simp; omega
    rw [bit_val _ _ hlt, List.getElem_take, List.getElem_drop]
    congr 1; omega
theorem unb_len (n : Nat) (b : List Int) : (unb n b).length = n := by simp [unb]
theorem unb_succ (n : Nat) (b : List Int) : unb (n + 1) b = unb n b ++ [bitAt (b.getD (n / 8) 0) (n % 8)] := by
  simp [unb, List.range_succ]

theorem pack_byt (l : List Bool) : Byt (packR l) := by
  unfold packR; split
  · exact (enc_byt (by omega)).app (pb_byt _ _)
  · exact Byt.nil
theorem pack_dec {l : List Bool} (h : l.length ≤ 64) : dec 5 (packR l) true = some ((l.length : Int), (enc l.length).length) ∧ (packR l).drop (enc l.length).length = pb ((l.length + 7) / 8) l ∧ (packR l).length = (enc l.length).length + (l.length + 7) / 8 := by
  unfold packR
  rw [if_pos h]
  refine ⟨dec5_enc ⟨by omega, by omega⟩ _, List.drop_left, ?_⟩
  rw [List.length_append, pb_len]
theorem pack_len (l : List Bool) : (packR l).length ≤ 13 := by
  by_cases h : l.length ≤ 64
  · have h5 := (show Num (l.length : Int) from ⟨by omega, by omega⟩).len
    rw [(pack_dec h).2.2]; omega
  · unfold packR; rw [if_neg h]; simp
theorem pack_inj {l m : List Bool} (h : l.length ≤ 64) (h' : m.length ≤ 64) (e : packR l = packR m) : l = m := by
  have a := pack_dec h
  have b := pack_dec h'
  rw [e] at a
  have c := a.1.symm.trans b.1
  simp only [Option.some.injEq, Prod.mk.injEq] at c
  have hl : l.length = m.length := by omega
  have d := a.2.1.symm
  rw [c.2, b.2.1] at d
  rw [← unb_pb l, d, hl, unb_pb]
open Classical in
/-- What Unpack answers. -/
noncomputable def unpackR (b : List Int) : List Bool × Int := if h : ∃ l : List Bool, l.length ≤ 64 ∧ packR l = b then (h.choose, 0) else ([], 5)
theorem unpack_of {l : List Bool} {b : List Int} (h : l.length ≤ 64) (e : packR l = b) : unpackR b = (l, 0) := by
  unfold unpackR
  have hx : ∃ l : List Bool, l.length ≤ 64 ∧ packR l = b := ⟨l, h, e⟩
  rw [dif_pos hx]
  rw [pack_inj hx.choose_spec.1 h (hx.choose_spec.2.trans e.symm)]
theorem unpack_not {b : List Int} (h : ∀ l : List Bool, l.length ≤ 64 → packR l ≠ b) : unpackR b = ([], 5) := by
  unfold unpackR
  rw [dif_neg]
  rintro ⟨l, hl, e⟩
  exact h l hl e
theorem unpack_cases (b : List Int) : (∃ l : List Bool, l.length ≤ 64 ∧ packR l = b ∧ unpackR b = (l, 0)) ∨ ((∀ l : List Bool, l.length ≤ 64 → packR l ≠ b) ∧ unpackR b = ([], 5)) := by
  by_cases h : ∃ l : List Bool, l.length ≤ 64 ∧ packR l = b
  · obtain ⟨l, hl, e⟩ := h
    exact .inl ⟨l, hl, e, unpack_of hl e⟩
  · have h' : ∀ l : List Bool, l.length ≤ 64 → packR l ≠ b := fun l hl e => h ⟨l, hl, e⟩
    exact .inr ⟨h', unpack_not h'⟩
/-- Whose bytes are these? Only those of whom they tell. -/
theorem unpack_try {b : List Int} {n : Nat} {j : Nat} (h : dec 5 b true = some ((n : Int), j)) (hn : n ≤ 64) :
    unpackR b = if packR (unb n (b.drop j)) = b then (unb n (b.drop j), 0) else ([], 5) := by
  split
  · rename_i e
    exact unpack_of (by rw [unb_len]; exact hn) e
  · rename_i e
    refine unpack_not fun l hl' el => e ?_
    obtain ⟨d1, d2, d3⟩ := pack_dec hl'
    rw [el, h] at d1
    simp only [Option.some.injEq, Prod.mk.injEq] at d1
    obtain ⟨e1, e2⟩ := d1
    have e1 : n = l.length := by omega
    subst e1
    rw [el, ← e2] at d2
    rw [d2, unb_pb, el]
theorem unpack_none {b : List Int} (h : ∀ n j : Nat, dec 5 b true = some ((n : Int), j) → n ≤ 64 → b.length = j + (n + 7) / 8 → False) : unpackR b = ([], 5) :=
  unpack_not fun l hl e => by
    obtain ⟨d1, d2, d3⟩ := pack_dec hl
    rw [e] at d1 d3
    exact h _ _ d1 hl d3
end Go.Proofs.Ytjjdnefonmlanaa.LSpec
