/- What the bytes of rising lists are, in plain Lean, with no program in sight. -/
import Derived.Test.YtepmcdcncjimeaaVSpec
namespace Go.Proofs.Ytepmcdcncjimeaa.VSpec
open Go Go.RowKit Go.Proofs.YtepmcdcncjimeaaW.PrintWords Go.Proofs.YtepmcdcncjimeaaW.PrintLast Go.Proofs.YtepmcdcncjimeaaW.PrintMore

/-- Each number less the one ahead, less 1. -/
def steps (last : Int) : List Int → List Int
  | [] => []
  | n :: t => (n - last - 1) :: steps n t
/-- Each number is above the one ahead, and none above 2^35 - 1. -/
def ris (last : Int) : List Int → Bool
  | [] => true
  | n :: t => decide (last < n) && decide (n ≤ 34359738367) && ris n t
theorem steps_len : ∀ (l : List Int) (last : Int), (steps last l).length = l.length
  | [], _ => rfl
  | n :: t, last => by simp [steps, steps_len t n]
theorem ris_cons {last n : Int} {t : List Int} : ris last (n :: t) = true ↔ last < n ∧ n ≤ 34359738367 ∧ ris n t = true := by
  simp [ris, and_assoc]
theorem steps_num : ∀ (l : List Int) (last : Int), -1 ≤ last → ris last l = true → ∀ x ∈ steps last l, Num x
  | [], _, _, _, _, h => by cases h
  | n :: t, last, h0, h, x, hx => by
    obtain ⟨h1, h2, h3⟩ := ris_cons.1 h
    rcases List.mem_cons.1 hx with rfl | hx
    · exact ⟨by omega, by omega⟩
    · exact steps_num t n (by omega) h3 x hx
/-- What Rise answers. -/
def riseR (l : List Int) : List Int × Int := if ris (-1) l = true ∧ l.length ≤ 2000 then (enc l.length ++ encAll (steps (-1) l), 0) else ([], 1)
/-- So many numbers, each so much above the one ahead, out of bytes; and how many bytes. -/
def readS : Nat → Int → List Int → Option (List Int × Nat)
  | 0, _, _ => some ([], 0)
  | m + 1, last, b => match dec 5 b true with
    | none => none
    | some (s, j) => if last + s + 1 ≤ 34359738367 then (readS m (last + s + 1) (b.drop j)).map (fun p => ((last + s + 1) :: p.1, j + p.2)) else none
/-- What Read answers. -/
def readR (b : List Int) (a : Int) : List Int × Int × Int :=
  if a < 0 ∨ (b.length : Int) < a then ([], 0, 1)
  else match dec 5 (b.drop a.toNat) true with
    | none => ([], 0, 5)
    | some (m, j) => if m > 2000 then ([], 0, 5) else match readS m.toNat (-1) (b.drop (a.toNat + j)) with
      | none => ([], 0, 5)
      | some (l, q) => (l, a + j + q, 0)

theorem readS_steps : ∀ (l : List Int) (last : Int) (t : List Int), -1 ≤ last → ris last l = true → readS l.length last (encAll (steps last l) ++ t) = some (l, (encAll (steps last l)).length)
  | [], _, _, _, _ => by simp [readS, steps, encAll]
  | n :: l, last, t, h0, h => by
    obtain ⟨h1, h2, h3⟩ := ris_cons.1 h
    have hd := dec5_enc (n := n - last - 1) ⟨by omega, by omega⟩ (encAll (steps n l) ++ t)
    simp only [List.length_cons, steps, encAll_cons, List.append_assoc]
    rw [readS, hd]
    simp only [show last + (n - last - 1) + 1 = n by omega]
    rw [if_pos h2, List.drop_left, readS_steps l n t (by omega) h3]
    simp
theorem steps_readS : ∀ (m : Nat) (last : Int) (b : List Int) (l : List Int) (q : Nat), Byt b → -1 ≤ last → readS m last b = some (l, q) → l.length = m ∧ ris last l = true ∧ q ≤ b.length ∧ encAll (steps last l) = b.take q
  | 0, last, b, l, q, _, _, h => by
    simp only [readS, Option.some.injEq, Prod.mk.injEq] at h
    obtain ⟨rfl, rfl⟩ := h
    simp [ris, steps, encAll]
  | m + 1, last, b, l, q, hb, h0, h => by
    rw [readS] at h
    cases hd : dec 5 b true with
    | none => rw [hd] at h; cases h
    | some p =>
      obtain ⟨s, j⟩ := p
      rw [hd] at h
      simp only at h
      obtain ⟨a1, a2, a3, a4, a5, a6, _⟩ := enc_dec 5 b true s j hb hd
      split at h
      · rename_i hle
        cases hr : readS m (last + s + 1) (b.drop j) with
        | none => rw [hr] at h; cases h
        | some p =>
          obtain ⟨l', q'⟩ := p
          rw [hr] at h
          simp only [Option.map_some, Option.some.injEq, Prod.mk.injEq] at h
          obtain ⟨rfl, rfl⟩ := h
          obtain ⟨b1, b2, b3, b4⟩ := steps_readS m (last + s + 1) (b.drop j) l' q' (hb.drop j) (by omega) hr
          simp only [List.length_drop] at b3
          refine ⟨by simp [b1], ris_cons.2 ⟨by omega, hle, b2⟩, by omega, ?_⟩
          simp only [steps, encAll_cons, b4, show last + s + 1 - last - 1 = s by omega, a6]
          rw [List.take_add]
      · cases h
/-- What a list read says of the bytes read. -/
theorem readR_ok {b : List Int} {a : Int} (hb : Byt b) (h : (readR b a).2.2 = 0) : 0 ≤ a ∧ ∃ q : Nat, (readR b a).2.1 = (a.toNat + q : Nat) ∧ 0 < q ∧ a.toNat + q ≤ b.length ∧ riseR (readR b a).1 = ((b.drop a.toNat).take q, 0) := by
  unfold readR at h ⊢
  by_cases h1 : a < 0 ∨ (b.length : Int) < a
  · rw [if_pos h1] at h; simp at h
  · rw [if_neg h1] at h ⊢
    obtain ⟨a, rfl⟩ : ∃ n : Nat, a = n := ⟨a.toNat, by omega⟩
    simp only [Int.toNat_natCast] at h ⊢
    refine ⟨by omega, ?_⟩
    cases hc : dec 5 (b.drop a) true with
    | none => rw [hc] at h; simp at h
    | some p =>
      obtain ⟨m, j⟩ := p
      obtain ⟨a1, a2, a3, a4, a5, a6, _⟩ := enc_dec 5 (b.drop a) true m j (hb.drop a) hc
      simp only [List.length_drop] at a4
      rw [hc] at h
      simp only at h ⊢
      by_cases h2 : m > 2000
      · rw [if_pos h2] at h; simp at h
      · rw [if_neg h2] at h ⊢
        cases hr : readS m.toNat (-1) (b.drop (a + j)) with
        | none => rw [hr] at h; simp at h
        | some p =>
          obtain ⟨l, q⟩ := p
          obtain ⟨b1, b2, b3, b4⟩ := steps_readS _ _ _ l q (hb.drop _) (by omega) hr
          simp only [List.length_drop] at b3
          refine ⟨j + q, by simp only; omega, by omega, by omega, ?_⟩
          simp only [riseR]
          rw [if_pos ⟨b2, by omega⟩, b4, show (l.length : Int) = m by omega, a6, List.take_add, List.drop_drop]
theorem decR_ok {b : List Int} {a : Int} (hb : Byt b) (h : (decR b a).2.2 = 0) : 0 ≤ a ∧ ∃ q : Nat, (decR b a).2.1 = (a.toNat + q : Nat) ∧ 0 < q ∧ a.toNat + q ≤ b.length ∧ putR (decR b a).1 = (b.drop a.toNat).take q := by
  unfold decR at h ⊢
  by_cases h1 : a < 0 ∨ (b.length : Int) < a
  · rw [if_pos h1] at h; simp at h
  · rw [if_neg h1] at h ⊢
    obtain ⟨a, rfl⟩ : ∃ n : Nat, a = n := ⟨a.toNat, by omega⟩
    simp only [Int.toNat_natCast] at h ⊢
    refine ⟨by omega, ?_⟩
    cases hc : dec 5 (b.drop a) true with
    | none => rw [hc] at h; simp at h
    | some p =>
      obtain ⟨m, j⟩ := p
      obtain ⟨a1, a2, a3, a4, a5, a6, _⟩ := enc_dec 5 (b.drop a) true m j (hb.drop a) hc
      simp only [List.length_drop] at a4
      refine ⟨j, by simp only; omega, by omega, by omega, ?_⟩
      simp only [putR]
      rw [if_pos (show Num m from ⟨a1, by omega⟩), a6]
theorem readR_err {b : List Int} {a : Int} (h0 : 0 ≤ a) (h1 : a ≤ b.length) : (readR b a).2.2 = 0 ∨ (readR b a).2.2 = 5 := by
  unfold readR
  rw [if_neg (by omega)]
  split
  · exact .inr rfl
  · split
    · exact .inr rfl
    · split
      · exact .inr rfl
      · exact .inl rfl
theorem decR_enc {n : Int} (hn : Num n) (h t : List Int) : decR (h ++ enc n ++ t) h.length = (n, ((h.length + (enc n).length : Nat) : Int), 0) := by
  unfold decR
  rw [if_neg (by simp; omega), Int.toNat_natCast, List.append_assoc, List.drop_left, dec5_enc hn]
  simp
theorem readR_rise {l p : List Int} (hp : riseR l = (p, 0)) (h t : List Int) : readR (h ++ p ++ t) h.length = (l, ((h.length + p.length : Nat) : Int), 0) := by
  unfold riseR at hp
  split at hp
  · rename_i hl
    obtain ⟨h1, h2⟩ := hl
    simp only [Prod.mk.injEq, and_true] at hp
    subst hp
    unfold readR
    rw [if_neg (by simp; omega), Int.toNat_natCast, List.append_assoc, List.drop_left, List.append_assoc, dec5_enc (n := (l.length : Int)) ⟨by omega, by omega⟩]
    simp only
    rw [if_neg (by omega), Int.toNat_natCast, ← List.drop_drop, List.drop_left, List.drop_left, readS_steps l (-1) t (by omega) h1]
    simp only [List.length_append, Prod.mk.injEq, true_and, and_true]
    omega
  · simp at hp
theorem readR_cut {l p : List Int} (hp : riseR l = (p, 0)) (hb : Byt p) (h : List Int) (hh : Byt h) (c : Nat) (hc : c < p.length) : (readR (h ++ p.take c) h.length).2.2 = 5 := by
  rcases readR_err (b := h ++ p.take c) (a := h.length) (by omega) (by simp; omega) with h0 | h5
  · exfalso
    obtain ⟨_, q, _, hq, hq2, hr⟩ := readR_ok (hh.app (hb.take c)) h0
    rw [Int.toNat_natCast] at hq2 hr
    simp only [List.length_append, List.length_take] at hq2
    rw [List.drop_left, List.take_take, show min q c = q by omega] at hr
    have e1 := readR_rise hr h (p.drop q)
    have e2 := readR_rise hp h []
    rw [List.append_assoc, List.take_append_drop, List.append_nil] at *
    rw [e1] at e2
    simp only [Prod.mk.injEq, List.length_take] at e2
    omega
  · exact h5
theorem riseR_byt {l p : List Int} (hp : riseR l = (p, 0)) : Byt p := by
  unfold riseR at hp
  split at hp
  · rename_i hl
    simp only [Prod.mk.injEq, and_true] at hp
    subst hp
    exact (enc_byt (by omega)).app (encAll_byt _ (steps_num l (-1) (by omega) hl.1))
  · simp at hp
theorem readR_len {b : List Int} {a : Int} (hb : Byt b) : (readR b a).1.length ≤ 2000 := by
  unfold readR
  split
  · simp
  · split
    · simp
    · rename_i m j _
      split
      · simp
      · split
        · simp
        · rename_i l q hr
          have := steps_readS _ _ _ l q (hb.drop _) (by omega) hr
          simp only; omega
theorem riseR_len {l : List Int} : (riseR l).1.length ≤ 20000 := by
  unfold riseR
  split
  · rename_i h
    have h1 := encAll_len _ (steps_num l (-1) (by omega) h.1)
    have h2 : Num (l.length : Int) := ⟨by omega, by omega⟩
    have h3 := h2.len
    rw [steps_len] at h1
    simp; omega
  · simp
end Go.Proofs.Ytepmcdcncjimeaa.VSpec
