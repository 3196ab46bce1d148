/- What the bytes of words are, in plain Lean, with no program in sight. -/
import Derived.Test.YtamofikjjkpejaaDSpec
namespace Go.Proofs.Ytamofikjjkpejaa.DSpec
open Go Go.RowKit Go.Proofs.YtamofikjjkpejaaW.PrintWords Go.Proofs.YtamofikjjkpejaaW.PrintLast Go.Proofs.YtamofikjjkpejaaW.PrintMore Go.Proofs.Ytamofikjjkpejaa.VSpec

/-- How many bytes two words begin with. -/
def sh : List Int → List Int → Nat
  | a :: x, b :: y => if a = b then sh x y + 1 else 0
  | _, _ => 0
theorem sh_le : ∀ a b, sh a b ≤ a.length ∧ sh a b ≤ b.length
  | [], _ => by simp [sh]
  | _ :: _, [] => by simp [sh]
  | a :: x, b :: y => by
    have := sh_le x y
    simp only [sh, List.length_cons]
    split <;> omega
theorem sh_take : ∀ a b : List Int, a.take (sh a b) = b.take (sh a b)
  | [], _ => by simp [sh]
  | _ :: _, [] => by simp [sh]
  | a :: x, b :: y => by
    have := sh_take x y
    simp only [sh]
    split
    · rename_i h
      subst h
      rw [List.take_succ_cons, List.take_succ_cons, this]
    · simp
/-- A word's bytes, behind another one. -/
def wb (ahead t : List Int) : List Int := enc (sh ahead t) ++ (enc (t.length - sh ahead t : Nat) ++ t.drop (sh ahead t))
def packW (ahead : List Int) : List (List Int) → List Int
  | [] => []
  | t :: r => wb ahead t ++ packW t r
def packR (L : List (List Int)) : List Int := if mayR L = true then enc L.length ++ packW [] L else []
def wordR (b ahead : List Int) : Option (List Int × Nat) :=
  match dec 5 b true with
  | none => none
  | some (s, j) => if s > ahead.length then none else match dec 5 (b.drop j) true with
    | none => none
    | some (n, j2) => if n > (b.length : Int) - (j + j2 : Nat) then none
      else if (sh ahead (ahead.take s.toNat ++ (b.drop (j + j2)).take n.toNat) : Int) = s then some (ahead.take s.toNat ++ (b.drop (j + j2)).take n.toNat, j + j2 + n.toNat) else none
def readW : Nat → List Int → List Int → Option (List (List Int) × Nat)
  | 0, _, _ => some ([], 0)
  | m + 1, ahead, b => match wordR b ahead with
    | none => none
    | some (t, q) => (readW m t (b.drop q)).map (fun p => (t :: p.1, q + p.2))
def unpackR (b : List Int) : List (List Int) × Int :=
  match dec 5 b true with
  | none => ([], 5)
  | some (n, j) => if n > 200 then ([], 5) else match readW n.toNat [] (b.drop j) with
    | none => ([], 5)
    | some (L, q) => if j + q = b.length ∧ mayR L = true then (L, 0) else ([], 5)
theorem wordR_wb {ahead t : List Int} (rest : List Int) (ht : t.length ≤ 1000) : wordR (wb ahead t ++ rest) ahead = some (t, (wb ahead t).length) := by
  have hs := sh_le ahead t
  have h1 : Num (sh ahead t : Int) := ⟨by omega, by omega⟩
  have h2 : Num ((t.length - sh ahead t : Nat) : Int) := ⟨by omega, by omega⟩
  have e : wb ahead t ++ rest = enc (sh ahead t) ++ (enc (t.length - sh ahead t : Nat) ++ (t.drop (sh ahead t) ++ rest)) := by simp [wb]
  have hlen : (wb ahead t ++ rest).length = (enc (sh ahead t)).length + (enc (t.length - sh ahead t : Nat)).length + (t.length - sh ahead t) + rest.length := by
    rw [e]; simp only [List.length_append, List.length_drop]; omega
  unfold wordR
  rw [hlen, e, dec5_enc h1]
  simp only [Int.toNat_natCast]
  rw [if_neg (by omega), List.drop_left, dec5_enc h2]
  simp only [Int.toNat_natCast]
  rw [if_neg (by omega), ← List.drop_drop, List.drop_left, List.drop_left, List.take_append_of_le_length (show t.length - sh ahead t ≤ (t.drop (sh ahead t)).length by rw [List.length_drop]; omega), List.take_of_length_le (show (t.drop (sh ahead t)).length ≤ t.length - sh ahead t by rw [List.length_drop]; omega), sh_take, List.take_append_drop, if_pos rfl]
  congr 2
  simp only [wb, List.length_append, List.length_drop]; omega
theorem readW_packW : ∀ (L : List (List Int)) (ahead rest : List Int), (∀ x ∈ L, x.length ≤ 1000) → readW L.length ahead (packW ahead L ++ rest) = some (L, (packW ahead L).length)
  | [], _, _, _ => by simp [readW, packW]
  | t :: r, ahead, rest, h => by
    have ih := readW_packW r t rest (fun x hx => h x (List.mem_cons_of_mem _ hx))
    simp only [List.length_cons, readW, packW, List.append_assoc]
    rw [wordR_wb _ (h t (List.mem_cons_self ..))]
    simp only
    rw [List.drop_left, ih]
    simp
theorem wordR_spec {b ahead t : List Int} {q : Nat} (hb : Byt b) (h : wordR b ahead = some (t, q)) : q ≤ b.length ∧ 2 ≤ q ∧ t.length ≤ ahead.length + q ∧ wb ahead t = b.take q := by
  unfold wordR at h
  cases hd : dec 5 b true with
  | none => rw [hd] at h; cases h
  | some p =>
    obtain ⟨s, j⟩ := p
    obtain ⟨a1, a2, a3, a4, a5, a6, _⟩ := enc_dec 5 b true s j hb hd
    rw [hd] at h
    simp only at h
    split at h
    · cases h
    · rename_i hs
      cases hd2 : dec 5 (b.drop j) true with
      | none => rw [hd2] at h; cases h
      | some p =>
        obtain ⟨n, j2⟩ := p
        obtain ⟨c1, c2, c3, c4, c5, c6, _⟩ := enc_dec 5 (b.drop j) true n j2 (hb.drop j) hd2
        rw [List.length_drop] at c4
        rw [hd2] at h
        simp only at h
        split at h
        · cases h
        · rename_i hn
          split at h
          · rename_i hsh
            simp only [Option.some.injEq, Prod.mk.injEq] at h
            obtain ⟨rfl, rfl⟩ := h
            have hX : ((b.drop (j + j2)).take n.toNat).length = n.toNat := by rw [List.length_take, List.length_drop]; omega
            have hS : (ahead.take s.toNat).length = s.toNat := by rw [List.length_take]; omega
            refine ⟨by omega, by omega, by rw [List.length_append, hX, hS]; omega, ?_⟩
            unfold wb
            rw [hsh, show sh ahead (ahead.take s.toNat ++ (b.drop (j + j2)).take n.toNat) = s.toNat by omega, List.length_append, hX, hS, Nat.add_sub_cancel_left, show ((n.toNat : Nat) : Int) = n by omega, a6, c6,
              List.drop_append_of_le_length (show s.toNat ≤ (ahead.take s.toNat).length by omega), List.drop_eq_nil_of_le (show (ahead.take s.toNat).length ≤ s.toNat by omega), List.nil_append, Nat.add_assoc, List.take_add, List.take_add, List.drop_drop]
          · cases h
theorem readW_spec : ∀ (m : Nat) (ahead b : List Int) (L : List (List Int)) (q : Nat), Byt b → readW m ahead b = some (L, q) → L.length = m ∧ q ≤ b.length ∧ packW ahead L = b.take q
  | 0, _, _, L, q, _, h => by
    simp only [readW, Option.some.injEq, Prod.mk.injEq] at h
    obtain ⟨rfl, rfl⟩ := h
    simp [packW]
  | m + 1, ahead, b, L, q, hb, h => by
    simp only [readW] at h
    cases hw : wordR b ahead with
    | none => rw [hw] at h; cases h
    | some p =>
      obtain ⟨t, q1⟩ := p
      rw [hw] at h
      simp only at h
      obtain ⟨b1, _, _, b2⟩ := wordR_spec hb hw
      cases hr : readW m t (b.drop q1) with
      | none => rw [hr] at h; cases h
      | some p =>
        obtain ⟨L', q2⟩ := p
        rw [hr] at h
        simp only [Option.map_some, Option.some.injEq, Prod.mk.injEq] at h
        obtain ⟨rfl, rfl⟩ := h
        obtain ⟨c1, c2, c3⟩ := readW_spec m t (b.drop q1) L' q2 (hb.drop q1) hr
        rw [List.length_drop] at c2
        refine ⟨by simp [c1], by omega, ?_⟩
        rw [packW, b2, c3, List.take_add]
theorem mayR_mem {L : List (List Int)} (h : mayR L = true) : L.length ≤ 200 ∧ ∀ x ∈ L, 1 ≤ x.length ∧ x.length ≤ 32 := by
  unfold mayR at h
  rw [Bool.and_eq_true, decide_eq_true_eq] at h
  exact ⟨h.2, chk_mem _ _ h.1⟩
theorem pack_read {L : List (List Int)} (h : mayR L = true) (rest : List Int) : dec 5 (packR L ++ rest) true = some ((L.length : Int), (enc (L.length : Int)).length) ∧ readW L.length [] ((packR L ++ rest).drop (enc (L.length : Int)).length) = some (L, (packW [] L).length) ∧ (packR L).length = (enc (L.length : Int)).length + (packW [] L).length := by
  obtain ⟨h1, h2⟩ := mayR_mem h
  have e : packR L = enc L.length ++ packW [] L := if_pos h
  refine ⟨?_, ?_, by rw [e, List.length_append]⟩
  · rw [e, List.append_assoc]
    exact dec5_enc ⟨by omega, by omega⟩ _
  · rw [e, List.append_assoc, List.drop_left]
    exact readW_packW L [] rest (fun x hx => by have := h2 x hx; omega)
theorem unpack_pack {L : List (List Int)} (h : mayR L = true) : unpackR (packR L) = (L, 0) := by
  obtain ⟨h1, h2⟩ := mayR_mem h
  obtain ⟨d1, d2, d3⟩ := pack_read h []
  rw [List.append_nil] at d1 d2
  unfold unpackR
  rw [d1]
  simp only [Int.toNat_natCast]
  rw [if_neg (by omega), d2]
  simp only
  rw [if_pos ⟨d3.symm, h⟩]
theorem pack_unpack {b : List Int} {L : List (List Int)} (hb : Byt b) (h : unpackR b = (L, 0)) : mayR L = true ∧ packR L = b := by
  unfold unpackR at h
  cases hd : dec 5 b true with
  | none => rw [hd] at h; simp at h
  | some p =>
    obtain ⟨n, j⟩ := p
    obtain ⟨a1, a2, a3, a4, a5, a6, _⟩ := enc_dec 5 b true n j hb hd
    rw [hd] at h
    simp only at h
    split at h
    · simp at h
    · cases hr : readW n.toNat [] (b.drop j) with
      | none => rw [hr] at h; simp at h
      | some p =>
        obtain ⟨L', q⟩ := p
        obtain ⟨c1, c2, c3⟩ := readW_spec _ _ _ _ _ (hb.drop j) hr
        rw [hr] at h
        simp only at h
        split at h
        · rename_i hq
          simp only [Prod.mk.injEq, and_true] at h
          subst h
          refine ⟨hq.2, ?_⟩
          unfold packR
          rw [if_pos hq.2, c1, show ((n.toNat : Nat) : Int) = n by omega, a6, c3, ← List.take_add, hq.1, List.take_length]
        · simp at h
theorem unpack_err (b : List Int) (h : (unpackR b).2 ≠ 0) : unpackR b = ([], 5) := by
  unfold unpackR at h ⊢
  split
  · rfl
  · rename_i n j hd
    rw [hd] at h
    simp only at h
    split
    · rfl
    · rename_i hn
      rw [if_neg hn] at h
      split
      · rfl
      · rename_i L q hr
        rw [hr] at h
        simp only at h
        split
        · rename_i hq
          rw [if_pos hq] at h
          exact absurd rfl h
        · rfl
/-- Bytes that are cut off are none's. -/
theorem unpack_cut {L : List (List Int)} (h : mayR L = true) (hbL : Byt (packR L)) (n : Nat) (hn : n < (packR L).length) : unpackR ((packR L).take n) = ([], 5) := by
  refine unpack_err _ (fun h0 => ?_)
  obtain ⟨L', e⟩ : ∃ L', unpackR ((packR L).take n) = (L', 0) := ⟨(unpackR ((packR L).take n)).1, by rw [← h0]⟩
  obtain ⟨m1, m2⟩ := pack_unpack (hbL.take n) e
  have hsplit : packR L = packR L' ++ (packR L).drop n := by rw [m2, List.take_append_drop]
  obtain ⟨d1, d2, d3⟩ := pack_read h []
  obtain ⟨f1, f2, f3⟩ := pack_read m1 ((packR L).drop n)
  rw [List.append_nil] at d1 d2
  rw [← hsplit] at f1 f2
  rw [f1] at d1
  simp only [Option.some.injEq, Prod.mk.injEq] at d1
  have hl : L'.length = L.length := by omega
  rw [hl, d2] at f2
  simp only [Option.some.injEq, Prod.mk.injEq] at f2
  have : (packR L').length = (packR L).length := by rw [f3, d3, f2.1]
  rw [m2, List.length_take] at this
  omega
theorem wb_byt {ahead t : List Int} (ht : Byt t) : Byt (wb ahead t) := (enc_byt (by omega)).app ((enc_byt (by omega)).app (ht.drop _))
theorem packW_byt : ∀ (L : List (List Int)) (ahead : List Int), (∀ x ∈ L, Byt x) → Byt (packW ahead L)
  | [], _, _ => Byt.nil
  | t :: r, _, h => (wb_byt (h t (List.mem_cons_self ..))).app (packW_byt r t (fun x hx => h x (List.mem_cons_of_mem _ hx)))
theorem packR_byt {L : List (List Int)} (h : ∀ x ∈ L, Byt x) : Byt (packR L) := by
  unfold packR; split
  · exact (enc_byt (by omega)).app (packW_byt _ _ h)
  · exact Byt.nil
theorem enc_one {n : Nat} (h : n < 128) : (enc (n : Int)).length = 1 := by rw [enc_small (by omega)]; rfl
theorem wb_len {ahead t : List Int} (h : t.length ≤ 32) : (wb ahead t).length ≤ t.length + 2 ∧ 2 ≤ (wb ahead t).length := by
  have := sh_le ahead t
  unfold wb
  rw [List.length_append, List.length_append, enc_one (by omega), enc_one (by omega), List.length_drop]
  omega
def total : List (List Int) → Nat
  | [] => 0
  | t :: r => t.length + 2 + total r
theorem packW_len : ∀ (L : List (List Int)) (ahead : List Int), (∀ x ∈ L, x.length ≤ 32) → (packW ahead L).length ≤ total L ∧ 2 * L.length ≤ (packW ahead L).length ∧ total L ≤ 34 * L.length
  | [], _, _ => by simp [packW, total]
  | t :: r, ahead, h => by
    have h1 := wb_len (ahead := ahead) (h t (List.mem_cons_self ..))
    have h2 := packW_len r t (fun x hx => h x (List.mem_cons_of_mem _ hx))
    have h3 := h t (List.mem_cons_self ..)
    simp only [packW, total, List.length_append, List.length_cons]
    omega
theorem packR_len {L : List (List Int)} (h : mayR L = true) : (packR L).length ≤ total L + 2 ∧ 1 + 2 * L.length ≤ (packR L).length ∧ (packR L).length ≤ 7000 := by
  obtain ⟨h1, h2⟩ := mayR_mem h
  have h3 := packW_len L [] (fun x hx => (h2 x hx).2)
  have h4 := enc_len 2 (L.length : Int) (by omega) (by omega)
  have h5 := enc_pos (L.length : Int)
  rw [show packR L = enc L.length ++ packW [] L from if_pos h, List.length_append]
  omega
end Go.Proofs.Ytamofikjjkpejaa.DSpec
