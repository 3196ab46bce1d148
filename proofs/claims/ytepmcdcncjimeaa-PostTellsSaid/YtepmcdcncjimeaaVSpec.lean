/- What the bytes of numbers and of rising lists are, in plain Lean, with no program in sight. -/
import Derived.Test.YtepmcdcncjimeaaWMore
import Derived.Laws.BitsLemmas
import Derived.Test.YtepmcdcncjimeaaVName
namespace Go.Proofs.Ytepmcdcncjimeaa.VSpec
open Go Go.RowKit Go.Proofs.YtepmcdcncjimeaaW.PrintWords Go.Proofs.YtepmcdcncjimeaaW.PrintLast Go.Proofs.YtepmcdcncjimeaaW.PrintMore

def Byt (l : List Int) : Prop := ∀ x ∈ l, 0 ≤ x ∧ x < 256
theorem wf_u8 {x : Int} (h : (Lit.int .u8 x).wf = true) : 0 ≤ x ∧ x < 256 := by
  simp [Lit.wf, IntKind.min, IntKind.max, IntKind.signed, IntKind.bits] at h
  omega
theorem wf_i64 {x : Int} (h : (Lit.int .i64 x).wf = true) : -9223372036854775808 ≤ x ∧ x ≤ 9223372036854775807 := by
  simp [Lit.wf, IntKind.min, IntKind.max, IntKind.signed, IntKind.bits] at h
  omega
theorem Byt.of {l : List Int} (h : ∀ x ∈ l, (Lit.int .u8 x).wf = true) : Byt l := fun x hx => wf_u8 (h x hx)
theorem Byt.take {l : List Int} (h : Byt l) (n : Nat) : Byt (l.take n) := fun x hx => h x (List.mem_of_mem_take hx)
theorem Byt.drop {l : List Int} (h : Byt l) (n : Nat) : Byt (l.drop n) := fun x hx => h x (List.mem_of_mem_drop hx)
theorem Byt.tail {a : Int} {l : List Int} (h : Byt (a :: l)) : Byt l := fun x hx => h x (List.mem_cons_of_mem _ hx)
theorem Byt.head {a : Int} {l : List Int} (h : Byt (a :: l)) : 0 ≤ a ∧ a < 256 := h a (List.mem_cons_self ..)
theorem Byt.app {l m : List Int} (h : Byt l) (h' : Byt m) : Byt (l ++ m) := fun x hx => (List.mem_append.1 hx).elim (h x) (h' x)
theorem Byt.nil : Byt [] := fun _ h => by cases h
theorem Byt.cons {a : Int} {l : List Int} (ha : 0 ≤ a ∧ a < 256) (h : Byt l) : Byt (a :: l) := fun x hx => by
  rcases List.mem_cons.1 hx with rfl | hx
  · exact ha
  · exact h x hx
theorem w64 {x : Int} (h0 : -9223372036854775808 ≤ x) (h1 : x ≤ 9223372036854775807) : wrap64 x = x := by
  unfold wrap64; omega

theorem w64n {x : Int} (n : Nat) (h : x = n) (hn : n ≤ 4611686018427387904) : wrap64 x = n := by
  rw [w64 (by omega) (by omega), h]

/-- The bytes of a number. -/
def enc (n : Int) : List Int := if n < 128 then [n] else (128 + n % 128) :: enc (n / 128)
termination_by n.toNat
decreasing_by omega

theorem enc_small {n : Int} (h : n < 128) : enc n = [n] := by rw [enc]; simp [h]
theorem enc_big {n : Int} (h : 128 ≤ n) : enc n = (128 + n % 128) :: enc (n / 128) := by rw [enc]; simp [show ¬ n < 128 by omega]
theorem enc_ne (n : Int) : enc n ≠ [] := by
  rw [enc]; split <;> simp
theorem enc_pos (n : Int) : 0 < (enc n).length := List.length_pos_iff.2 (enc_ne n)
theorem enc_byt {n : Int} (h : 0 ≤ n) : Byt (enc n) := by
  by_cases hs : n < 128
  · rw [enc_small hs]; exact Byt.cons ⟨h, by omega⟩ Byt.nil
  · rw [enc_big (by omega)]
    exact Byt.cons ⟨by omega, by omega⟩ (enc_byt (by omega))
termination_by n.toNat
decreasing_by omega

theorem enc_len : ∀ (f : Nat) (n : Int), 0 < f → n < 128 ^ f → (enc n).length ≤ f
  | 0, _, h, _ => by omega
  | f + 1, n, _, h => by
    by_cases hn : n < 128
    · rw [enc_small hn]; simp
    · rw [enc_big (by omega)]
      have hq : n / 128 < 128 ^ f := by rw [Int.pow_succ] at h; omega
      have hf : 0 < f := by
        rcases Nat.eq_zero_or_pos f with rfl | h'
        · simp at hq; omega
        · exact h'
      have := enc_len f (n / 128) hf hq
      simp; omega
/-- The numbers that have bytes. -/
def Num (n : Int) : Prop := 0 ≤ n ∧ n ≤ 34359738367
instance Num.dec (n : Int) : Decidable (Num n) := inferInstanceAs (Decidable (_ ∧ _))
theorem Num.len {n : Int} (h : Num n) : (enc n).length ≤ 5 := enc_len 5 n (by omega) (by have := h.2; omega)
/-- The bytes of numbers, one behind the other. -/
def encAll (l : List Int) : List Int := l.flatMap enc
theorem encAll_cons (n : Int) (l : List Int) : encAll (n :: l) = enc n ++ encAll l := rfl
theorem encAll_len : ∀ (l : List Int), (∀ x ∈ l, Num x) → (encAll l).length ≤ 5 * l.length
  | [], _ => by simp [encAll]
  | n :: l, h => by
    have h1 := (h n (List.mem_cons_self ..)).len
    have h2 := encAll_len l (fun x hx => h x (List.mem_cons_of_mem _ hx))
    rw [encAll_cons]; simp; omega
theorem encAll_byt : ∀ (l : List Int), (∀ x ∈ l, Num x) → Byt (encAll l)
  | [], _ => Byt.nil
  | n :: l, h => by
    rw [encAll_cons]
    exact (enc_byt (h n (List.mem_cons_self ..)).1).app (encAll_byt l (fun x hx => h x (List.mem_cons_of_mem _ hx)))

/-- A number out of bytes, f of them at most; whether more than the number's first byte is looked at. -/
def dec : Nat → List Int → Bool → Option (Int × Nat)
  | 0, _, _ => none
  | _ + 1, [], _ => none
  | f + 1, c :: t, first => if 128 ≤ c then (dec f t false).map (fun p => (c - 128 + 128 * p.1, p.2 + 1)) else if c = 0 ∧ first = false then none else some (c, 1)
def raw : Nat → List Int → Option (Int × Nat)
  | 0, _ => none
  | _ + 1, [] => none
  | f + 1, c :: t => if 128 ≤ c then (raw f t).map (fun p => (c - 128 + 128 * p.1, p.2 + 1)) else some (c, 1)

theorem dec_enc : ∀ (f : Nat) (n : Int) (first : Bool) (t : List Int), 0 ≤ n → n < 128 ^ f → (first = false ∨ f = 0 → 0 < n) → dec f (enc n ++ t) first = some (n, (enc n).length)
  | 0, n, _, _, h0, h1, h2 => by have := h2 (.inr rfl); simp at h1; omega
  | f + 1, n, first, t, h0, h1, h2 => by
    by_cases hs : n < 128
    · rw [enc_small hs]
      simp only [List.cons_append, dec]
      rw [if_neg (by omega), if_neg (by rintro ⟨rfl, hf⟩; have := h2 (.inl hf); omega)]
      rfl
    · rw [enc_big (by omega)]
      simp only [List.cons_append, dec, List.length_cons]
      have : (n / 128 : Int) < 128 ^ f := by
        rw [Int.pow_succ] at h1; omega
      rw [if_pos (by omega), dec_enc f (n / 128) false t (by omega) this (fun _ => by omega)]
      simp only [Option.map_some, Option.some.injEq, Prod.mk.injEq, and_true]
      omega

theorem enc_dec : ∀ (f : Nat) (l : List Int) (first : Bool) (n : Int) (k : Nat), Byt l → dec f l first = some (n, k) → 0 ≤ n ∧ n < 128 ^ f ∧ 1 ≤ k ∧ k ≤ l.length ∧ k ≤ f ∧ enc n = l.take k ∧ (first = false → 0 < n)
  | 0, _, _, _, _, _, h => by simp [dec] at h
  | _ + 1, [], _, _, _, _, h => by simp [dec] at h
  | f + 1, c :: t, first, n, k, hb, h => by
    have hc := hb.head
    have hp : (0 : Int) < 128 ^ f := Int.pow_pos (by omega)
    simp only [dec] at h
    split at h
    · rename_i hge
      cases hg : dec f t false with
      | none => rw [hg] at h; simp at h
      | some p =>
        obtain ⟨m, j⟩ := p
        rw [hg] at h
        simp only [Option.map_some, Option.some.injEq, Prod.mk.injEq] at h
        obtain ⟨rfl, rfl⟩ := h
        obtain ⟨a1, a2, a3, a4, a5, a6, a7⟩ := enc_dec f t false m j hb.tail hg
        have a7 := a7 rfl
        refine ⟨by omega, by rw [Int.pow_succ]; omega, by omega, by simp; omega, by omega, ?_, fun _ => by omega⟩
        rw [enc_big (by omega), List.take_succ_cons, ← a6]
        congr 1
        · omega
        · congr 1; omega
    · rename_i hlt
      split at h
      · simp at h
      · rename_i hz
        simp only [Option.some.injEq, Prod.mk.injEq] at h
        obtain ⟨rfl, rfl⟩ := h
        refine ⟨by omega, by rw [Int.pow_succ]; omega, by omega, by simp, by omega, ?_, ?_⟩
        · rw [enc_small (by omega)]; simp
        · intro hf
          simp [hf] at hz
          omega

theorem dec_raw : ∀ (f : Nat) (l : List Int) (first : Bool) (p : Int × Nat), dec f l first = some p → raw f l = some p
  | 0, _, _, _, h => by simp [dec] at h
  | _ + 1, [], _, _, h => by simp [dec] at h
  | f + 1, c :: t, first, p, h => by
    simp only [dec] at h
    simp only [raw]
    split at h
    · rename_i hge
      rw [if_pos hge]
      cases hg : dec f t false with
      | none => rw [hg] at h; simp at h
      | some q => rw [hg] at h; rw [dec_raw f t false q hg]; exact h
    · rename_i hlt
      rw [if_neg hlt]
      split at h
      · simp at h
      · exact h
theorem raw_bound : ∀ (f : Nat) (l : List Int) (n : Int) (k : Nat), Byt l → raw f l = some (n, k) → 0 ≤ n ∧ n < 128 ^ f ∧ 1 ≤ k ∧ k ≤ l.length ∧ k ≤ f
  | 0, _, _, _, _, h => by simp [raw] at h
  | _ + 1, [], _, _, _, h => by simp [raw] at h
  | f + 1, c :: t, n, k, hb, h => by
    have hc := hb.head
    have hp : (0 : Int) < 128 ^ f := Int.pow_pos (by omega)
    simp only [raw] at h
    split at h
    · cases hg : raw f t with
      | none => rw [hg] at h; simp at h
      | some p =>
        obtain ⟨m, j⟩ := p
        rw [hg] at h
        simp only [Option.map_some, Option.some.injEq, Prod.mk.injEq] at h
        obtain ⟨rfl, rfl⟩ := h
        obtain ⟨a1, a2, a3, a4, a5⟩ := raw_bound f t m j hb.tail hg
        refine ⟨by omega, by rw [Int.pow_succ]; omega, by omega, by simp; omega, by omega⟩
    · simp only [Option.some.injEq, Prod.mk.injEq] at h
      obtain ⟨rfl, rfl⟩ := h
      refine ⟨by omega, by rw [Int.pow_succ]; omega, by omega, by simp, by omega⟩
theorem raw_dec {f : Nat} {l : List Int} {n : Int} {k : Nat} (hb : Byt l) (h : raw f l = some (n, k)) : dec f l true = if enc n = l.take k then some (n, k) else none := by
  obtain ⟨h0, h1, h2, h3, h4⟩ := raw_bound f l n k hb h
  split
  · rename_i he
    have hl : l = enc n ++ l.drop k := by rw [he, List.take_append_drop]
    have := dec_enc f n true (l.drop k) h0 h1 (fun h => by rcases h with h | h; · cases h
                                                           · omega)
    rw [← hl] at this
    rw [this, he, List.length_take]
    congr 2; omega
  · rename_i he
    cases hg : dec f l true with
    | none => rfl
    | some p =>
      have h' := dec_raw f l true p hg
      rw [h] at h'
      cases h'
      exact absurd (enc_dec f l true n k hb hg).2.2.2.2.2.1 he
theorem raw_none {f : Nat} {l : List Int} (h : raw f l = none) (first : Bool) : dec f l first = none := by
  cases hg : dec f l first with
  | none => rfl
  | some p => rw [dec_raw f l first p hg] at h; cases h

theorem dec5_enc {n : Int} (h : Num n) (t : List Int) : dec 5 (enc n ++ t) true = some (n, (enc n).length) :=
  dec_enc 5 n true t h.1 (by have := h.2; omega) (fun h => by
    rcases h with h | h
    · cases h
    · omega)
/-- What Put answers. -/
def putR (n : Int) : List Int := if Num n then enc n else []
/-- What Get answers: the number, the place behind it, and the error. -/
def decR (b : List Int) (a : Int) : Int × Int × Int :=
  if a < 0 ∨ (b.length : Int) < a then (0, 0, 1)
  else match dec 5 (b.drop a.toNat) true with
    | none => (0, 0, 5)
    | some (n, k) => (n, a + k, 0)

end Go.Proofs.Ytepmcdcncjimeaa.VSpec
