/- The words of all lists, in plain Lean, with no program in sight. -/
import Derived.Test.YtamofikjjkpejaaDSpec
namespace Go.Proofs.Ytamofikjjkpejaa.DSpec
open Go Go.RowKit Go.Proofs.YtamofikjjkpejaaW.PrintWords Go.Proofs.YtamofikjjkpejaaW.PrintLast Go.Proofs.YtamofikjjkpejaaW.PrintMore Go.Proofs.Ytamofikjjkpejaa.VSpec

def Asc (L : List (List Int)) : Prop := L.Pairwise (fun a b => lt a b = true)
/-- Words with one more, in its place, if it is not there. -/
def addR : List (List Int) → List Int → List (List Int)
  | [], t => [t]
  | a :: r, t => if lt a t = true then a :: addR r t else if a = t then a :: r else t :: a :: r
theorem addR_mem : ∀ (L : List (List Int)) (t x : List Int), x ∈ addR L t ↔ x = t ∨ x ∈ L
  | [], t, x => by simp [addR]
  | a :: r, t, x => by
    simp only [addR]
    split
    · rw [List.mem_cons, addR_mem r t x, List.mem_cons]
      constructor
      · rintro (h | h | h)
        · exact .inr (.inl h)
        · exact .inl h
        · exact .inr (.inr h)
      · rintro (h | h | h)
        · exact .inr (.inl h)
        · exact .inl h
        · exact .inr (.inr h)
    · split
      · rename_i h
        subst h
        rw [List.mem_cons]
        constructor
        · exact fun h => .inr h
        · rintro (h | h)
          · exact .inl h
          · exact h
      · rw [List.mem_cons]
theorem addR_asc : ∀ (L : List (List Int)) (t : List Int), Asc L → Asc (addR L t)
  | [], t, _ => List.pairwise_singleton _ _
  | a :: r, t, h => by
    have h' := List.pairwise_cons.1 h
    simp only [addR]
    split
    · rename_i hat
      refine List.Pairwise.cons (fun x hx => ?_) (addR_asc r t h'.2)
      rcases (addR_mem r t x).1 hx with rfl | hx
      · exact hat
      · exact h'.1 x hx
    · rename_i hat
      split
      · exact h
      · rename_i hne
        have hta : lt t a = true := lt_total a t (by simpa using hat) hne
        refine List.Pairwise.cons (fun x hx => ?_) h
        rcases List.mem_cons.1 hx with rfl | hx
        · exact hta
        · exact lt_trans _ _ _ hta (h'.1 x hx)
theorem asc_len : ∀ (B A : List (List Int)), Asc A → Asc B → (∀ x ∈ A, x ∈ B) → A.length ≤ B.length
  | _, [], _, _, _ => Nat.zero_le _
  | [], a :: A, _, _, h => by have := h a (List.mem_cons_self ..); cases this
  | b :: B, a :: A, hA, hB, h => by
    have hA' := List.pairwise_cons.1 hA
    have hB' := List.pairwise_cons.1 hB
    by_cases e : a = b
    · subst e
      have := asc_len B A hA'.2 hB'.2 (fun x hx => by
        rcases List.mem_cons.1 (h x (List.mem_cons_of_mem _ hx)) with rfl | h'
        · have := hA'.1 x hx
          rw [lt_irrefl] at this; cases this
        · exact h')
      simp; omega
    · have ha : a ∈ B := by
        rcases List.mem_cons.1 (h a (List.mem_cons_self ..)) with h' | h'
        · exact absurd h' e
        · exact h'
      have := asc_len B (a :: A) hA hB'.2 (fun x hx => by
        rcases List.mem_cons.1 (h x hx) with rfl | h'
        · rcases List.mem_cons.1 hx with h2 | h2
          · exact absurd h2.symm e
          · have h3 := hA'.1 x h2
            have h4 := hB'.1 a ha
            rw [lt_asymm _ _ h4] at h3; cases h3
        · exact h')
      simp only [List.length_cons] at this ⊢; omega
theorem asc_eq : ∀ (A B : List (List Int)), Asc A → Asc B → (∀ x, x ∈ A ↔ x ∈ B) → A = B
  | [], [], _, _, _ => rfl
  | [], b :: B, _, _, h => by have := (h b).2 (List.mem_cons_self ..); cases this
  | a :: A, [], _, _, h => by have := (h a).1 (List.mem_cons_self ..); cases this
  | a :: A, b :: B, hA, hB, h => by
    have hA' := List.pairwise_cons.1 hA
    have hB' := List.pairwise_cons.1 hB
    have e : a = b := by
      rcases List.mem_cons.1 ((h a).1 (List.mem_cons_self ..)) with h1 | h1
      · exact h1
      · rcases List.mem_cons.1 ((h b).2 (List.mem_cons_self ..)) with h2 | h2
        · exact h2.symm
        · have h3 := hA'.1 b h2
          rw [lt_asymm _ _ (hB'.1 a h1)] at h3; cases h3
    subst e
    rw [asc_eq A B hA'.2 hB'.2 (fun x => ?_)]
    constructor
    · intro hx
      rcases List.mem_cons.1 ((h x).1 (List.mem_cons_of_mem _ hx)) with rfl | h'
      · have := hA'.1 x hx
        rw [lt_irrefl] at this; cases this
      · exact h'
    · intro hx
      rcases List.mem_cons.1 ((h x).2 (List.mem_cons_of_mem _ hx)) with rfl | h'
      · have := hB'.1 x hx
        rw [lt_irrefl] at this; cases this
      · exact h'
/-- The words of all, one list behind the other. -/
def addAll (U : List (List Int)) (L : List (List Int)) : List (List Int) := L.foldl addR U
theorem addAll_asc : ∀ (L U : List (List Int)), Asc U → Asc (addAll U L)
  | [], _, h => h
  | t :: L, U, h => addAll_asc L (addR U t) (addR_asc U t h)
theorem addAll_mem : ∀ (L U : List (List Int)) (x : List Int), x ∈ addAll U L ↔ x ∈ U ∨ x ∈ L
  | [], U, x => by simp [addAll]
  | t :: L, U, x => by
    show x ∈ addAll (addR U t) L ↔ _
    rw [addAll_mem L (addR U t) x, addR_mem, List.mem_cons]
    constructor
    · rintro ((h | h) | h)
      · exact .inr (.inl h)
      · exact .inl h
      · exact .inr (.inr h)
    · rintro (h | h | h)
      · exact .inl (.inr h)
      · exact .inl (.inl h)
      · exact .inr h
def uni : List (List (List Int)) → List (List Int) → List (List Int)
  | [], U => U
  | L :: LL, U => uni LL (addAll U L)
theorem uni_asc : ∀ (LL : List (List (List Int))) (U : List (List Int)), Asc U → Asc (uni LL U)
  | [], _, h => h
  | L :: LL, U, h => uni_asc LL _ (addAll_asc L U h)
theorem uni_mem : ∀ (LL : List (List (List Int))) (U : List (List Int)) (x : List Int), x ∈ uni LL U ↔ x ∈ U ∨ ∃ L ∈ LL, x ∈ L
  | [], U, x => by simp [uni]
  | L :: LL, U, x => by
    rw [uni, uni_mem LL, addAll_mem]
    constructor
    · rintro ((h | h) | ⟨M, h, h'⟩)
      · exact .inl h
      · exact .inr ⟨L, List.mem_cons_self .., h⟩
      · exact .inr ⟨M, List.mem_cons_of_mem _ h, h'⟩
    · rintro (h | ⟨M, h, h'⟩)
      · exact .inl (.inl h)
      · rcases List.mem_cons.1 h with rfl | h
        · exact .inl (.inr h')
        · exact .inr ⟨M, h, h'⟩
/-- What Or answers. -/
def orR (LL : List (List (List Int))) : List (List Int) := if LL.all mayR = true then (if (uni LL []).length > 200 then [] else uni LL []) else []
end Go.Proofs.Ytamofikjjkpejaa.DSpec
