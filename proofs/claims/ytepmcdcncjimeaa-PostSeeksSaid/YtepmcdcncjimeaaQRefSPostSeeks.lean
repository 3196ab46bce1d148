/- What the reference's Seek tells, for the functions printed for one law. -/
import Derived.Test.YtepmcdcncjimeaaQRefUPostSeeks
import Derived.Test.YtepmcdcncjimeaaQSeekPostSeeks
namespace Go.Proofs.Ytepmcdcncjimeaa.VPostSeeks
set_option linter.unusedVariables false
set_option linter.unusedSimpArgs false
open Go Go.RowKit Go.Proofs.Ytepmcdcncjimeaa.PPostSeeks Go.Proofs.YtepmcdcncjimeaaW.PrintWords Go.Proofs.YtepmcdcncjimeaaW.PrintLast Go.Proofs.YtepmcdcncjimeaaW.PrintMore Go.Proofs.Ytepmcdcncjimeaa.VSpec

theorem rseek_l0 (l : List S39) (doc : Int) (hm : l.length ≤ 64) : ∀ (d k i : Nat), d = l.length - i → i ≤ l.length → d < k → catchwordref06_Seek.l0 k doc l (i : Int) = some (firstI doc i (l.drop i))
  | 0, k, i, hd, hi, hk => by
    obtain ⟨k, rfl⟩ : ∃ m, k = m + 1 := ⟨k - 1, by omega⟩
    simp only [catchwordref06_Seek.l0]
    rw [if_neg (by omega), List.drop_eq_nil_of_le (by omega)]
    rfl
  | d + 1, k, i, hd, hi, hk => by
    obtain ⟨k, rfl⟩ : ∃ m, k = m + 1 := ⟨k - 1, by omega⟩
    simp only [catchwordref06_Seek.l0]
    have hl : i < l.length := by omega
    rw [if_pos (by omega), if_pos (by omega), w64n (x := (i : Int) + 1) (i + 1) (by omega) (by omega), rseek_l0 l doc hm d k (i + 1) (by omega) (by omega) (by omega), rd39_at l i hl]
    simp only [firstI]
    by_cases h : (rd_T39 l (i : Int)).f0 ≥ doc
    · rw [if_pos h, if_pos h, show Int.tdiv (i : Int) 4 = ((i / 4 : Nat) : Int) by rw [Int.tdiv_eq_ediv_of_nonneg (by omega)]; omega, w64 (by omega) (by omega)]
    · rw [if_neg h, if_neg h]
theorem rseek_f (b : List Int) (doc : Int) (hb : Byt b) (hm : b.length ≤ 100000000) (k : Nat) (hk : 200000000 < k) : catchwordref06_Seek.f k b doc = some (seekR b doc) := by
  unfold catchwordref06_Seek.f seekR
  rw [runpack_f b hb hm k hk, Option.bind_some]
  by_cases h : (unpackR b).2 = 0
  · rw [if_pos h, if_pos h]
    obtain ⟨m1, _⟩ := unpackR_ok hb h
    obtain ⟨_, w2, _⟩ := mayR_iff.1 m1
    have := rseek_l0 (unpackR b).1 doc w2 _ k 0 rfl (by omega) (by omega)
    rw [List.drop_zero] at this
    exact this
  · rw [if_neg h, if_neg h]
    rcases unpackR_err b with e | e
    · exact absurd (by rw [e]) h
    · rw [e]
theorem firstI_len (doc : Int) (B : Nat) : ∀ (l : List S39) (i : Nat), (∀ p ∈ l, p.f1.length ≤ B) → (firstI doc i l).2.1.length ≤ B
  | [], _, _ => by simp [firstI]
  | p :: t, i, h => by
    simp only [firstI]
    split
    · exact h p (List.mem_cons_self ..)
    · exact firstI_len doc B t (i + 1) (fun q hq => h q (List.mem_cons_of_mem _ hq))
theorem seekR_len {b : List Int} (doc : Int) (hb : Byt b) : (seekR b doc).2.1.length ≤ 120 := by
  unfold seekR
  split
  · rename_i h
    obtain ⟨m1, _⟩ := unpackR_ok hb h
    obtain ⟨w1, _, _⟩ := mayR_iff.1 m1
    exact firstI_len doc 120 _ 0 (fun p hp => (okP_iff.1 (w1 p hp)).2.1)
  · simp
end Go.Proofs.Ytepmcdcncjimeaa.VPostSeeks
