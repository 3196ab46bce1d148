/- What is packed is unpacked as it; what is unpacked, packed, is the same bytes: LiveBack answers true for every input. -/
import Derived.Test.YtjjdnefonmlanaaLFunLiveBack
namespace Go.Proofs.Ytjjdnefonmlanaa.Pure
open Go Go.RowKit Go.Proofs.Ytjjdnefonmlanaa.PLiveBack Go.Proofs.YtjjdnefonmlanaaW.PrintWords Go.Proofs.YtjjdnefonmlanaaW.PrintLast Go.Proofs.Ytjjdnefonmlanaa.VSpec Go.Proofs.Ytjjdnefonmlanaa.LSpec Go.Proofs.Ytjjdnefonmlanaa.VLiveBack

theorem LiveBack_back (b : List Int) (hb : Byt b) (hm : b.length ≤ 140737488351232) (k : Nat) (hk : 500 ≤ k) : catchwordlaw04_LiveBack.j1 k b = some true := by
  obtain ⟨k, rfl⟩ : ∃ m, k = m + 1 := ⟨k - 1, by omega⟩
  simp only [catchwordlaw04_LiveBack.j1]
  rw [unpack_f b hb hm _ (by omega)]
  simp only [Option.bind_some]
  rcases unpack_cases b with ⟨m, hml, he, hu⟩ | ⟨_, hu⟩
  · rw [hu, if_pos rfl, pack_f _ _ (by omega)]
    simp only [Option.bind_some]
    have := pack_len m
    rw [bytes_f _ _ (by omega) _ (by omega), he]
    simp
  · rw [hu, if_neg (by simp)]
    rfl
theorem LiveBack : catchwordlaw04_LiveBack.Pure := by
  intro l b _ hb
  have hm : b.length ≤ 140737488351232 := by rw [← Nat.mul_one b.length]; exact hb.1
  have hb := Byt.of hb.2
  obtain ⟨k, hk⟩ : ∃ k : Nat, 1000 ≤ k := ⟨1000, Nat.le_refl _⟩
  refine ⟨k + 1, ?_⟩
  unfold catchwordlaw04_LiveBack.f catchwordlaw04_few.f
  have skip : catchwordlaw04_LiveBack.j0 (k + 1) l b true true = some true := by simp only [catchwordlaw04_LiveBack.j0, if_true]
  rw [live_awake' (k + 1) (by omega)]
  simp only [Option.bind_some, if_true, skip, decide_eq_true_eq]
  by_cases h : (l.length : Int) ≤ 100
  · rw [if_pos h]
    by_cases h' : (b.length : Int) > 100
    · rw [decide_eq_true h', skip]
    · rw [decide_eq_false h']
      have hback := LiveBack_back b hb hm k (by omega)
      simp only [catchwordlaw04_LiveBack.j0]
      rw [if_neg (by decide), lmay_f]
      simp only [Option.bind_some, decide_eq_true_eq]
      by_cases h64 : l.length ≤ 64
      · rw [if_pos h64, pack_f l k (by omega)]
        simp only [Option.bind_some]
        rw [unpack_f (packR l) (pack_byt l) (Nat.le_trans (pack_len l) (by decide)) k (by omega), unpack_of h64 rfl]
        simp only [Option.bind_some]
        rw [bools_f l l (Nat.le_trans h64 (by decide)) k (by omega), beq_self_eq_true]
        simp only [Option.bind_some, if_true]
        exact hback
      · rw [if_neg h64]
        exact hback
  · rw [if_neg h]
end Go.Proofs.Ytjjdnefonmlanaa.Pure
