/- Any list has the bytes, and any bytes have the list, that the document says: LivePacks answers true for every input. -/
import Derived.Test.YtjjdnefonmlanaaLRefPLivePacks
namespace Go.Proofs.Ytjjdnefonmlanaa.Pure
open Go Go.RowKit Go.Proofs.Ytjjdnefonmlanaa.PLivePacks Go.Proofs.YtjjdnefonmlanaaW.PrintWords Go.Proofs.YtjjdnefonmlanaaW.PrintLast Go.Proofs.Ytjjdnefonmlanaa.VSpec Go.Proofs.Ytjjdnefonmlanaa.LSpec Go.Proofs.Ytjjdnefonmlanaa.VLivePacks

theorem LivePacks : catchwordlaw04_LivePacks.Pure := by
  intro l b _ hb
  have hm : b.length ≤ 140737488351232 := by rw [← Nat.mul_one b.length]; exact hb.1
  have hb := Byt.of hb.2
  obtain ⟨k, hk⟩ : ∃ k : Nat, 5000 ≤ k := ⟨5000, Nat.le_refl _⟩
  refine ⟨k + 1, ?_⟩
  unfold catchwordlaw04_LivePacks.f catchwordlaw04_few.f
  have skip : catchwordlaw04_LivePacks.j0 (k + 1) l b true true = some true := by simp only [catchwordlaw04_LivePacks.j0, if_true]
  rw [live_awake' (k + 1) (by omega)]
  simp only [Option.bind_some, if_true, skip, decide_eq_true_eq]
  by_cases h : (l.length : Int) ≤ 100
  · rw [if_pos h]
    by_cases h' : (b.length : Int) > 100
    · rw [decide_eq_true h', skip]
    · rw [decide_eq_false h']
      have hpl := pack_len l
      have hul : (unpackR b).1.length ≤ 64 := by
        rcases unpack_cases b with ⟨m, hml, _, hu⟩ | ⟨_, hu⟩
        · rw [hu]; exact hml
        · rw [hu]; simp
      simp only [catchwordlaw04_LivePacks.j0]
      rw [if_neg (by decide), unpack_f b hb hm k (by omega), runpack_f b hb hm k (by omega), pack_f l k (by omega), rpack_f l k (by omega)]
      simp only [Option.bind_some]
      rw [bools_f _ _ (by omega) k (by omega), bytes_f _ _ (by omega) k (by omega)]
      simp only [Option.bind_some, beq_self_eq_true, if_true]
  · rw [if_neg h]
end Go.Proofs.Ytjjdnefonmlanaa.Pure
