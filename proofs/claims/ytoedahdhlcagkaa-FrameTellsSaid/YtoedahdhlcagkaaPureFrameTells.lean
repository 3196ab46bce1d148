/- Any bytes have the sum, and the frame, and what is within them is, what the document says: FrameTells answers true for every input. -/
import Derived.Test.YtoedahdhlcagkaaFRefFrameTells
import Derived.Test.YtoedahdhlcagkaaFCut
import Derived.Test.YtoedahdhlcagkaaVList
namespace Go.Proofs.Ytoedahdhlcagkaa.Pure
open Go Go.RowKit Go.Proofs.Ytoedahdhlcagkaa.PFrameTells Go.Proofs.YtoedahdhlcagkaaW.PrintWords Go.Proofs.YtoedahdhlcagkaaW.PrintLast Go.Proofs.Ytoedahdhlcagkaa.VSpec Go.Proofs.Ytoedahdhlcagkaa.FSpec Go.Proofs.Ytoedahdhlcagkaa.VFrameTells

theorem awake_FrameTells : catchwordlaw02_awake.f 100 = some true := by decide +kernel
theorem open_len (b : List Int) (k : Int) : (openR b k).1.length ≤ b.length := by
  unfold openR
  split
  · exact Nat.zero_le _
  · split
    · exact Nat.zero_le _
    · split
      · exact Nat.zero_le _
      · split
        · simp only [List.length_take, List.length_drop]; omega
        · exact Nat.zero_le _
theorem FrameTells : catchwordlaw02_FrameTells.Pure := by
  intro b kind _ _ hb hk
  have hb := Byt.of hb
  have hk := wf_u8 hk
  refine ⟨10 * b.length + 401, ?_⟩
  unfold catchwordlaw02_FrameTells.f
  rw [at_rounds (fun k => catchwordlaw02_awake.mono k) (show 100 ≤ 10 * b.length + 401 by omega) awake_FrameTells]
  simp only [Option.bind_some, if_true, catchwordlaw02_FrameTells.j0]
  by_cases h : b.length > 3000
  · rw [if_pos (decide_eq_true (by omega))]
  · rw [if_neg (by simp; omega), open_f b kind hb (by omega) _ (by omega), Option.bind_some, ropen_f b kind hk hb (by omega) _ (by omega), Option.bind_some]
    have hol := open_len b kind
    have hwl : (wrapR kind b).length ≤ b.length + 11 := by
      rw [wrapR, if_pos (by omega)]
      exact (wrap_len (by omega)).1
    rw [bytes_f _ _ (by omega) _ (by omega), Option.bind_some, wrap_f kind b hk hb _ (by omega), Option.bind_some, rwrap_f kind b hk hb _ (by omega), Option.bind_some, bytes_f _ _ (by omega) _ (by omega), Option.bind_some]
    rw [if_pos (beq_self_eq_true _), if_pos (beq_self_eq_true _), if_pos rfl, sum_f b hb (by omega) _ (by omega), Option.bind_some, rsum_f b hb (by omega) _ (by omega), Option.bind_some, beq_self_eq_true]
end Go.Proofs.Ytoedahdhlcagkaa.Pure
