/- A sum is the same either way round; nothing is below it but by more; both with the same stay in order: ScoreAdds answers true for every input. -/
import Derived.Test.YtljpdpfflmoheaaSFunScoreAdds
import Derived.Test.YtljpdpfflmoheaaSSum
namespace Go.Proofs.Ytljpdpfflmoheaa.Pure
open Go Go.RowKit Go.Proofs.Ytljpdpfflmoheaa.PScoreAdds Go.Proofs.YtljpdpfflmoheaaW.PrintWords Go.Proofs.YtljpdpfflmoheaaW.PrintLast Go.Proofs.Ytljpdpfflmoheaa.SSpec Go.Proofs.Ytljpdpfflmoheaa.SScoreAdds

theorem awake_ScoreAdds : catchwordlaw19_awake.f 100 = some true := by decide +kernel
theorem addfit (a b c d : Nat) : (add a b c d).1 < 18446744073709551616 ∧ (add a b c d).2.1 < 18446744073709551616 := by
  unfold add
  split
  · rename_i h
    have := mk_le (n := a * d + c * b) (d := b * d)
    omega
  · simp
theorem ScoreAdds : catchwordlaw19_ScoreAdds.Pure := by
  intro a b c d e f wa wb wc wd we wf
  obtain ⟨a, rfl, ha⟩ := wf_u64 wa
  obtain ⟨b, rfl, hb⟩ := wf_u64 wb
  obtain ⟨c, rfl, hc⟩ := wf_u64 wc
  obtain ⟨d, rfl, hd⟩ := wf_u64 wd
  obtain ⟨e, rfl, he⟩ := wf_u64 we
  obtain ⟨f, rfl, hf⟩ := wf_u64 wf
  have main : ∀ k, 18446744073709551616 < k → catchwordlaw19_ScoreAdds.f (k + 3) a b c d e f = some true := by
    intro k hk
    unfold catchwordlaw19_ScoreAdds.f
    rw [at_rounds (fun k => catchwordlaw19_awake.mono k) (show 100 ≤ k + 3 by omega) awake_ScoreAdds, add_f a b c d _ ha hb hc hd (by omega), add_f c d a b _ hc hd ha hb (by omega), add_comm c d a b]
    simp only [Option.bind_some, if_true, I3, beq_self_eq_true, Bool.not_true, Bool.or_self, bne_self_eq_false, catchwordlaw19_ScoreAdds.j0]
    rw [if_neg (by decide)]
    cases h0 : (add a b c d).2.2 with
    | false =>
      rw [if_neg (by decide), add_none h0]
      rfl
    | true =>
      obtain ⟨h1, h2, p1, p2, hx⟩ := add_ok h0
      have hfit := addfit a b c d
      have hp : 0 < b * d := Nat.mul_pos p1 p2
      obtain ⟨l1, l2⟩ := less_self_mk (n := a * d + c * b) h1 hp
      have hm := mk_may (n := a * d + c * b) hp
      rw [← hx] at l1 l2 hm
      rw [if_pos rfl]
      have hz := add_f a b 0 1 (k + 2) ha hb (by omega) (by omega) (by omega)
      rw [add_zero h1 ha hb] at hz
      rw [show (((0 : Nat) : Int)) = 0 from rfl, show (((1 : Nat) : Int)) = 1 from rfl] at hz
      rw [hz]
      simp only [Option.bind_some, if_true, I3, beq_self_eq_true, Bool.not_true, Bool.or_self]
      have e1 : (a * d + c * b) * b = a * (b * d) + c * b * b := by rw [Nat.add_mul]; congr 1; ac_rfl
      rw [if_neg (by decide), less_f _ _ a b _ hfit.1 hfit.2 ha hb (by omega) (by omega), l1, decide_eq_false (by omega)]
      simp only [Option.bind_some]
      rw [if_neg (by decide), less_f a b _ _ _ ha hb hfit.1 hfit.2 (by omega) (by omega), l2]
      simp only [Option.bind_some]
      have e2 : decide (a * (b * d) < (a * d + c * b) * b) = decide ((c : Int) > 0) := by
        rw [Bool.eq_iff_iff, decide_eq_true_iff, decide_eq_true_iff, e1]
        constructor
        · intro h
          rcases Nat.eq_zero_or_pos c with rfl | hc0
          · simp at h
          · omega
        · intro h
          have : 0 < c * b * b := Nat.mul_pos (Nat.mul_pos (by omega) p1) p1
          omega
      rw [e2, bne_self_eq_false, if_neg (by decide), may_f _ _ _ hfit.1 hfit.2 (by omega), hm]
      simp only [Option.bind_some, Bool.not_true, catchwordlaw19_ScoreAdds.j1, Bool.false_eq_true, if_false]
      rw [add_f a b e f _ ha hb he hf (by omega), add_f c d e f _ hc hd he hf (by omega)]
      simp only [Option.bind_some, I3, catchwordlaw19_ScoreAdds.j2]
      cases h3 : (add a b e f).2.2 with
      | false => simp
      | true =>
        rw [if_pos rfl]
        cases h4 : (add c d e f).2.2 with
        | false => simp
        | true =>
          obtain ⟨_, h5, _, p3, hy⟩ := add_ok h3
          obtain ⟨_, _, _, _, hz'⟩ := add_ok h4
          have f1 := addfit a b e f
          have f2 := addfit c d e f
          rw [if_pos rfl, less_f _ _ _ _ _ f1.1 f1.2 f2.1 f2.2 (by omega) (by omega), less_f a b c d _ ha hb hc hd (by omega) (by omega), hy, hz', mk_less (Nat.mul_pos p1 p3) (Nat.mul_pos p2 p3), may_less h1 h2]
          simp only [Option.bind_some, Option.some.injEq, beq_iff_eq]
          rw [Bool.eq_iff_iff, decide_eq_true_iff, decide_eq_true_iff]
          have g1 : (a * f + e * b) * (d * f) = a * d * (f * f) + e * b * d * f := by rw [Nat.add_mul]; congr 1 <;> ac_rfl
          have g2 : (c * f + e * d) * (b * f) = c * b * (f * f) + e * b * d * f := by rw [Nat.add_mul]; congr 1 <;> ac_rfl
          have g3 : 0 < f * f := Nat.mul_pos p3 p3
          rw [g1, g2, Nat.add_lt_add_iff_right]
          exact ⟨fun h => Nat.lt_of_mul_lt_mul_right h, fun h => Nat.mul_lt_mul_of_pos_right h g3⟩
  exact ⟨18446744073709551621, main 18446744073709551618 (by omega)⟩

end Go.Proofs.Ytljpdpfflmoheaa.Pure
