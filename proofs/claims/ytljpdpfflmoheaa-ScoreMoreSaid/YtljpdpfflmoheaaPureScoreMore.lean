/- Who has a word more often, or a rarer one, weighs more; who is longer weighs less: ScoreMore answers true for every input. -/
import Derived.Test.YtljpdpfflmoheaaSFunScoreMore
namespace Go.Proofs.Ytljpdpfflmoheaa.Pure
open Go Go.RowKit Go.Proofs.Ytljpdpfflmoheaa.PScoreMore Go.Proofs.YtljpdpfflmoheaaW.PrintWords Go.Proofs.YtljpdpfflmoheaaW.PrintLast Go.Proofs.Ytljpdpfflmoheaa.SSpec Go.Proofs.Ytljpdpfflmoheaa.SScoreMore

theorem awake_ScoreMore : catchwordlaw19_awake.f 100 = some true := by decide +kernel
theorem weighs (t i n t' i' n' : Nat) (k : Nat) (hk : 400 < k) (ht : 1 ≤ t ∧ t ≤ 120) (hi : 1 ≤ i ∧ i ≤ 64) (hn : 1 ≤ n ∧ n ≤ 64) (ht' : 1 ≤ t' ∧ t' ≤ 120) (hi' : 1 ≤ i' ∧ i' ≤ 64) (hn' : 1 ≤ n' ∧ n' ≤ 64)
    (h : 3 * t * i * (t' + n') < 3 * t' * i' * (t + n)) : score_Less.f k (I2 (weight t i n)).1 (I2 (weight t i n)).2 (I2 (weight t' i' n')).1 (I2 (weight t' i' n')).2 = some true := by
  rw [weight_nat ht hi hn, weight_nat ht' hi' hn']
  have hb : 3 * t * i ≤ 360 * 64 := Nat.mul_le_mul (by omega) (by omega)
  have hb' : 3 * t' * i' ≤ 360 * 64 := Nat.mul_le_mul (by omega) (by omega)
  have l1 := mk_le (n := 3 * t * i) (d := t + n)
  have l2 := mk_le (n := 3 * t' * i') (d := t' + n')
  simp only [I2]
  rw [less_f _ _ _ _ k (by omega) (by omega) (by omega) (by omega) (by omega) (by omega), mk_less (by omega) (by omega), decide_eq_true h]
theorem ScoreMore : catchwordlaw19_ScoreMore.Pure := by
  intro t i n ht hi hn
  have ht := wf_i64 ht
  have hi := wf_i64 hi
  have hn := wf_i64 hn
  refine ⟨1001, ?_⟩
  unfold catchwordlaw19_ScoreMore.f
  rw [at_rounds (fun k => catchwordlaw19_awake.mono k) (show 100 ≤ 1001 by omega) awake_ScoreMore]
  simp only [Option.bind_some, if_true]
  have skip : catchwordlaw19_ScoreMore.j0 1001 t i n true true = some true := by simp only [catchwordlaw19_ScoreMore.j0, if_true]
  by_cases t0 : t < 1
  · rw [if_pos t0, skip]
  · rw [if_neg t0]
    by_cases t1 : t > 119
    · rw [if_pos t1, skip]
    · rw [if_neg t1]
      by_cases i0 : i < 1
      · rw [if_pos i0, skip]
      · rw [if_neg i0]
        by_cases i1 : i > 63
        · rw [if_pos i1, skip]
        · rw [if_neg i1]
          by_cases n0 : n < 1
          · rw [if_pos n0, skip]
          · rw [if_neg n0]
            by_cases n1 : n > 63
            · rw [decide_eq_true n1, skip]
            · rw [decide_eq_false n1]
              obtain ⟨t, rfl⟩ : ∃ m : Nat, t = m := ⟨t.toNat, by omega⟩
              obtain ⟨i, rfl⟩ : ∃ m : Nat, i = m := ⟨i.toNat, by omega⟩
              obtain ⟨n, rfl⟩ : ∃ m : Nat, n = m := ⟨n.toNat, by omega⟩
              have e1 : 3 * (t + 1) * i * (t + n) = 3 * t * i * (t + 1 + n) + 3 * (i * n) := by grind
              have e2 : 3 * t * (i + 1) * (t + n) = 3 * t * i * (t + n) + 3 * (t * (t + n)) := by grind
              have e3 : 3 * t * i * (t + (n + 1)) = 3 * t * i * (t + n) + 3 * (t * i) := by grind
              have e4 : 3 * i * (t + n) = 3 * t * i * 1 + 3 * (i * n) := by grind
              have p1 : 0 < i * n := Nat.mul_pos (by omega) (by omega)
              have p2 : 0 < t * (t + n) := Nat.mul_pos (by omega) (by omega)
              have p3 : 0 < t * i := Nat.mul_pos (by omega) (by omega)
              simp only [catchwordlaw19_ScoreMore.j0]
              rw [if_neg (by decide), w64n (x := (t : Int) + 1) (t + 1) (by omega) (by omega), w64n (x := (i : Int) + 1) (i + 1) (by omega) (by omega), w64n (x := (n : Int) + 1) (n + 1) (by omega) (by omega),
                weight_f t i n _ (by omega), weight_f _ i n _ (by omega), weight_f t _ n _ (by omega), weight_f t i _ _ (by omega)]
              simp only [Option.bind_some]
              rw [weighs t i n (t + 1) i n 1000 (by omega) (by omega) (by omega) (by omega) (by omega) (by omega) (by omega) (by omega)]
              simp only [Option.bind_some, if_true]
              rw [weighs t i n t (i + 1) n 1000 (by omega) (by omega) (by omega) (by omega) (by omega) (by omega) (by omega) (by omega)]
              simp only [Option.bind_some, if_true]
              rw [weighs t i (n + 1) t i n 1000 (by omega) (by omega) (by omega) (by omega) (by omega) (by omega) (by omega) (by omega)]
              simp only [Option.bind_some, if_true]
              have hb : 3 * t * i ≤ 360 * 64 := Nat.mul_le_mul (by omega) (by omega)
              have l1 := mk_le (n := 3 * t * i) (d := t + n)
              have hm := mk_may (n := 3 * t * i) (d := t + n) (by omega)
              have hl := mk_less (n := 3 * t * i) (d := t + n) (n' := 3 * i) (d' := 1) (by omega) (by omega)
              rw [mk_of_may (n := 3 * i) (d := 1) (by simp [may]), decide_eq_true (by omega)] at hl
              rw [w64n (x := 3 * (i : Int)) (3 * i) (by omega) (by omega), u64_nat _ (by omega), weight_nat (by omega) (by omega) (by omega)]
              simp only [I2]
              have hc := less_f (mk (3 * t * i) (t + n)).1 (mk (3 * t * i) (t + n)).2.1 (3 * i) 1 1000 (by omega) (by omega) (by omega) (by omega) (by omega) (by omega)
              rw [show (((1 : Nat) : Int)) = 1 from rfl] at hc
              rw [hc, hl]
              simp only [Option.bind_some, if_true]
              rw [may_f _ _ _ (by omega) (by omega) (by omega), hm]
              rfl

end Go.Proofs.Ytljpdpfflmoheaa.Pure
