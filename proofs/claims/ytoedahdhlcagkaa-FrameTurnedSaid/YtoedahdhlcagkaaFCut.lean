/- A frame of another kind, one that is cut, one with more behind it: in plain Lean. -/
import Derived.Test.YtoedahdhlcagkaaFSpec
namespace Go.Proofs.Ytoedahdhlcagkaa.FSpec
open Go Go.RowKit Go.Proofs.YtoedahdhlcagkaaW.PrintWords Go.Proofs.YtoedahdhlcagkaaW.PrintLast Go.Proofs.YtoedahdhlcagkaaW.PrintMore Go.Proofs.Ytoedahdhlcagkaa.VSpec

theorem wrap_form (k : Int) (b : List Int) : wrap k b = 70 :: k :: (enc b.length ++ (b ++ le4 (sum (body k b)))) := by simp [wrap, body]
theorem wrap_length (k : Int) (b : List Int) : (wrap k b).length = 2 + (enc (b.length : Int)).length + b.length + 4 := by
  rw [wrap_form]
  simp only [List.length_cons, List.length_append, le4, List.length_nil]
  omega
theorem open_other {k o : Int} (b : List Int) (h : k ≠ o) : openR (wrap k b) o = ([], 5) := by
  unfold openR
  rw [if_pos]
  refine .inr (.inr ?_)
  rw [wrap_form]
  exact h
theorem open_more {k : Int} {b m : List Int} (hl : b.length ≤ 65536) (hm : m ≠ []) : openR (wrap k b ++ m) k = ([], 5) := by
  have hn : Num (b.length : Int) := ⟨by omega, by omega⟩
  have hml := List.length_pos_iff.2 hm
  have hlen := wrap_length k b
  unfold openR
  split
  · rfl
  · have hd : (wrap k b ++ m).drop 2 = enc b.length ++ (b ++ le4 (sum (body k b)) ++ m) := by rw [wrap_form]; simp
    rw [hd, dec5_enc hn]
    simp only
    rw [if_pos (by rw [List.length_append]; omega)]
theorem open_cut {k : Int} {b : List Int} (hb : Byt b) (hl : b.length ≤ 65536) (cut : Nat) (hc : cut < (wrap k b).length) : (openR ((wrap k b).take cut) k).2 = 5 := by
  have hn : Num (b.length : Int) := ⟨by omega, by omega⟩
  have hlen := wrap_length k b
  unfold openR
  split
  · rfl
  · rename_i h0
    have hc2 : 2 ≤ cut := by
      have := h0
      simp only [List.length_take] at this
      omega
    have hd : ((wrap k b).take cut).drop 2 = (enc b.length ++ (b ++ le4 (sum (body k b)))).take (cut - 2) := by
      rw [wrap_form]
      obtain ⟨c, rfl⟩ : ∃ c, cut = c + 2 := ⟨cut - 2, by omega⟩
      simp
    split
    · rfl
    · rename_i n j hdec
      rw [hd] at hdec
      have hbt : Byt ((enc (b.length : Int) ++ (b ++ le4 (sum (body k b)))).take (cut - 2)) := ((enc_byt (by omega)).app (hb.app (le4_byt _))).take _
      obtain ⟨a1, a2, a3, a4, a5, a6, _⟩ := enc_dec 5 _ true n j hbt hdec
      have hpow : (128 : Int) ^ 5 = 34359738368 := by decide
      rw [hpow] at a2
      have hn' : Num n := ⟨a1, by omega⟩
      have e := dec5_enc hn (b ++ le4 (sum (body k b)))
      have hjl : j ≤ cut - 2 := by rw [List.length_take] at a4; omega
      have e2 : enc n = (enc (b.length : Int) ++ (b ++ le4 (sum (body k b)))).take j := by rw [a6, List.take_take, Nat.min_eq_left hjl]
      have e3 := dec5_enc hn' ((enc (b.length : Int) ++ (b ++ le4 (sum (body k b)))).drop j)
      rw [e2, List.take_append_drop, e] at e3
      simp only [Option.some.injEq, Prod.mk.injEq] at e3
      obtain ⟨e4, e5⟩ := e3
      have e6 : j = (enc (b.length : Int)).length := by rw [e5, List.length_take]; rw [List.length_take] at a4; omega
      rw [if_pos (by right; rw [List.length_take]; omega)]
end Go.Proofs.Ytoedahdhlcagkaa.FSpec
