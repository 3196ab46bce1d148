/- Words' bytes are no more than the words', two for each, and two; cut off they are none's: DictShort answers true for every input. -/
import Derived.Test.YtamofikjjkpejaaDPackFDictShort
namespace Go.Proofs.Ytamofikjjkpejaa.Pure
open Go Go.RowKit Go.Proofs.Ytamofikjjkpejaa.PDictShort Go.Proofs.YtamofikjjkpejaaW.PrintWords Go.Proofs.YtamofikjjkpejaaW.PrintLast Go.Proofs.Ytamofikjjkpejaa.VSpec Go.Proofs.Ytamofikjjkpejaa.DSpec Go.Proofs.Ytamofikjjkpejaa.VDictShort

theorem total_drop (l : List ByteArray) (i : Nat) (h : i < l.length) : total ((ws l).drop i) = (wd l i).length + 2 + total ((ws l).drop (i + 1)) := by
  rw [ws_drop l i h]; rfl
theorem DictShort_j2 (l : List ByteArray) (cut : Int) (_ : l.length ≤ 210) (hmay : mayR (ws l) = true) (k : Nat) (hk : 9000 ≤ k) : catchwordlaw07_DictShort.j2 k cut (packR (ws l)) false = some true := by
  obtain ⟨k, rfl⟩ : ∃ m, k = m + 1 := ⟨k - 1, by omega⟩
  have hp := packR_len hmay
  simp only [catchwordlaw07_DictShort.j2]
  rw [if_neg (by decide)]
  by_cases h0 : cut < 0
  · rw [if_pos h0]
  · rw [if_neg h0]
    by_cases h1 : cut ≥ ((packR (ws l)).length : Int)
    · rw [if_pos h1]
    · have hb := packR_byt (ws_byt l)
      have hc := unpack_cut hmay hb cut.toNat (by omega)
      have ht : ((packR (ws l)).take cut.toNat).length ≤ 7000 := by rw [List.length_take]; omega
      rw [if_neg h1, if_pos (by omega), if_pos (by omega), unpack_f _ (hb.take _) (by omega) k (by omega), Option.bind_some]
      unfold unpackO
      rw [hc]
      rfl
theorem DictShort_l0 (l : List ByteArray) (cut : Int) (hl : l.length ≤ 210) (hs : ∀ x ∈ l, x.size ≤ 40) (hmay : mayR (ws l) = true) : ∀ (d k i n : Nat), i + d = l.length → 9100 + d < k → n + total ((ws l).drop i) = 2 + total (ws l) → n ≤ 100 * (i + 1) →
    catchwordlaw07_DictShort.l0 k l cut (packR (ws l)) n i = some true
  | 0, k, i, n, hd, hk, hn, hn2 => by
    obtain ⟨k, rfl⟩ : ∃ m, k = m + 1 := ⟨k - 1, by omega⟩
    have hp := packR_len hmay
    rw [ws_len] at hp
    have hw := Aside0.mk (w64n (x := 2 * (l.length : Int)) (2 * l.length) (by omega) (by omega))
    have hw2 := Aside0.mk (w64n (x := 1 + ((2 * l.length : Nat) : Int)) (1 + 2 * l.length) (by omega) (by omega))
    rw [List.drop_eq_nil_of_le (by rw [ws_len]; omega), total, Nat.add_zero] at hn
    simp only [catchwordlaw07_DictShort.l0]
    rw [if_neg (by omega), if_neg (by omega), hw.out, hw2.out, decide_eq_false (by omega)]
    exact DictShort_j2 l cut hl hmay k (by omega)
  | d + 1, k, i, n, hd, hk, hn, hn2 => by
    obtain ⟨k, rfl⟩ : ∃ m, k = m + 1 := ⟨k - 1, by omega⟩
    have hle := wd_le l 40 hs i
    have ht := total_drop l i (by omega)
    simp only [catchwordlaw07_DictShort.l0]
    rw [if_pos (by omega), if_pos (by omega), wd_size, w64n (x := (n : Int) + ((wd l i).length : Int)) (n + (wd l i).length) (by omega) (by omega), w64n (x := ((n + (wd l i).length : Nat) : Int) + 2) (n + (wd l i).length + 2) (by omega) (by omega), w64n (x := (i : Int) + 1) (i + 1) (by omega) (by omega)]
    exact DictShort_l0 l cut hl hs hmay d k (i + 1) _ (by omega) (by omega) (by omega) (by omega)
theorem DictShort : catchwordlaw07_DictShort.Pure := by
  intro l cut _ _
  obtain ⟨k, hk⟩ : ∃ k : Nat, 20000 ≤ k := ⟨20000, Nat.le_refl _⟩
  refine ⟨k + 1, ?_⟩
  unfold catchwordlaw07_DictShort.f
  have skip : catchwordlaw07_DictShort.j0 (k + 1) l cut true true = some true := by simp only [catchwordlaw07_DictShort.j0, if_true]
  rw [dict_awake' (k + 1) (by omega), few_f l (k + 1) (by omega)]
  simp only [Option.bind_some, if_true, skip]
  cases hf : fewR l with
  | false => rfl
  | true =>
    obtain ⟨h1, h2⟩ := (fewR_iff l).1 hf
    rw [if_pos rfl, dmay_f l (by omega) (k + 1) (by omega), Option.bind_some]
    cases hmay : mayR (ws l) with
    | false => rw [Bool.not_false, skip]
    | true =>
      simp only [catchwordlaw07_DictShort.j0, Bool.not_true]
      rw [if_neg (by decide), pack_f l (by omega) h2 k (by omega), Option.bind_some]
      exact DictShort_l0 l cut h1 h2 hmay l.length k 0 2 (by omega) (by omega) (by rw [List.drop_zero]) (by omega)
end Go.Proofs.Ytamofikjjkpejaa.Pure
