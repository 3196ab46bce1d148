/- What the reference's Pack tells, for the functions printed for one law. -/
import Derived.Test.YtepmcdcncjimeaaQRefVPostPacks
import Derived.Test.YtepmcdcncjimeaaQRefMPostPacks
import Derived.Test.YtepmcdcncjimeaaQReadPostPacks
namespace Go.Proofs.Ytepmcdcncjimeaa.VPostPacks
set_option linter.unusedVariables false
set_option linter.unusedSimpArgs false
open Go Go.RowKit Go.Proofs.Ytepmcdcncjimeaa.PPostPacks Go.Proofs.YtepmcdcncjimeaaW.PrintWords Go.Proofs.YtepmcdcncjimeaaW.PrintLast Go.Proofs.YtepmcdcncjimeaaW.PrintMore Go.Proofs.Ytepmcdcncjimeaa.VSpec

theorem lastD_rd (l : List S39) : ∀ (d i : Nat) (a : Int), i + d < l.length → lastD a ((l.drop i).take (d + 1)) = (rd_T39 l ((i + d : Nat) : Int)).f0
  | 0, i, a, h => by
    rw [rd39_at l i h]
    simp [lastD]
  | d + 1, i, a, h => by
    rw [rd39_at l i (by omega), List.take_succ_cons]
    simp only [lastD]
    rw [lastD_rd l d (i + 1) _ (by omega), show i + 1 + d = i + (d + 1) by omega]
theorem lastD_any (a b : Int) : ∀ l : List S39, l ≠ [] → lastD a l = lastD b l
  | [], h => absurd rfl h
  | p :: t, _ => rfl
theorem rpack_l1 (l : List S39) (hm : l.length ≤ 64) (hp : ∀ p ∈ l, p.f1.length ≤ 2000) (out : List Int) (j : Nat) (hj : j ≤ 64) (k : Nat) (hk : 3000 ≤ k) : ∀ (d i : Nat) (body : List Int) (ahead last : Int), i + d ≤ l.length → i + d ≤ 4 * j + 4 → -1 ≤ ahead → (i = 0 → ahead = -1) → (0 < i → i < l.length → (rd_T39 l ((i - 1 : Nat) : Int)).f0 = ahead) → goodP ahead (l.drop i) → body.length + 20005 * d ≤ 100000 →
    catchwordref06_Pack.l1 (k + 2 * d) l out ((4 * j : Nat) : Int) body last (i : Int) = catchwordref06_Pack.l1 k l out ((4 * j : Nat) : Int) (body ++ pkPosts ahead ((l.drop i).take d)) (lastD last ((l.drop i).take d)) ((i + d : Nat) : Int)
  | 0, i, body, ahead, last, _, _, _, _, _, _, _ => by simp [pkPosts, lastD]
  | d + 1, i, body, ahead, last, h1, h2, h0, z0, z1, hg, hb => by
    have hl : i < l.length := by omega
    rw [show k + 2 * (d + 1) = (k + 2 * d + 1) + 1 by omega]
    simp only [catchwordref06_Pack.l1]
    have hmem : rd_T39 l i ∈ l := List.mem_of_mem_drop (rd39_at l i hl ▸ List.mem_cons_self ..)
    rw [w64n (x := ((4 * j : Nat) : Int) + 4) (4 * j + 4) (by omega) (by omega), if_pos (by omega), decide_eq_true (by omega)]
    simp only [catchwordref06_Pack.j2]
    rw [if_pos trivial, if_pos (by omega), if_pos (by omega), w64n (x := (i : Int) + 1) (i + 1) (by omega) (by omega)]
    rw [rd39_at l i hl] at hg ⊢
    have hat := fun (h : 0 < i) => z1 h hl
    have hpl := hp _ hmem
    rw [List.take_succ_cons]
    simp only [pkPosts, lastD]
    have ih := fun (b2 : List Int) (hb2 : b2.length + 20005 * d ≤ 100000) => rpack_l1 l hm hp out j hj k hk d (i + 1) b2 (rd_T39 l (i : Int)).f0 (rd_T39 l (i : Int)).f0 (by omega) (by omega) (by have := hg.1; omega) (fun h => by omega) (fun _ _ => by simp) hg.2.2.2.2 hb2
    generalize rd_T39 l (i : Int) = p at *
    obtain ⟨g1, g2, g3, g4, g5⟩ := hg
    obtain ⟨n1, n2⟩ := step_num h0 g1 g2
    have hle := putR_le (p.f0 - ahead - 1)
    have hln := @riseR_len p.f1
    rw [rrise_f p.f1 (by omega) _ (by omega)]
    by_cases hi : (i : Int) > 0
    · rw [if_pos hi, w64n (x := (i : Int) - 1) (i - 1) (by omega) (by omega), if_pos (by omega), if_pos (by omega), Option.bind_some, hat (by omega), n2, rput_f _ _ (by omega), Option.bind_some, if_pos (by omega), Option.bind_some, if_pos (by rw [List.length_append]; omega), ih _ (by simp only [List.length_append]; omega)]
      simp only [List.append_assoc]
      rw [show i + 1 + d = i + (d + 1) by omega]
    · have ha := z0 (by omega)
      rw [if_neg hi, Option.bind_some, n2]
      have e1 : p.f0 = p.f0 - ahead - 1 := by omega
      rw [show catchwordref01_Put.f (k + 2 * d) p.f0 = some (putR (p.f0 - ahead - 1)) by rw [← e1]; exact rput_f _ _ (by omega), Option.bind_some, if_pos (by omega), Option.bind_some, if_pos (by rw [List.length_append]; omega), ih _ (by simp only [List.length_append]; omega)]
      simp only [List.append_assoc]
      rw [show i + 1 + d = i + (d + 1) by omega]
theorem rpack_l0 (l : List S39) (hm : l.length ≤ 64) (hp : ∀ p ∈ l, p.f1.length ≤ 2000) : ∀ (f k j : Nat) (out : List Int) (ahead : Int), l.length - 4 * j ≤ f → j ≤ 64 - f ∨ 4 * j ≤ l.length + 3 → -1 ≤ ahead → ahead ≤ 34359738367 → (j = 0 → ahead = -1) → (0 < j → 4 * j < l.length → (rd_T39 l ((4 * j - 1 : Nat) : Int)).f0 = ahead) → goodP ahead (l.drop (4 * j)) → out.length + 20020 * (l.length - 4 * j) ≤ 2000000 → 4000 + 20 * f < k →
    catchwordref06_Pack.l0 k l out ((4 * j : Nat) : Int) = some (out ++ pkAll f ahead (l.drop (4 * j)), 0)
  | f, k, j, out, ahead, hf, hj, h0, h1, z0, z1, hg, ho, hk => by
    obtain ⟨k, rfl⟩ : ∃ m, k = m + 1 := ⟨k - 1, by omega⟩
    simp only [catchwordref06_Pack.l0]
    by_cases hlt : 4 * j < l.length
    · obtain ⟨f, rfl⟩ : ∃ m, f = m + 1 := ⟨f - 1, by omega⟩
      rw [if_pos (by omega)]
      have hne : l.drop (4 * j) ≠ [] := fun e => by have := List.drop_eq_nil_iff.1 e; omega
      obtain ⟨c, hc⟩ : ∃ c, c = (l.drop (4 * j)).take 4 := ⟨_, rfl⟩
      have hclen : c.length = min 4 (l.length - 4 * j) := by rw [hc, List.length_take, List.length_drop]
      have hcne : c ≠ [] := fun e => by rw [e] at hclen; simp at hclen; omega
      have hgc : goodP ahead c := by rw [hc]; exact goodP_take _ _ 4 hg
      have hgr : goodP (lastD ahead c) (l.drop (4 * (j + 1))) := by
        have := goodP_drop _ _ 4 hg
        rw [← hc, List.drop_drop] at this
        rw [show 4 * (j + 1) = 4 * j + 4 by omega]
        exact this
      obtain ⟨g1, g2, g3⟩ := lastD_le c ahead h0 h1 hgc
      have hplen := pkPosts_len c ahead hgc
      have hctake : (l.drop (4 * j)).take (min 4 (l.length - 4 * j)) = c := by
        rw [hc]
        by_cases h4 : 4 ≤ l.length - 4 * j
        · rw [Nat.min_eq_left h4]
        · rw [Nat.min_eq_right (by omega), List.take_of_length_le (by rw [List.length_drop]; omega), List.take_of_length_le (by rw [List.length_drop]; omega)]
      obtain ⟨k2, rfl⟩ : ∃ m, k = (m + 2) + 2 * min 4 (l.length - 4 * j) := ⟨k - 2 - 2 * min 4 (l.length - 4 * j), by omega⟩
      rw [rpack_l1 l hm hp out j (by omega) (k2 + 2) (by omega) (min 4 (l.length - 4 * j)) (4 * j) [] ahead 0 (by omega) (by omega) h0 (fun h => z0 (by omega)) (fun h h' => z1 (by omega) h') hg (by simp; omega), hctake, List.nil_append]
      have hend : catchwordref06_Pack.l1 (k2 + 2) l out ((4 * j : Nat) : Int) (pkPosts ahead c) (lastD 0 c) ((4 * j + min 4 (l.length - 4 * j) : Nat) : Int) = catchwordref06_Pack.j2 (k2 + 1) l out ((4 * j : Nat) : Int) (pkPosts ahead c) (lastD 0 c) ((4 * j + min 4 (l.length - 4 * j) : Nat) : Int) false := by
        simp only [catchwordref06_Pack.l1]
        rw [w64n (x := ((4 * j : Nat) : Int) + 4) (4 * j + 4) (by omega) (by omega)]
        by_cases h4 : 4 ≤ l.length - 4 * j
        · rw [if_neg (by omega)]
        · rw [if_pos (by omega), decide_eq_false (by omega)]
      have e1 := putR_le (lastD ahead c)
      have e2 := putR_le ((pkPosts ahead c).length : Int)
      rw [hend]
      simp only [catchwordref06_Pack.j2]
      rw [if_neg (by decide), lastD_any 0 ahead c hcne, rput_f _ _ (by omega), Option.bind_some, if_pos (by omega), Option.bind_some, rput_f _ _ (by omega), Option.bind_some, if_pos (by rw [List.length_append]; omega), Option.bind_some, if_pos (by simp only [List.length_append]; omega), w64n (x := ((4 * j : Nat) : Int) + 4) (4 * (j + 1)) (by omega) (by omega),
        rpack_l0 l hm hp f k2 (j + 1) _ (lastD ahead c) (by omega) (by omega) (by omega) g2 (fun h => by omega) (fun _ h => by
          have := lastD_rd l 3 (4 * j) ahead (by omega)
          rw [← hc] at this
          rw [this, show 4 * (j + 1) - 1 = 4 * j + 3 by omega]) hgr (by simp only [List.length_append]; omega) (by omega)]
      simp only [pkAll]
      rw [if_neg hne, ← hc, List.drop_drop, show 4 * j + 4 = 4 * (j + 1) by omega]
      unfold pkBlock
      simp only [List.append_assoc]
    · rw [if_neg (by omega), List.drop_eq_nil_of_le (by omega)]
      cases f <;> simp [pkAll]
termination_by f => f
theorem rpack_f (l : List S39) (K : Nat) (hp : ∀ p ∈ l, p.f1.length ≤ 140737488355328) (hK : ∀ p ∈ l, p.f1.length < K) (k : Nat) (hk : K + 10000 < k) : catchwordref06_Pack.f k l = some (if mayR l = true then (packF l, 0) else ([], 1)) := by
  unfold catchwordref06_Pack.f
  rw [rmay_f l K hp hK k (by omega), Option.bind_some]
  cases hmay : mayR l with
  | false => rw [if_neg (by decide), if_neg (by decide)]
  | true =>
    obtain ⟨w1, w2, w3⟩ := mayR_iff.1 hmay
    have := putR_le (l.length : Int)
    rw [if_pos rfl, if_pos rfl, rput_f _ _ (by omega), Option.bind_some]
    have := rpack_l0 l w2 (fun p hp => by have := (okP_iff.1 (w1 p hp)).2.1; omega) 64 k 0 (putR (l.length : Int)) (-1) (by omega) (by omega) (by omega) (by omega) (fun _ => rfl) (fun h => by omega) (may_good l (-1) w1 w3) (by omega) (by omega)
    rw [show (0 : Int) = ((4 * 0 : Nat) : Int) from rfl, this, packF_eq l 64 w2]
    rfl
end Go.Proofs.Ytepmcdcncjimeaa.VPostPacks
