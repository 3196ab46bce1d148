/- What the reference's Unpack tells, for the functions printed for one law. -/
import Derived.Test.YtepmcdcncjimeaaQRefPPostPacks
import Derived.Test.YtepmcdcncjimeaaQUnpPostPacks
namespace Go.Proofs.Ytepmcdcncjimeaa.VPostPacks
set_option linter.unusedVariables false
set_option linter.unusedSimpArgs false
open Go Go.RowKit Go.Proofs.Ytepmcdcncjimeaa.PPostPacks Go.Proofs.YtepmcdcncjimeaaW.PrintWords Go.Proofs.YtepmcdcncjimeaaW.PrintLast Go.Proofs.YtepmcdcncjimeaaW.PrintMore Go.Proofs.Ytepmcdcncjimeaa.VSpec

/-! ### whatever the bytes, something is read -/
theorem rread6_some (b : List Int) (hb : Byt b) (hm : b.length ≤ 140737488351232) (n e : Int) : ∀ (d k i : Nat) (a : Int) (out : List S39) (doc : Int), d = 64 - i → i ≤ 64 → out.length = i → 3 * d + 3000 < k → (∀ p ∈ out, p.f1.length ≤ 2000) →
    ∃ r, catchwordref06_read.l0 k b n a e out doc (i : Int) = some r ∧ r.1.length ≤ 64 ∧ ∀ p ∈ r.1, p.f1.length ≤ 2000
  | d, k, i, a, out, doc, hd, hi, ho, hk, hp => by
    obtain ⟨k, rfl⟩ : ∃ m, k = m + 3 := ⟨k - 3, by omega⟩
    simp only [catchwordref06_read.l0]
    have hoff : ∃ r, catchwordref06_read.j1 (k + 2) b n a e out doc (i : Int) false = some r ∧ r.1.length ≤ 64 ∧ ∀ p ∈ r.1, p.f1.length ≤ 2000 := by
      simp only [catchwordref06_read.j1]
      rw [if_neg (by decide)]
      exact ⟨_, rfl, by simp only; omega, hp⟩
    have hbad : ∃ r, some (([] : List S39), false) = some r ∧ r.1.length ≤ 64 ∧ ∀ p ∈ r.1, p.f1.length ≤ 2000 := ⟨_, rfl, by simp, fun p h => by cases h⟩
    by_cases hn : (i : Int) < n
    · rw [if_pos hn]
      by_cases he : (e == 0) = true
      · rw [he]
        simp only [catchwordref06_read.j1]
        rw [if_pos trivial]
        by_cases h64 : (i : Int) ≥ 64
        · rw [if_pos h64]; exact hbad
        · rw [if_neg h64]
          have hj2 : ∀ a : Int, ∃ r, catchwordref06_read.j2 (k + 1) b n a e out doc (i : Int) = some r ∧ r.1.length ≤ 64 ∧ ∀ p ∈ r.1, p.f1.length ≤ 2000 := fun a => by
            simp only [catchwordref06_read.j2]
            rw [rget_f b a hb hm k (by omega), Option.bind_some, rread_f b _ hb hm k (by omega), Option.bind_some]
            split
            · split
              · rw [if_pos (by omega), w64n (x := (i : Int) + 1) (i + 1) (by omega) (by omega)]
                refine rread6_some b hb hm n e (d - 1) k (i + 1) _ _ _ (by omega) (by omega) (by rw [List.length_append, List.length_singleton]; omega) (by omega) (fun p hq => ?_)
                rcases List.mem_append.1 hq with hq | hq
                · exact hp p hq
                · rw [List.mem_singleton.1 hq]; exact readR_len hb
              · exact hbad
            · exact hbad
          split
          · rw [rget_f b a hb hm (k + 1) (by omega), Option.bind_some, rget_f b _ hb hm (k + 1) (by omega), Option.bind_some]
            split
            · split
              · exact hj2 _
              · exact hbad
            · exact hbad
          · exact hj2 _
      · rw [show (e == 0) = false by simpa using he]
        exact hoff
    · rw [if_neg hn]
      exact hoff
termination_by d => d
decreasing_by omega
/-! ### what was packed is read -/
theorem rlst_at {b : List Int} {a : Nat} (hb : Byt b) (h : a ≤ b.length) {l r : List Int} (hn : rList (b.drop a) = some (l, r)) :
    ∃ j, r = b.drop (a + j) ∧ a + j ≤ b.length ∧ readR b a = (l, ((a + j : Nat) : Int), 0) := by
  rw [read_shift b a h]
  unfold rList at hn
  split at hn
  · rename_i h0
    obtain ⟨_, q, h1, h2, h3, h4⟩ := readR_ok (hb.drop a) h0
    simp only [Int.toNat_zero, Nat.zero_add, List.length_drop] at h1 h3
    simp only [Option.some.injEq, Prod.mk.injEq] at hn
    obtain ⟨rfl, rfl⟩ := hn
    refine ⟨q, by rw [h1, Int.toNat_natCast, List.drop_drop], by omega, ?_⟩
    simp only [h0, if_true, h1, Prod.mk.injEq, true_and, and_true]
    omega
  · cases hn
theorem rnum_at {b : List Int} {a : Nat} (hb : Byt b) (h : a ≤ b.length) {n : Int} {r : List Int} (hn : rNum (b.drop a) = some (n, r)) :
    ∃ j, r = b.drop (a + j) ∧ a + j ≤ b.length ∧ decR b a = (n, ((a + j : Nat) : Int), 0) := by
  rcases dec_at hb h with ⟨h1, _⟩ | ⟨n', j, h1, h2, h3, h4, h5⟩
  · rw [hn] at h1; cases h1
  · rw [hn] at h1
    simp only [Option.some.injEq, Prod.mk.injEq] at h1
    obtain ⟨rfl, rfl⟩ := h1
    exact ⟨j, rfl, h4, h5⟩
theorem rread6_j2 {b : List Int} (hb : Byt b) (hm : b.length ≤ 140737488351232) (n : Int) (k a i : Nat) (out c : List S39) (p : S39) (t : List Int) (doc : Int) (ha : a ≤ b.length) (h0 : -1 ≤ doc) (hg : goodP doc (p :: c)) (hd : b.drop a = pkPosts doc (p :: c) ++ t) (ho : out.length ≤ 64) (hi : i ≤ 64) (hk : 3000 ≤ k) :
    ∃ a', a' ≤ b.length ∧ b.drop a' = pkPosts p.f0 c ++ t ∧ catchwordref06_read.j2 (k + 1) b n (a : Int) 0 out doc (i : Int) = catchwordref06_read.l0 k b n ((a' : Nat) : Int) 0 (out ++ [p]) p.f0 ((i + 1 : Nat) : Int) := by
  obtain ⟨g1, g2, g3, g4, g5⟩ := hg
  obtain ⟨n1, n2⟩ := step_num h0 g1 g2
  simp only [pkPosts] at hd
  rw [n2, putR_num n1, List.append_assoc, List.append_assoc] at hd
  have hq : rNum (b.drop a) = some (p.f0 - doc - 1, (riseR p.f1).1 ++ (pkPosts p.f0 c ++ t)) := by rw [hd]; exact rNum_enc n1 _
  obtain ⟨j, e1, e2, e3⟩ := rnum_at hb ha hq
  have hq2 : rList (b.drop (a + j)) = some (p.f1, pkPosts p.f0 c ++ t) := by rw [← e1]; exact rList_rise g3 _
  obtain ⟨j2, f1, f2, f3⟩ := rlst_at hb e2 hq2
  refine ⟨a + j + j2, f2, f1.symm, ?_⟩
  simp only [catchwordref06_read.j2]
  rw [rget_f b _ hb hm k (by omega), Option.bind_some, e3]
  simp only
  rw [rread_f b _ hb hm k (by omega), Option.bind_some, f3]
  simp only
  rw [if_pos trivial, if_pos trivial, if_pos (by omega), w64n (x := (i : Int) + 1) (i + 1) (by omega) (by omega), w64 (x := doc + 1) (by omega) (by omega), w64 (x := doc + 1 + (p.f0 - doc - 1)) (by omega) (by omega), show doc + 1 + (p.f0 - doc - 1) = p.f0 by omega]
theorem rread6_blk {b : List Int} (hb : Byt b) (hm : b.length ≤ 140737488351232) (n : Int) (k : Nat) (hk : 3000 ≤ k) (hn : n ≤ 64) (t : List Int) : ∀ (c : List S39) (a i : Nat) (out : List S39) (doc : Int), a ≤ b.length → -1 ≤ doc → goodP doc c → b.drop a = pkPosts doc c ++ t → out.length = i → (i : Int) + c.length ≤ n → (c ≠ [] → i % 4 + c.length ≤ 4 ∧ i % 4 ≠ 0) →
    ∃ a', a' ≤ b.length ∧ b.drop a' = t ∧ catchwordref06_read.l0 (k + 3 * c.length) b n (a : Int) 0 out doc (i : Int) = catchwordref06_read.l0 k b n ((a' : Nat) : Int) 0 (out ++ c) (lastD doc c) ((i + c.length : Nat) : Int)
  | [], a, i, out, doc, ha, h0, hg, hd, ho, hi, h4 => ⟨a, ha, by rw [hd]; rfl, by simp [lastD]⟩
  | p :: c, a, i, out, doc, ha, h0, hg, hd, ho, hi, h4 => by
    obtain ⟨m1, m2⟩ := h4 (by simp)
    simp only [List.length_cons] at hi m1
    obtain ⟨a1, x1, x2, x3⟩ := rread6_j2 hb hm n (k + 3 * c.length) a i out c p t doc ha h0 hg hd (by omega) (by omega) (by omega)
    obtain ⟨a2, y1, y2, y3⟩ := rread6_blk hb hm n k hk hn t c a1 (i + 1) (out ++ [p]) p.f0 x1 (by have := hg.1; omega) hg.2.2.2.2 x2 (by simp [ho]) (by omega) (fun h => by
      have : 0 < c.length := List.length_pos_iff.2 h
      omega)
    refine ⟨a2, y1, y2, ?_⟩
    rw [List.length_cons, show k + 3 * (c.length + 1) = k + 3 * c.length + 3 by omega]
    simp only [catchwordref06_read.l0]
    rw [if_pos (by omega), beq_self_eq_true]
    simp only [catchwordref06_read.j1]
    rw [if_pos trivial, if_neg (by omega), if_neg (by rw [Int.tmod_eq_emod_of_nonneg (by omega)]; omega), x3, y3, List.append_assoc, show i + 1 + c.length = i + (c.length + 1) by omega]
    rfl
theorem rread6_l0 {b : List Int} (hb : Byt b) (hm : b.length ≤ 140737488351232) (l : List S39) (hl : l.length ≤ 64) : ∀ (f k j a : Nat) (ahead : Int), l.length - 4 * j ≤ f → a ≤ b.length → b.drop a = pkAll f ahead (l.drop (4 * j)) → goodP ahead (l.drop (4 * j)) → -1 ≤ ahead → ahead ≤ 34359738367 → 4 * j ≤ l.length + 3 → 4000 + 20 * f < k →
    catchwordref06_read.l0 k b (l.length : Int) (a : Int) 0 (l.take (4 * j)) ahead ((min (4 * j) l.length : Nat) : Int) = some (l, true)
  | f, k, j, a, ahead, hf, ha, hdr, hg, h0, h1, hj, hk => by
    by_cases hlt : 4 * j < l.length
    · obtain ⟨f, rfl⟩ : ∃ m, f = m + 1 := ⟨f - 1, by omega⟩
      have hne : l.drop (4 * j) ≠ [] := fun e => by have := List.drop_eq_nil_iff.1 e; omega
      obtain ⟨p, c, hc⟩ : ∃ p c, (l.drop (4 * j)).take 4 = p :: c := by
        cases e : (l.drop (4 * j)).take 4 with
        | nil =>
          have := congrArg List.length e
          rw [List.length_take, List.length_drop] at this
          simp at this
          omega
        | cons p c => exact ⟨p, c, rfl⟩
      have hclen : c.length + 1 = min 4 (l.length - 4 * j) := by
        have := congrArg List.length hc
        rw [List.length_take, List.length_drop, List.length_cons] at this
        exact this.symm
      have hgc : goodP ahead (p :: c) := by rw [← hc]; exact goodP_take _ _ 4 hg
      have hgr : goodP (lastD ahead (p :: c)) (l.drop (4 * (j + 1))) := by
        have := goodP_drop _ _ 4 hg
        rw [hc, List.drop_drop] at this
        rw [show 4 * (j + 1) = 4 * j + 4 by omega]
        exact this
      obtain ⟨g1, g2, g3⟩ := lastD_le (p :: c) ahead h0 h1 hgc
      have hplen := pkPosts_len (p :: c) ahead hgc
      rw [List.length_cons] at hplen
      have n1 : Num (lastD ahead (p :: c)) := ⟨g3 (by simp), g2⟩
      have n2 : Num ((pkPosts ahead (p :: c)).length : Int) := ⟨by omega, by omega⟩
      have hdr' : b.drop a = enc (lastD ahead (p :: c)) ++ (enc ((pkPosts ahead (p :: c)).length : Int) ++ (pkPosts ahead (p :: c) ++ pkAll f (lastD ahead (p :: c)) (l.drop (4 * (j + 1))))) := by
        rw [hdr]
        simp only [pkAll]
        rw [if_neg hne, hc, List.drop_drop, show 4 * j + 4 = 4 * (j + 1) by omega]
        unfold pkBlock
        rw [putR_num n1, putR_num n2]
        simp only [List.append_assoc]
      have hq1 : rNum (b.drop a) = some (lastD ahead (p :: c), enc ((pkPosts ahead (p :: c)).length : Int) ++ (pkPosts ahead (p :: c) ++ pkAll f (lastD ahead (p :: c)) (l.drop (4 * (j + 1))))) := by rw [hdr']; exact rNum_enc n1 _
      obtain ⟨j1, e1, e2, e3⟩ := rnum_at hb ha hq1
      have hq2 : rNum (b.drop (a + j1)) = some (((pkPosts ahead (p :: c)).length : Int), pkPosts ahead (p :: c) ++ pkAll f (lastD ahead (p :: c)) (l.drop (4 * (j + 1)))) := by rw [← e1]; exact rNum_enc n2 _
      obtain ⟨j2, f1, f2, f3⟩ := rnum_at hb e2 hq2
      obtain ⟨k2, rfl⟩ : ∃ m, k = (m + 3 * c.length) + 3 := ⟨k - 3 - 3 * c.length, by omega⟩
      have hmin : min (4 * j) l.length = 4 * j := by omega
      have hto : (l.take (4 * j)).length = 4 * j := by rw [List.length_take]; omega
      obtain ⟨a1, x1, x2, x3⟩ := rread6_j2 hb hm (l.length : Int) (k2 + 3 * c.length) (a + j1 + j2) (4 * j) (l.take (4 * j)) c p _ ahead f2 h0 hgc f1.symm (by omega) (by omega) (by omega)
      obtain ⟨a2, y1, y2, y3⟩ := rread6_blk hb hm (l.length : Int) k2 (by omega) (by omega) _ c a1 (4 * j + 1) (l.take (4 * j) ++ [p]) p.f0 x1 (by have := hgc.1; omega) hgc.2.2.2.2 x2 (by rw [List.length_append, hto]; rfl) (by omega) (fun h => by omega)
      have htk : l.take (4 * j) ++ (p :: c) = l.take (4 * (j + 1)) := by
        rw [← hc, show 4 * (j + 1) = 4 * j + 4 by omega, List.take_add]
      rw [hmin]
      simp only [catchwordref06_read.l0]
      rw [if_pos (by omega), beq_self_eq_true]
      simp only [catchwordref06_read.j1]
      rw [if_pos trivial, if_neg (by omega), if_pos (by rw [Int.tmod_eq_emod_of_nonneg (by omega)]; omega), rget_f b _ hb hm _ (by omega), Option.bind_some, e3]
      simp only
      rw [rget_f b _ hb hm _ (by omega), Option.bind_some, f3]
      simp only
      rw [if_pos trivial, if_pos trivial, x3, y3, List.append_assoc, show [p] ++ c = p :: c from rfl, htk, show 4 * j + 1 + c.length = min (4 * (j + 1)) l.length by omega]
      exact rread6_l0 hb hm l hl f k2 (j + 1) a2 (lastD p.f0 c) (by omega) y1 y2 hgr (by simp only [lastD] at g1; omega) g2 (by omega) (by omega)
    · obtain ⟨k, rfl⟩ : ∃ m, k = m + 2 := ⟨k - 2, by omega⟩
      simp only [catchwordref06_read.l0]
      rw [if_neg (by omega)]
      simp only [catchwordref06_read.j1]
      rw [if_neg (by decide), List.take_of_length_le (by omega)]
      rfl
termination_by f => f
theorem runpack_f (b : List Int) (hb : Byt b) (hm : b.length ≤ 100000000) (k : Nat) (hk : 200000000 < k) : catchwordref06_Unpack.f k b = some (unpackR b) := by
  unfold catchwordref06_Unpack.f
  rcases unpackR_err b with he | he
  · obtain ⟨m1, m2⟩ := unpackR_ok hb (by rw [he])
    obtain ⟨w1, w2, w3⟩ := mayR_iff.1 m1
    have hw : ∀ p ∈ (unpackR b).1, p.f1.length ≤ 120 := fun p hp => (okP_iff.1 (w1 p hp)).2.1
    have hr : catchwordref06_read.f k b = some ((unpackR b).1, true) := by
      unfold catchwordref06_read.f
      have hn : Num ((unpackR b).1.length : Int) := ⟨by omega, by omega⟩
      have hbe : b = enc ((unpackR b).1.length : Int) ++ pkAll 64 (-1) (unpackR b).1 := by
        rw [← putR_num hn, ← packF_eq _ 64 w2, m2]
      have hq : rNum (b.drop 0) = some (((unpackR b).1.length : Int), pkAll 64 (-1) (unpackR b).1) := by
        rw [List.drop_zero]
        conv => lhs; rw [hbe]
        exact rNum_enc hn _
      obtain ⟨j, e1, e2, e3⟩ := rnum_at hb (by omega) hq
      simp only [Int.natCast_zero] at e3
      rw [rget_f b 0 hb (by omega) k (by omega), Option.bind_some, e3]
      simp only
      have := rread6_l0 hb (by omega) (unpackR b).1 w2 64 k 0 (0 + j) (-1) (by omega) e2 (by rw [← e1]; rfl) (may_good _ (-1) w1 w3) (by omega) (by omega) (by omega) (by omega)
      simpa using this
    rw [hr, Option.bind_some]
    simp only
    rw [if_pos trivial, rpack_f _ 200 (fun p hp => by have := hw p hp; omega) (fun p hp => by have := hw p hp; omega) k (by omega), if_pos m1, Option.bind_some, m2]
    simp only
    rw [bytes_f b b (by omega) k (by omega), Option.bind_some, if_pos trivial, beq_self_eq_true, if_pos rfl]
    exact congrArg some he.symm
  · obtain ⟨r, h1, h2, h3⟩ : ∃ r, catchwordref06_read.f k b = some r ∧ r.1.length ≤ 64 ∧ ∀ p ∈ r.1, p.f1.length ≤ 2000 := by
      unfold catchwordref06_read.f
      rw [rget_f b 0 hb (by omega) k (by omega), Option.bind_some]
      exact rread6_some b hb (by omega) _ _ 64 k 0 _ [] (-1) (by omega) (by omega) rfl (by omega) (fun p h => by cases h)
    rw [h1, Option.bind_some, he]
    cases hr2 : r.2 with
    | false => rw [if_neg (by decide)]
    | true =>
      rw [if_pos rfl, rpack_f r.1 2001 (fun p hp => by have := h3 p hp; omega) (fun p hp => by have := h3 p hp; omega) k (by omega), Option.bind_some]
      have hpl : (if mayR r.1 = true then (packF r.1, (0 : Int)) else ([], 1)).1.length ≤ 2000000 := by
        split
        · rename_i h; exact packF_len h
        · simp
      rw [bytes_f _ b (by omega) k (by omega), Option.bind_some]
      cases hmay : mayR r.1 with
      | false => rfl
      | true =>
        rw [if_pos rfl]
        simp only
        rw [if_pos trivial, if_neg (fun h => by
          have : packF r.1 = b := by simpa using h
          have h5 := unpackR_pack hmay
          rw [this, he] at h5
          simp at h5)]
end Go.Proofs.Ytepmcdcncjimeaa.VPostPacks
