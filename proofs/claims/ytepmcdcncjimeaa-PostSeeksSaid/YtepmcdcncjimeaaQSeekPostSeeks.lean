/- What the program's Seek tells, for the functions printed for one law. -/
import Derived.Test.YtepmcdcncjimeaaQUnpPostSeeks
namespace Go.Proofs.Ytepmcdcncjimeaa.VPostSeeks
set_option linter.unusedVariables false
set_option linter.unusedSimpArgs false
open Go Go.RowKit Go.Proofs.Ytepmcdcncjimeaa.PPostSeeks Go.Proofs.YtepmcdcncjimeaaW.PrintWords Go.Proofs.YtepmcdcncjimeaaW.PrintLast Go.Proofs.YtepmcdcncjimeaaW.PrintMore Go.Proofs.Ytepmcdcncjimeaa.VSpec

/-- The first from a document on, and how many fours stand ahead. -/
def firstI (doc : Int) : Nat → List S39 → Int × List Int × Int × Int
  | _, [] => (0, [], 0, 2)
  | i, p :: t => if p.f0 ≥ doc then (p.f0, p.f1, ((i / 4 : Nat) : Int), 0) else firstI doc (i + 1) t
theorem firstI_skip (doc : Int) : ∀ (c r : List S39) (i : Nat), (∀ p ∈ c, p.f0 < doc) → firstI doc i (c ++ r) = firstI doc (i + c.length) r
  | [], r, i, _ => rfl
  | p :: c, r, i, h => by
    simp only [List.cons_append, firstI]
    rw [if_neg (by have := h p (List.mem_cons_self ..); omega), firstI_skip doc c r (i + 1) (fun q hq => h q (List.mem_cons_of_mem _ hq)), List.length_cons]
    congr 1
    omega
theorem firstI_hit (doc : Int) (j : Nat) : ∀ (c r : List S39) (i : Nat) (p : S39), i / 4 = j → (i + c.length ≤ 4 * j + 4) → post_first doc c = some p → firstI doc i (c ++ r) = (p.f0, p.f1, (j : Int), 0)
  | [], r, i, p, _, _, h => by simp [post_first] at h
  | q :: c, r, i, p, h1, h2, h => by
    simp only [List.cons_append, firstI]
    unfold post_first at h
    rw [List.find?_cons] at h
    simp only [List.length_cons] at h2
    by_cases hq : q.f0 ≥ doc
    · rw [decide_eq_true hq] at h
      obtain rfl := Option.some.inj h
      rw [if_pos hq, h1]
    · rw [decide_eq_false hq] at h
      rw [if_neg hq]
      cases c with
      | nil => simp at h
      | cons q2 c =>
        exact firstI_hit doc j (q2 :: c) r (i + 1) p (by simp only [List.length_cons] at h2; omega) (by simp only [List.length_cons] at h2 ⊢; omega) h
theorem lastD_all : ∀ (l : List S39) (a : Int), goodP a l → (∀ p ∈ l, p.f0 ≤ lastD a l) ∧ a ≤ lastD a l
  | [], a, _ => ⟨fun p hp => (by cases hp), Int.le_refl _⟩
  | q :: t, a, h => by
    obtain ⟨k1, k2⟩ := lastD_all t q.f0 h.2.2.2.2
    refine ⟨fun p hp => ?_, by have := h.1; simp only [lastD]; omega⟩
    rcases List.mem_cons.1 hp with rfl | hp
    · exact k2
    · exact k1 p hp
theorem lastD_mem : ∀ (l : List S39) (a : Int), l ≠ [] → ∃ p ∈ l, p.f0 = lastD a l
  | [], _, h => absurd rfl h
  | [p], a, _ => ⟨p, List.mem_singleton.2 rfl, rfl⟩
  | p :: q :: t, a, _ => by
    obtain ⟨r, h1, h2⟩ := lastD_mem (q :: t) p.f0 (by simp)
    exact ⟨r, List.mem_cons_of_mem _ h1, h2⟩
theorem first_some {doc a : Int} {l : List S39} (h : l ≠ []) (hd : doc ≤ lastD a l) : ∃ p, post_first doc l = some p := by
  obtain ⟨p, h1, h2⟩ := lastD_mem l a h
  unfold post_first
  cases he : l.find? (fun p => decide (p.f0 ≥ doc)) with
  | some q => exact ⟨q, rfl⟩
  | none =>
    have := List.find?_eq_none.1 he p h1
    simp only [decide_eq_true_eq] at this
    omega
theorem seek_l0 (b : List Int) (hb : Byt b) (hm : b.length ≤ 140737488351232) (doc : Int) (l : List S39) (hl : l.length ≤ 64) : ∀ (f k j a : Nat) (ahead : Int), l.length - 4 * j ≤ f → a ≤ b.length → b.drop a = pkAll f ahead (l.drop (4 * j)) → goodP ahead (l.drop (4 * j)) → -1 ≤ ahead → ahead ≤ 34359738367 → j ≤ 100 → 4000 + f < k →
    post_Seek.l0 k b doc (l.length : Int) ahead (j : Int) (a : Int) false = some (firstI doc (4 * j) (l.drop (4 * j)))
  | f, k, j, a, ahead, hf, ha, hdr, hg, h0, h1, hj, hk => by
    obtain ⟨k, rfl⟩ : ∃ m, k = m + 1 := ⟨k - 1, by omega⟩
    simp only [post_Seek.l0]
    have hw4 : wrap64 ((j : Int) * 4) = ((4 * j : Nat) : Int) := w64n (4 * j) (by omega) (by omega)
    rw [hw4]
    clear hw4
    by_cases hlt : 4 * j < l.length
    · obtain ⟨f, rfl⟩ : ∃ m, f = m + 1 := ⟨f - 1, by omega⟩
      rw [if_pos (by omega)]
      have hne : l.drop (4 * j) ≠ [] := fun e => by have := List.drop_eq_nil_iff.1 e; omega
      obtain ⟨c, hc⟩ : ∃ c, c = (l.drop (4 * j)).take 4 := ⟨_, rfl⟩
      have hsplit : l.drop (4 * j) = c ++ l.drop (4 * (j + 1)) := by
        rw [hc, show 4 * (j + 1) = 4 * j + 4 by omega, ← List.drop_drop, List.take_append_drop]
      have hclen : c.length = min 4 (l.length - 4 * j) := by rw [hc, List.length_take, List.length_drop]
      have hcne : c ≠ [] := fun e => by rw [e] at hclen; simp at hclen; omega
      have hgc : goodP ahead c := by rw [hc]; exact goodP_take _ _ 4 hg
      have hgr : goodP (lastD ahead c) (l.drop (4 * (j + 1))) := by
        have := goodP_drop _ _ 4 hg
        rw [← hc, List.drop_drop] at this
        rw [show 4 * (j + 1) = 4 * j + 4 by omega]
        exact this
      obtain ⟨g1, g2, g3⟩ := lastD_le c ahead h0 h1 hgc
      have hplen := pkPosts_len c ahead hgc
      have n1 : Num (lastD ahead c) := ⟨g3 hcne, g2⟩
      have n2 : Num ((pkPosts ahead c).length : Int) := ⟨by omega, by omega⟩
      have hdr' : b.drop a = enc (lastD ahead c) ++ (enc ((pkPosts ahead c).length : Int) ++ (pkPosts ahead c ++ pkAll f (lastD ahead c) (l.drop (4 * (j + 1))))) := by
        rw [hdr]
        simp only [pkAll]
        rw [if_neg hne, ← hc, List.drop_drop, show 4 * j + 4 = 4 * (j + 1) by omega]
        unfold pkBlock
        rw [putR_num n1, putR_num n2]
        simp only [List.append_assoc]
      have hq1 : rNum (b.drop a) = some (lastD ahead c, enc ((pkPosts ahead c).length : Int) ++ (pkPosts ahead c ++ pkAll f (lastD ahead c) (l.drop (4 * (j + 1))))) := by rw [hdr']; exact rNum_enc n1 _
      have hq2 := rNum_enc n2 (pkPosts ahead c ++ pkAll f (lastD ahead c) (l.drop (4 * (j + 1))))
      obtain ⟨a2, ha2, hdr2, _, hp⟩ := blk_ok hb hm ha hq1 hq2 (by rw [List.length_append]; omega) k (by omega)
      rw [Int.toNat_natCast, List.drop_left] at hdr2
      rw [Int.toNat_natCast, List.take_left] at hp
      rw [hp, Option.bind_some]
      simp only
      by_cases hskip : lastD ahead c < doc
      · rw [if_pos hskip, w64n (x := (j : Int) + 1) (j + 1) (by omega) (by omega), seek_l0 b hb hm doc l hl f k (j + 1) a2 (lastD ahead c) (by omega) ha2 hdr2.symm hgr (by omega) g2 (by omega) (by omega)]
        rw [hsplit, firstI_skip doc c _ _ (fun p hp => by have := (lastD_all c ahead hgc).1 p hp; omega)]
        by_cases h4 : c.length = 4
        · rw [h4]; rfl
        · have : l.drop (4 * (j + 1)) = [] := List.drop_eq_nil_of_le (by omega)
          rw [this]
          rfl
      · rw [if_neg hskip]
        have hmany : mn 4 (wrap64 ((l.length : Int) - ((4 * j : Nat) : Int))) = ((min 4 (l.length - 4 * j) : Nat) : Int) := by
          rw [w64 (by omega) (by omega)]
          unfold mn
          split <;> omega
        rw [hmany]
        have hbp : Byt (pkPosts ahead c) := pkPosts_byt c ahead hgc
        obtain ⟨L, hL, hrun, heq⟩ := pread_l0 (pkPosts ahead c) hbp (by omega) (lastD ahead c) (min 4 (l.length - 4 * j)) (by omega) (min 4 (l.length - 4 * j)) k 0 0 ahead [] false (by omega) (by omega) (by omega) (by simp; omega) h0 (by omega) (by omega)
        have hrp := rPosts_pk c ahead [] h0 hgc
        rw [List.append_nil, hclen] at hrp
        have hLc := heq rfl c [] (by rw [List.drop_zero]; exact hrp)
        subst hLc
        simp only [Int.natCast_zero] at hrun
        rw [hrun, Option.bind_some]
        simp only [List.nil_append]
        obtain ⟨p, hpf⟩ := first_some (a := ahead) hcne (by omega : doc ≤ lastD ahead L)
        rw [hpf, hsplit, firstI_hit doc j L _ (4 * j) p (by omega) (by omega) hpf]
    · rw [if_neg (by omega), List.drop_eq_nil_of_le (by omega)]
      rfl
termination_by f => f
def seekR (b : List Int) (doc : Int) : Int × List Int × Int × Int := if (unpackR b).2 = 0 then firstI doc 0 (unpackR b).1 else (0, [], 0, 5)
theorem seek_f (b : List Int) (doc : Int) (hb : Byt b) (hm : b.length ≤ 140737488351232) : post_Seek.f b doc = some (seekR b doc) := by
  unfold post_Seek.f post_Seek.g
  have hu := unpack_f b hb hm
  unfold post_Unpack.f at hu
  rw [hu, Option.bind_some]
  unfold seekR
  by_cases h : (unpackR b).2 = 0
  · rw [if_pos h, if_pos h]
    obtain ⟨m1, m2⟩ := unpackR_ok hb h
    obtain ⟨w1, w2, w3⟩ := mayR_iff.1 m1
    have hn : Num ((unpackR b).1.length : Int) := ⟨by omega, by omega⟩
    have hgood := may_good _ (-1) w1 w3
    have hbe : b = enc ((unpackR b).1.length : Int) ++ pkAll 64 (-1) (unpackR b).1 := by
      rw [← putR_num hn, ← packF_eq _ 64 w2, m2]
    have hq : rNum (b.drop 0) = some (((unpackR b).1.length : Int), pkAll 64 (-1) (unpackR b).1) := by
      rw [List.drop_zero]
      conv => lhs; rw [hbe]
      exact rNum_enc hn _
    obtain ⟨j, hr, _, hj, haj, hp⟩ := num_some (bad := false) (a := 0) hb hm (by omega) hq 100000 (by omega)
    simp only [Int.natCast_zero] at hp
    rw [hp, Option.bind_some]
    simp only
    have := seek_l0 b hb hm doc (unpackR b).1 w2 64 100000 0 (0 + j) (-1) (by omega) haj (by rw [← hr]; rfl) hgood (by omega) (by omega) (by omega) (by omega)
    exact this
  · rw [if_neg h, if_neg h]
    rcases unpackR_err b with e | e
    · exact absurd (by rw [e]) h
    · rw [e]
end Go.Proofs.Ytepmcdcncjimeaa.VPostSeeks
