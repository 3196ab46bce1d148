/- What the program's Or tells, for the functions printed for one law. -/
import Derived.Test.YtamofikjjkpejaaDFunDictUnion
import Derived.Test.YtamofikjjkpejaaDUni
namespace Go.Proofs.Ytamofikjjkpejaa.VDictUnion
open Go Go.RowKit Go.Proofs.Ytamofikjjkpejaa.PDictUnion Go.Proofs.YtamofikjjkpejaaW.PrintWords Go.Proofs.YtamofikjjkpejaaW.PrintLast Go.Proofs.YtamofikjjkpejaaW.PrintMore Go.Proofs.Ytamofikjjkpejaa.VSpec Go.Proofs.Ytamofikjjkpejaa.DSpec

def li (l : List (List ByteArray)) (j : Nat) : List ByteArray := rd_L1 l (j : Int)
theorem li_at (l : List (List ByteArray)) (j : Nat) (h : j < l.length) : li l j = l[j] := by
  simp [li, rd_L1, List.getD_eq_getElem?_getD, List.getElem?_eq_getElem h]
def AI (A : List Nat) : List Int := A.map (fun n : Nat => (n : Int))
theorem rd_AI (A : List Nat) (j : Nat) : rd (AI A) (j : Int) = ((A.getD j 0 : Nat) : Int) := by
  simp only [rd, AI, Int.toNat_natCast, List.getD_eq_getElem?_getD, List.getElem?_map]
  cases A[j]? <;> rfl
theorem AI_len (A : List Nat) : (AI A).length = A.length := by simp [AI]
theorem AI_set (A : List Nat) (j v : Nat) : (AI A).set j (v : Int) = AI (A.set j v) := by simp [AI, List.map_set]

theorem or_l0 (l : List (List ByteArray)) (hn : l.length ≤ 4) (hl : ∀ m ∈ l, m.length ≤ 210) (x4 : List Int) : ∀ (d k i : Nat), i + d = l.length → d + 300 < k →
    ((l.drop i).all (fun m => mayR (ws m)) = true → ∃ k', k ≤ k' + d + 1 ∧ dict_Or.l0 k l x4 l l.length i = dict_Or.l1 k' l [] x4) ∧ ((l.drop i).all (fun m => mayR (ws m)) = false → dict_Or.l0 k l x4 l l.length i = some [])
  | 0, k, i, hd, hk => by
    obtain ⟨k, rfl⟩ : ∃ m, k = m + 1 := ⟨k - 1, by omega⟩
    simp only [dict_Or.l0]
    rw [if_neg (by omega), List.drop_eq_nil_of_le (by omega)]
    exact ⟨fun _ => ⟨k, by omega, rfl⟩, fun h => by simp at h⟩
  | d + 1, k, i, hd, hk => by
    obtain ⟨k, rfl⟩ : ∃ m, k = m + 1 := ⟨k - 1, by omega⟩
    have hi : i < l.length := by omega
    have hli := hl _ (List.getElem_mem hi)
    obtain ⟨ih1, ih2⟩ := or_l0 l hn hl x4 d k (i + 1) (by omega) (by omega)
    have e : rd_L1 l (i : Int) = l[i] := li_at l i hi
    simp only [dict_Or.l0]
    rw [if_pos (by omega), if_pos (by omega), if_pos (by omega), e, dmay_f l[i] (by omega) k (by omega), Option.bind_some, w64n (x := (i : Int) + 1) (i + 1) (by omega) (by omega), List.drop_eq_getElem_cons hi, List.all_cons]
    cases mayR (ws l[i]) with
    | true =>
      rw [if_pos rfl, Bool.true_and]
      refine ⟨fun h => ?_, ih2⟩
      obtain ⟨k', h1, h2⟩ := ih1 h
      exact ⟨k', by omega, h2⟩
    | false =>
      rw [if_neg (by decide), Bool.false_and]
      exact ⟨fun h => (by cases h), fun _ => rfl⟩
def lowI : Option Nat → Int
  | none => -1
  | some q => (q : Int)
/-- What stands first in the lists so far. -/
def Low (l : List (List ByteArray)) (A : List Nat) (i : Nat) : Option Nat → Prop
  | none => ∀ j, j < i → (li l j).length ≤ A.getD j 0
  | some q => q < i ∧ A.getD q 0 < (li l q).length ∧ ∀ j, j < i → A.getD j 0 < (li l j).length → lt (wd (li l j) (A.getD j 0)) (wd (li l q) (A.getD q 0)) = false
theorem or_l2 (l : List (List ByteArray)) (hn : l.length ≤ 4) (o : List ByteArray) (A : List Nat) (hA : A.length = l.length) (hm : ∀ j, (li l j).length ≤ 210) : ∀ (d k i : Nat) (low : Option Nat), i + d = l.length → d < k → Low l A i low →
    ∃ k' low', k ≤ k' + d ∧ 0 < k' ∧ dict_Or.l2 k l o (AI A) (lowI low) l l.length i = dict_Or.l2 k' l o (AI A) (lowI low') l l.length ((l.length : Nat) : Int) ∧ Low l A l.length low'
  | 0, k, i, low, hd, hk, hlow => by
    obtain rfl : i = l.length := by omega
    exact ⟨k, low, by omega, by omega, rfl, hlow⟩
  | d + 1, k, i, low, hd, hk, hlow => by
    obtain ⟨k, rfl⟩ : ∃ m, k = m + 1 := ⟨k - 1, by omega⟩
    have hmi := hm i
    simp only [dict_Or.l2]
    have elen : ((rd_L1 l (i : Int)).length : Int) = ((li l i).length : Int) := rfl
    rw [if_pos (by omega), if_pos (by omega), if_pos (by omega), if_pos (by rw [AI_len]; omega), rd_AI, elen, w64n (x := (i : Int) + 1) (i + 1) (by omega) (by omega)]
    have go : ∀ low2, Low l A (i + 1) low2 → ∃ k' low', k + 1 ≤ k' + (d + 1) ∧ 0 < k' ∧ dict_Or.l2 k l o (AI A) (lowI low2) l l.length ((i + 1 : Nat) : Int) = dict_Or.l2 k' l o (AI A) (lowI low') l l.length ((l.length : Nat) : Int) ∧ Low l A l.length low' := by
      intro low2 h2
      obtain ⟨k', low', h3, h4, h5, h6⟩ := or_l2 l hn o A hA hm d k (i + 1) low2 (by omega) (by omega) h2
      exact ⟨k', low', by omega, h4, h5, h6⟩
    by_cases h : A.getD i 0 < (li l i).length
    · rw [if_pos (by omega)]
      cases low with
      | none =>
        rw [if_pos (show lowI none = -1 from rfl)]
        refine go (some i) ⟨by omega, h, fun j hj hj2 => ?_⟩
        rcases Nat.lt_or_ge j i with h' | h'
        · have := hlow j h'
          omega
        · obtain rfl : j = i := by omega
          exact lt_irrefl _
      | some q =>
        obtain ⟨q1, q2, q3⟩ := hlow
        have elen2 : ((rd_L1 l (q : Int)).length : Int) = ((li l q).length : Int) := rfl
        rw [show lowI (some q) = (q : Int) from rfl]
        rw [if_neg (by omega), if_pos (by omega), if_pos (by omega), if_pos (by omega), if_pos (by rw [AI_len]; omega), rd_AI, elen2, if_pos (by omega), if_pos (by omega), less_eq]
        change ∃ k' low', _ ∧ _ ∧ (if lt (wd (li l i) (A.getD i 0)) (wd (li l q) (A.getD q 0)) = true then _ else _) = _ ∧ _
        cases hlt : lt (wd (li l i) (A.getD i 0)) (wd (li l q) (A.getD q 0)) with
        | true =>
          rw [if_pos rfl]
          refine go (some i) ⟨by omega, h, fun j hj hj2 => ?_⟩
          rcases Nat.lt_or_ge j i with h' | h'
          · cases hjt : lt (wd (li l j) (A.getD j 0)) (wd (li l i) (A.getD i 0)) with
            | false => rfl
            | true => rw [← q3 j h' hj2, lt_trans _ _ _ hjt hlt]
          · obtain rfl : j = i := by omega
            exact lt_irrefl _
        | false =>
          rw [if_neg (by decide)]
          refine go (some q) ⟨by omega, q2, fun j hj hj2 => ?_⟩
          rcases Nat.lt_or_ge j i with h' | h'
          · exact q3 j h' hj2
          · obtain rfl : j = i := by omega
            exact hlt
    · rw [if_neg (by omega)]
      refine go low ?_
      cases low with
      | none =>
        intro j hj
        rcases Nat.lt_or_ge j i with h' | h'
        · exact hlow j h'
        · obtain rfl : j = i := by omega
          omega
      | some q =>
        obtain ⟨q1, q2, q3⟩ := hlow
        refine ⟨by omega, q2, fun j hj hj2 => ?_⟩
        rcases Nat.lt_or_ge j i with h' | h'
        · exact q3 j h' hj2
        · obtain rfl : j = i := by omega
          exact absurd hj2 h
/-- The places behind a word. -/
def advN (l : List (List ByteArray)) (t : List Int) (A : List Nat) : Nat → List Nat
  | 0 => A
  | i + 1 => if (advN l t A i).getD i 0 < (li l i).length ∧ wd (li l i) ((advN l t A i).getD i 0) = t then (advN l t A i).set i ((advN l t A i).getD i 0 + 1) else advN l t A i
theorem adv_len (l : List (List ByteArray)) (t : List Int) (A : List Nat) : ∀ i, (advN l t A i).length = A.length
  | 0 => rfl
  | i + 1 => by
    simp only [advN]
    split
    · rw [List.length_set, adv_len l t A i]
    · exact adv_len l t A i
theorem getD_set (A : List Nat) (i j v : Nat) (h : i < A.length) : (A.set i v).getD j 0 = if j = i then v else A.getD j 0 := by
  simp only [List.getD_eq_getElem?_getD, List.getElem?_set]
  by_cases e : i = j
  · subst e
    simp [h]
  · rw [if_neg e, if_neg (fun h => e h.symm)]
theorem adv_get (l : List (List ByteArray)) (t : List Int) (A : List Nat) (j : Nat) : ∀ i, i ≤ A.length → (advN l t A i).getD j 0 = if j < i ∧ A.getD j 0 < (li l j).length ∧ wd (li l j) (A.getD j 0) = t then A.getD j 0 + 1 else A.getD j 0
  | 0, _ => by simp [advN]
  | i + 1, hi => by
    have ih := fun j => adv_get l t A j i (by omega)
    have hii := adv_get l t A i i (by omega)
    rw [if_neg (by omega)] at hii
    have ihj := adv_get l t A j i (by omega)
    simp only [advN]
    rw [hii]
    by_cases h : A.getD i 0 < (li l i).length ∧ wd (li l i) (A.getD i 0) = t
    · rw [if_pos h, getD_set _ _ _ _ (by rw [adv_len]; omega)]
      by_cases e : j = i
      · subst e
        rw [if_pos rfl, if_pos ⟨by omega, h⟩]
      · rw [if_neg e, ihj]
        by_cases h2 : j < i
        · simp only [h2, show j < i + 1 by omega]
        · rw [if_neg (fun h3 => h2 h3.1), if_neg (fun h3 => h2 (by omega))]
    · rw [if_neg h, ihj]
      by_cases e : j = i
      · subst e
        rw [if_neg (by omega), if_neg (fun h3 => h h3.2)]
      · by_cases h2 : j < i
        · simp only [h2, show j < i + 1 by omega]
        · rw [if_neg (fun h3 => h2 h3.1), if_neg (fun h3 => h2 (by omega))]
theorem or_l3 (l : List (List ByteArray)) (hn : l.length ≤ 4) (o : List ByteArray) (A : List Nat) (hA : A.length = l.length) (hm : ∀ j, (li l j).length ≤ 210) (t : ByteArray) : ∀ (d k i : Nat), i + d = l.length → d < k →
    ∃ k', k ≤ k' + d + 1 ∧ dict_Or.l3 k l o (AI (advN l (bytesOf t) A i)) t l l.length i = dict_Or.l1 k' l o (AI (advN l (bytesOf t) A l.length))
  | 0, k, i, hd, hk => by
    obtain ⟨k, rfl⟩ : ∃ m, k = m + 1 := ⟨k - 1, by omega⟩
    obtain rfl : i = l.length := by omega
    refine ⟨k, by omega, ?_⟩
    simp only [dict_Or.l3]
    rw [if_neg (by omega)]
  | d + 1, k, i, hd, hk => by
    obtain ⟨k, rfl⟩ : ∃ m, k = m + 1 := ⟨k - 1, by omega⟩
    obtain ⟨k', h1, h2⟩ := or_l3 l hn o A hA hm t d k (i + 1) (by omega) (by omega)
    refine ⟨k', by omega, ?_⟩
    have hmi := hm i
    have hB := adv_len l (bytesOf t) A i
    have elen : ((rd_L1 l (i : Int)).length : Int) = ((li l i).length : Int) := rfl
    simp only [dict_Or.l3]
    rw [if_pos (by omega), if_pos (by omega), if_pos (by omega), if_pos (by rw [AI_len, hB]; omega), rd_AI, elen, w64n (x := (i : Int) + 1) (i + 1) (by omega) (by omega), ← h2]
    simp only [advN]
    by_cases h : (advN l (bytesOf t) A i).getD i 0 < (li l i).length
    · rw [if_pos (by omega), if_pos (by omega), w64n (x := (((advN l (bytesOf t) A i).getD i 0 : Nat) : Int) + 1) ((advN l (bytesOf t) A i).getD i 0 + 1) (by omega) (by omega), Int.toNat_natCast, AI_set]
      have hsame : (rdOf ByteArray.empty (rd_L1 l (i : Int)) (((advN l (bytesOf t) A i).getD i 0 : Nat) : Int)).toList = t.toList ↔ wd (li l i) ((advN l (bytesOf t) A i).getD i 0) = bytesOf t := same_iff _ _
      by_cases e : wd (li l i) ((advN l (bytesOf t) A i).getD i 0) = bytesOf t
      · rw [if_pos (hsame.2 e), if_pos ⟨h, e⟩]
      · rw [if_neg (fun h' => e (hsame.1 h')), if_neg (fun h' => e h'.2)]
    · rw [if_neg (by omega), if_neg (fun h' => h h'.1)]
def Rem (l : List (List ByteArray)) (A : List Nat) (x : List Int) : Prop := ∃ j, j < l.length ∧ ∃ q, A.getD j 0 ≤ q ∧ q < (li l j).length ∧ wd (li l j) q = x
theorem or_l1 (l : List (List ByteArray)) (hn : l.length ≤ 4) (hm : ∀ j, (li l j).length ≤ 210) (hs : ∀ j, j < l.length → Asc (ws (li l j))) (U : List (List Int)) (hU : Asc U) : ∀ (d k : Nat) (o : List ByteArray) (A : List Nat), o.length + d = 200 → 14 * d + 40 < k →
    A.length = l.length → Asc (ws o) → (∀ x ∈ ws o, ∀ y, Rem l A y → lt x y = true) → (∀ x, x ∈ U ↔ x ∈ ws o ∨ Rem l A x) →
    ∃ m, dict_Or.l1 k l o (AI A) = some m ∧ ws m = if U.length > 200 then [] else U := by
  intro d
  induction d with
  | zero => exact fun k o A h1 h2 h3 h4 h5 h6 => or_step 0 k o A h1 h2 h3 h4 h5 h6 (fun _ _ _ h => by omega)
  | succ d ih => exact fun k o A h1 h2 h3 h4 h5 h6 => or_step (d + 1) k o A h1 h2 h3 h4 h5 h6 (fun k' o' A' _ g1 g2 g3 g4 g5 g6 => ih k' o' A' (by omega) (by omega) g3 g4 g5 g6)
where
  or_step (d k : Nat) (o : List ByteArray) (A : List Nat) (hd : o.length + d = 200) (hk : 14 * d + 40 < k) (hA : A.length = l.length) (ho : Asc (ws o)) (hlt : ∀ x ∈ ws o, ∀ y, Rem l A y → lt x y = true) (hmem : ∀ x, x ∈ U ↔ x ∈ ws o ∨ Rem l A x)
    (next : ∀ (k' : Nat) (o' : List ByteArray) (A' : List Nat), 0 < d → o'.length + d = 201 → 14 * d + 26 < k' → A'.length = l.length → Asc (ws o') → (∀ x ∈ ws o', ∀ y, Rem l A' y → lt x y = true) → (∀ x, x ∈ U ↔ x ∈ ws o' ∨ Rem l A' x) → ∃ m, dict_Or.l1 k' l o' (AI A') = some m ∧ ws m = if U.length > 200 then [] else U) :
    ∃ m, dict_Or.l1 k l o (AI A) = some m ∧ ws m = if U.length > 200 then [] else U := by
    obtain ⟨k, rfl⟩ : ∃ m, k = m + 1 := ⟨k - 1, by omega⟩
    simp only [dict_Or.l1]
    obtain ⟨k', low, h1, h2, h3, h4⟩ := or_l2 l hn o A hA hm l.length k 0 none (by omega) (by omega) (fun j hj => by omega)
    have h3 : dict_Or.l2 k l o (AI A) (-1) l (l.length : Int) 0 = _ := h3
    rw [h3]
    obtain ⟨k', rfl⟩ : ∃ m, k' = m + 1 := ⟨k' - 1, by omega⟩
    simp only [dict_Or.l2]
    rw [if_neg (by omega)]
    cases low with
    | none =>
      rw [show lowI none = -1 from rfl, if_pos rfl]
      refine ⟨o, rfl, ?_⟩
      have e : ws o = U := asc_eq _ _ ho hU (fun x => by
        rw [hmem x]
        constructor
        · exact fun h => .inl h
        · rintro (h | ⟨j, hj, q, q1, q2, _⟩)
          · exact h
          · have := h4 j hj
            omega)
      rw [← e, ws_len, if_neg (by omega)]
    | some q =>
      obtain ⟨q1, q2, q3⟩ := h4
      have elen : ((rd_L1 l (q : Int)).length : Int) = ((li l q).length : Int) := rfl
      rw [show lowI (some q) = (q : Int) from rfl]
      rw [if_neg (by omega), if_pos (by omega), if_pos (by omega), if_pos (by rw [AI_len]; omega), rd_AI, if_pos (by omega), elen, if_pos (by omega), if_pos (by omega)]
      simp only [Option.bind_some]
      have ht : bytesOf (rdOf ByteArray.empty (rd_L1 l (q : Int)) ((A.getD q 0 : Nat) : Int)) = wd (li l q) (A.getD q 0) := rfl
      have hTrem : Rem l A (wd (li l q) (A.getD q 0)) := ⟨q, q1, A.getD q 0, Nat.le_refl _, q2, rfl⟩
      generalize rdOf ByteArray.empty (rd_L1 l (q : Int)) ((A.getD q 0 : Nat) : Int) = t at ht
      rw [← ht] at hTrem q3
      have hw : ws (o ++ [t]) = ws o ++ [bytesOf t] := by simp [ws]
      have hasc : Asc (ws (o ++ [t])) := by
        rw [hw]
        refine List.pairwise_append.2 ⟨ho, List.pairwise_singleton _ _, fun a ha b hb => ?_⟩
        rw [List.mem_singleton] at hb
        subst hb
        exact hlt a ha _ hTrem
      have hsub : ∀ x ∈ ws (o ++ [t]), x ∈ U := by
        intro x hx
        rw [hw, List.mem_append, List.mem_singleton] at hx
        rcases hx with hx | rfl
        · exact (hmem x).2 (.inl hx)
        · exact (hmem _).2 (.inr hTrem)
      have hlen := asc_len U _ hasc hU hsub
      rw [ws_len, List.length_append, List.length_singleton] at hlen
      by_cases h200 : o.length + 1 > 200
      · rw [if_pos (by rw [List.length_append, List.length_singleton]; omega)]
        exact ⟨[], rfl, by rw [if_pos (by omega)]; rfl⟩
      · rw [if_neg (by rw [List.length_append, List.length_singleton]; omega)]
        obtain ⟨k2, g1, g2⟩ := or_l3 l hn (o ++ [t]) A hA hm t l.length k' 0 (by omega) (by omega)
        have g2 : dict_Or.l3 k' l (o ++ [t]) (AI A) t l (l.length : Int) 0 = _ := g2
        rw [g2]
        have hget := fun j => adv_get l (bytesOf t) A j l.length (by omega)
        have hge : ∀ j, A.getD j 0 ≤ (advN l (bytesOf t) A l.length).getD j 0 := fun j => by rw [hget j]; split <;> omega
        have hrem : ∀ y, Rem l (advN l (bytesOf t) A l.length) y → Rem l A y := by
          rintro y ⟨j, j1, p, p1, p2, p3⟩
          exact ⟨j, j1, p, Nat.le_trans (hge j) p1, p2, p3⟩
        have hpair : ∀ j, j < l.length → ∀ p p', p < p' → p' < (li l j).length → lt (wd (li l j) p) (wd (li l j) p') = true := by
          intro j hj p p' hp hp'
          have := (List.pairwise_iff_getElem.1 (hs j hj)) p p' (by rw [ws_len]; omega) (by rw [ws_len]; omega) hp
          rwa [wd_get _ p (by omega), wd_get _ p' hp'] at this
        refine next k2 (o ++ [t]) _ (by omega) (by rw [List.length_append, List.length_singleton]; omega) (by omega) (by rw [adv_len]; exact hA) hasc ?_ ?_
        · intro x hx y hy
          rw [hw, List.mem_append, List.mem_singleton] at hx
          rcases hx with hx | rfl
          · exact hlt x hx y (hrem y hy)
          · obtain ⟨j, j1, p, p1, p2, rfl⟩ := hy
            have hle := hge j
            have p0 := p1
            rw [hget j] at p1
            by_cases hh : wd (li l j) (A.getD j 0) = bytesOf t
            · rw [if_pos ⟨j1, by omega, hh⟩] at p1
              rw [← hh]
              exact hpair j j1 _ _ (by omega) p2
            · rw [if_neg (fun h => hh h.2.2)] at p1
              have h5 := lt_total _ _ (q3 j j1 (by omega)) hh
              rcases Nat.lt_or_ge (A.getD j 0) p with h6 | h6
              · exact lt_trans _ _ _ h5 (hpair j j1 _ _ h6 p2)
              · obtain rfl : p = A.getD j 0 := by omega
                exact h5
        · intro x
          rw [hmem x, hw, List.mem_append, List.mem_singleton]
          constructor
          · rintro (h | ⟨j, j1, p, p1, p2, rfl⟩)
            · exact .inl (.inl h)
            · by_cases hh : A.getD j 0 = p ∧ wd (li l j) p = bytesOf t
              · exact .inl (.inr hh.2)
              · refine .inr ⟨j, j1, p, ?_, p2, rfl⟩
                rw [hget j]
                split
                · rename_i h7
                  rcases Nat.lt_or_ge (A.getD j 0) p with h6 | h6
                  · omega
                  · obtain rfl : p = A.getD j 0 := by omega
                    exact absurd ⟨rfl, h7.2.2⟩ hh
                · exact p1
          · rintro ((h | rfl) | h)
            · exact .inl h
            · exact .inr hTrem
            · exact .inr (hrem x h)
theorem or_f (l : List (List ByteArray)) (hn : l.length ≤ 4) (hl : ∀ m ∈ l, m.length ≤ 210) (k : Nat) (hk : 4000 ≤ k) : ∃ m, dict_Or.f k l = some m ∧ ws m = orR (l.map ws) := by
  have hm : ∀ j, (li l j).length ≤ 210 := by
    intro j
    by_cases h : j < l.length
    · rw [li_at l j h]; exact hl _ (List.getElem_mem h)
    · have : li l j = [] := by simp [li, rd_L1, List.getD_eq_getElem?_getD, List.getElem?_eq_none (show l.length ≤ j by omega)]
      rw [this]; exact Nat.zero_le _
  have hA0 : List.replicate l.length (0 : Int) = AI (List.replicate l.length 0) := by simp [AI]
  have hall : (l.map ws).all mayR = l.all (fun m => mayR (ws m)) := by rw [List.all_map]; rfl
  unfold dict_Or.f orR
  rw [if_pos (by omega), Int.toNat_natCast, if_pos (by omega), hA0, hall]
  obtain ⟨h1, h2⟩ := or_l0 l hn hl (AI (List.replicate l.length 0)) l.length k 0 (by omega) (by omega)
  rw [List.drop_zero] at h1 h2
  cases h : l.all (fun m => mayR (ws m)) with
  | false => exact ⟨[], h2 h, rfl⟩
  | true =>
    obtain ⟨k', h3, h4⟩ := h1 h
    have h4 : dict_Or.l0 k l (AI (List.replicate l.length 0)) l (l.length : Int) 0 = _ := h4
    rw [h4, if_pos rfl]
    have hs : ∀ j, j < l.length → Asc (ws (li l j)) := by
      intro j hj
      rw [li_at l j hj]
      exact (may_sorted (List.all_eq_true.1 h _ (List.getElem_mem hj))).1
    refine or_l1 l hn hm hs (uni (l.map ws) []) (uni_asc _ _ List.Pairwise.nil) 200 k' [] _ rfl (by omega) (by simp) List.Pairwise.nil (fun x hx => by cases hx) (fun x => ?_)
    rw [uni_mem]
    constructor
    · rintro (h5 | ⟨L, hL, hx⟩)
      · cases h5
      · obtain ⟨m, hm1, rfl⟩ := List.mem_map.1 hL
        obtain ⟨j, hj, rfl⟩ := List.getElem_of_mem hm1
        obtain ⟨q, hq, rfl⟩ := List.getElem_of_mem hx
        rw [ws_len] at hq
        refine .inr ⟨j, hj, q, ?_, by rw [li_at l j hj]; exact hq, by rw [li_at l j hj, wd_get _ q hq]⟩
        simp [List.getD_eq_getElem?_getD, hj]
    · rintro (h5 | ⟨j, hj, q, _, hq, rfl⟩)
      · cases h5
      · refine .inr ⟨ws (li l j), List.mem_map.2 ⟨li l j, by rw [li_at l j hj]; exact List.getElem_mem hj, rfl⟩, ?_⟩
        rw [← wd_get _ q hq]
        exact List.getElem_mem _

end Go.Proofs.Ytamofikjjkpejaa.VDictUnion
