/- Postings out of bytes, and back, in plain Lean. -/
import Derived.Test.YtepmcdcncjimeaaQMayPostPacks
namespace Go.Proofs.Ytepmcdcncjimeaa.VPostPacks
set_option linter.unusedVariables false
set_option linter.unusedSimpArgs false
open Go Go.RowKit Go.Proofs.Ytepmcdcncjimeaa.PPostPacks Go.Proofs.YtepmcdcncjimeaaW.PrintWords Go.Proofs.YtepmcdcncjimeaaW.PrintLast Go.Proofs.YtepmcdcncjimeaaW.PrintMore Go.Proofs.Ytepmcdcncjimeaa.VSpec

def rNum (b : List Int) : Option (Int × List Int) := (dec 5 b true).map (fun p => (p.1, b.drop p.2))
def rList (b : List Int) : Option (List Int × List Int) := if (readR b 0).2.2 = 0 then some ((readR b 0).1, b.drop (readR b 0).2.1.toNat) else none
def rPosts : Nat → Int → List Int → Option (List S39 × List Int)
  | 0, _, b => some ([], b)
  | m + 1, a, b => match rNum b with
    | none => none
    | some (s, r) => match rList r with
      | none => none
      | some (at_, r2) => (rPosts m (a + s + 1) r2).map (fun p => (⟨a + s + 1, at_⟩ :: p.1, p.2))
def lastD (a : Int) : List S39 → Int
  | [] => a
  | p :: t => lastD p.f0 t
def rBody (m : Nat) (a last : Int) (b : List Int) : Option (List S39) := match rPosts m a b with
  | none => none
  | some (l, r) => if r = [] ∧ lastD a l = last then some l else none
def rBlock (m : Nat) (a : Int) (b : List Int) : Option (List S39 × Int × List Int) := match rNum b with
  | none => none
  | some (last, r) => match rNum r with
    | none => none
    | some (n, r2) => if n ≤ (r2.length : Int) then (match rBody m a last (r2.take n.toNat) with
      | none => none
      | some l => some (l, last, r2.drop n.toNat)) else none
def rAll : Nat → Nat → Int → List Int → Option (List S39 × List Int)
  | 0, n, _, b => if n = 0 then some ([], b) else none
  | f + 1, n, a, b => if n = 0 then some ([], b) else match rBlock (min 4 n) a b with
    | none => none
    | some (l, last, r) => (rAll f (n - min 4 n) last r).map (fun p => (l ++ p.1, p.2))
def rWhole (b : List Int) : Option (List S39 × List Int) := match rNum b with
  | none => none
  | some (n, r) => if n ≤ 64 then rAll 64 n.toNat (-1) r else none
/-! #### what is read is what was put -/
theorem rNum_enc {n : Int} (h : Num n) (t : List Int) : rNum (enc n ++ t) = some (n, t) := by
  unfold rNum
  rw [dec5_enc h]
  simp
theorem rNum_ok {b : List Int} (hb : Byt b) {n : Int} {r : List Int} (h : rNum b = some (n, r)) : Num n ∧ b = enc n ++ r := by
  unfold rNum at h
  obtain ⟨⟨m, j⟩, hd, he⟩ := Option.map_eq_some_iff.1 h
  simp only [Prod.mk.injEq] at he
  obtain ⟨rfl, rfl⟩ := he
  obtain ⟨a1, a2, a3, a4, a5, a6, _⟩ := enc_dec 5 b true m j hb hd
  exact ⟨⟨a1, by omega⟩, by rw [a6, List.take_append_drop]⟩
theorem rList_rise {l : List Int} (h : (riseR l).2 = 0) (t : List Int) : rList ((riseR l).1 ++ t) = some (l, t) := by
  have hp : riseR l = ((riseR l).1, 0) := by rw [← h]
  have := readR_rise hp [] t
  simp only [List.nil_append, List.length_nil, Nat.zero_add, Int.natCast_zero] at this
  unfold rList
  rw [this]
  simp
theorem rList_ok {b : List Int} (hb : Byt b) {l r : List Int} (h : rList b = some (l, r)) : (riseR l).2 = 0 ∧ b = (riseR l).1 ++ r := by
  unfold rList at h
  split at h
  · rename_i h0
    obtain ⟨_, q, h1, h2, h3, h4⟩ := readR_ok hb h0
    simp only [Option.some.injEq, Prod.mk.injEq] at h
    obtain ⟨rfl, rfl⟩ := h
    rw [h4, h1]
    refine ⟨rfl, ?_⟩
    simp only [Int.toNat_zero, Nat.zero_add, List.drop_zero, Int.toNat_natCast]
    exact (List.take_append_drop q b).symm
  · cases h
/-- A cut's postings' bytes. -/
def pkPosts (a : Int) : List S39 → List Int
  | [] => []
  | p :: t => putR (wrap64 (wrap64 (p.f0 - a) - 1)) ++ (riseR p.f1).1 ++ pkPosts p.f0 t
theorem packB_eq : ∀ (l : List S39) (body : List Int) (a : Int), packB body a l = (body ++ pkPosts a l, lastD a l)
  | [], body, a => by simp [packB, pkPosts, lastD]
  | p :: t, body, a => by
    rw [packB, packB_eq t]
    simp [pkPosts, lastD]
def pkBlock (a : Int) (c : List S39) : List Int := putR (lastD a c) ++ putR ((pkPosts a c).length : Int) ++ pkPosts a c
def pkAll : Nat → Int → List S39 → List Int
  | 0, _, _ => []
  | f + 1, a, l => if l = [] then [] else pkBlock a (l.take 4) ++ pkAll f (lastD a (l.take 4)) (l.drop 4)
theorem chunks_cons (l : List S39) (h : l ≠ []) : chunksR l = l.take 4 :: chunksR (l.drop 4) := by
  have hl : 0 < l.length := List.length_pos_iff.2 h
  unfold chunksR
  rw [show (l.length + 3) / 4 = ((l.drop 4).length + 3) / 4 + 1 by rw [List.length_drop]; omega, List.range_succ_eq_map, List.map_cons, List.map_map]
  congr 1
  apply List.map_congr_left
  intro j _
  simp [chunkAt, List.drop_drop, Nat.mul_add, Nat.add_comm]
theorem pack_fold : ∀ (f : Nat) (l : List S39) (o : List Int) (a : Int), l.length ≤ f → ((chunksR l).foldl packC (o, a)).1 = o ++ pkAll f a l
  | 0, l, o, a, h => by
    have : l = [] := List.length_eq_zero_iff.1 (by omega)
    subst this
    simp [chunksR, pkAll]
  | f + 1, l, o, a, h => by
    by_cases h0 : l = []
    · subst h0
      simp [chunksR, pkAll]
    · rw [chunks_cons l h0, List.foldl_cons]
      have e : packC (o, a) (l.take 4) = (o ++ pkBlock a (l.take 4), lastD a (l.take 4)) := by
        unfold packC pkBlock
        rw [packB_eq]
        simp [List.append_assoc]
      have hd : (l.drop 4).length ≤ f := by rw [List.length_drop]; have : 0 < l.length := List.length_pos_iff.2 h0; omega
      rw [e, pack_fold f (l.drop 4) _ _ hd]
      simp [pkAll, h0, List.append_assoc]
theorem packF_eq (l : List S39) (f : Nat) (h : l.length ≤ f) : packF l = putR (l.length : Int) ++ pkAll f (-1) l := pack_fold f l _ _ h
/-- Postings that rise, each with places that do. -/
def goodP (a : Int) : List S39 → Prop
  | [] => True
  | p :: t => a < p.f0 ∧ p.f0 ≤ 34359738367 ∧ (riseR p.f1).2 = 0 ∧ (riseR p.f1).1.length ≤ 20000 ∧ goodP p.f0 t
theorem step_num {a d : Int} (h0 : -1 ≤ a) (h1 : a < d) (h2 : d ≤ 34359738367) : Num (d - a - 1) ∧ wrap64 (wrap64 (d - a) - 1) = d - a - 1 := by
  refine ⟨⟨by omega, by omega⟩, ?_⟩
  rw [w64 (x := d - a) (by omega) (by omega), w64 (by omega) (by omega)]
theorem putR_num {n : Int} (h : Num n) : putR n = enc n := by unfold putR; rw [if_pos h]
theorem rPosts_pk : ∀ (l : List S39) (a : Int) (t : List Int), -1 ≤ a → goodP a l → rPosts l.length a (pkPosts a l ++ t) = some (l, t)
  | [], a, t, _, _ => rfl
  | p :: l, a, t, h0, h => by
    obtain ⟨h1, h2, h3, _, h5⟩ := h
    obtain ⟨e1, e2⟩ := step_num h0 h1 h2
    simp only [pkPosts, List.length_cons, rPosts, List.append_assoc]
    rw [e2, putR_num e1, rNum_enc e1]
    simp only
    rw [rList_rise h3]
    simp only
    rw [show a + (p.f0 - a - 1) + 1 = p.f0 by omega, rPosts_pk l p.f0 t (by omega) h5]
    rfl
theorem pkPosts_len : ∀ (l : List S39) (a : Int), goodP a l → (pkPosts a l).length ≤ 20005 * l.length
  | [], _, _ => by simp [pkPosts]
  | p :: l, a, h => by
    have := pkPosts_len l p.f0 h.2.2.2.2
    have := putR_le (wrap64 (wrap64 (p.f0 - a) - 1))
    have := h.2.2.2.1
    simp only [pkPosts, List.length_append, List.length_cons]
    omega
theorem lastD_le : ∀ (l : List S39) (a : Int), -1 ≤ a → a ≤ 34359738367 → goodP a l → a ≤ lastD a l ∧ lastD a l ≤ 34359738367 ∧ (l ≠ [] → 0 ≤ lastD a l)
  | [], a, h0, h1, _ => ⟨Int.le_refl _, h1, fun h => absurd rfl h⟩
  | p :: l, a, h0, h1, h => by
    have := lastD_le l p.f0 (by have := h.1; omega) h.2.1 h.2.2.2.2
    have := h.1
    exact ⟨by simp only [lastD]; omega, by simp only [lastD]; omega, fun _ => by simp only [lastD]; omega⟩
theorem goodP_take : ∀ (l : List S39) (a : Int) (k : Nat), goodP a l → goodP a (l.take k)
  | [], _, k, _ => by simp [goodP]
  | p :: l, a, 0, _ => by simp [goodP]
  | p :: l, a, k + 1, h => ⟨h.1, h.2.1, h.2.2.1, h.2.2.2.1, goodP_take l p.f0 k h.2.2.2.2⟩
theorem goodP_drop : ∀ (l : List S39) (a : Int) (k : Nat), goodP a l → goodP (lastD a (l.take k)) (l.drop k)
  | [], _, k, _ => by simp [goodP]
  | p :: l, a, 0, h => h
  | p :: l, a, k + 1, h => goodP_drop l p.f0 k h.2.2.2.2
theorem rBlock_pk (l : List S39) (a : Int) (t : List Int) (h0 : -1 ≤ a) (h1 : a ≤ 34359738367) (hg : goodP a l) (hne : l ≠ []) (h4 : l.length ≤ 4) : rBlock l.length a (pkBlock a l ++ t) = some (l, lastD a l, t) := by
  obtain ⟨g1, g2, g3⟩ := lastD_le l a h0 h1 hg
  have hlen := pkPosts_len l a hg
  have n1 : Num (lastD a l) := ⟨g3 hne, g2⟩
  have n2 : Num ((pkPosts a l).length : Int) := ⟨by omega, by omega⟩
  unfold rBlock pkBlock
  rw [putR_num n1, putR_num n2, List.append_assoc, List.append_assoc, rNum_enc n1]
  simp only
  rw [rNum_enc n2]
  simp only
  rw [if_pos (by simp; omega), Int.toNat_natCast, List.take_left, List.drop_left]
  have := rPosts_pk l a [] h0 hg
  rw [List.append_nil] at this
  unfold rBody
  rw [this]
  simp
theorem rAll_pk : ∀ (f : Nat) (l : List S39) (a : Int) (t : List Int), -1 ≤ a → a ≤ 34359738367 → goodP a l → l.length ≤ f → rAll f l.length a (pkAll f a l ++ t) = some (l, t)
  | 0, l, a, t, _, _, _, h => by
    have : l = [] := List.length_eq_zero_iff.1 (by omega)
    subst this
    rfl
  | f + 1, l, a, t, h0, h1, hg, h => by
    by_cases he : l = []
    · subst he
      rfl
    · have hl : 0 < l.length := List.length_pos_iff.2 he
      have ht : (l.take 4).length = min 4 l.length := by rw [List.length_take]
      have htn : l.take 4 ≠ [] := fun e => by rw [e] at ht; simp at ht; omega
      simp only [rAll, pkAll]
      rw [if_neg (by omega), if_neg he, List.append_assoc, ← ht, rBlock_pk (l.take 4) a _ h0 h1 (goodP_take l a 4 hg) htn (by rw [ht]; omega)]
      simp only
      obtain ⟨g1, g2, _⟩ := lastD_le (l.take 4) a h0 h1 (goodP_take l a 4 hg)
      have hd : l.length - (l.take 4).length = (l.drop 4).length := by rw [ht, List.length_drop]; omega
      rw [hd, rAll_pk f (l.drop 4) _ t (by omega) g2 (goodP_drop l a 4 hg) (by rw [List.length_drop]; omega)]
      simp
theorem risE_ris : ∀ (l : List Int) (e a : Int), e ≤ 34359738367 → risE e a l = true → ris a l = true
  | [], _, _, _, _ => rfl
  | n :: l, e, a, h, hr => by
    obtain ⟨h1, h2, h3⟩ := risE_cons.1 hr
    exact ris_cons.2 ⟨h1, by omega, risE_ris l e n h h3⟩
theorem rise_ok {l : List Int} (h1 : l.length ≤ 2000) (h2 : ris (-1) l = true) : (riseR l).2 = 0 := by
  unfold riseR
  rw [if_pos ⟨h2, h1⟩]
theorem may_good : ∀ (l : List S39) (a : Int), (∀ p ∈ l, okP p = true) → risE 64 a (l.map (·.f0)) = true → goodP a l
  | [], _, _, _ => trivial
  | p :: l, a, h, hr => by
    obtain ⟨h1, h2, h3⟩ := risE_cons.1 hr
    obtain ⟨k1, k2, k3⟩ := okP_iff.1 (h p (List.mem_cons_self ..))
    exact ⟨h1, by have : p.f0 < 64 := h2; omega, rise_ok (by omega) (risE_ris p.f1 120 (-1) (by omega) k3), riseR_len, may_good l p.f0 (fun q hq => h q (List.mem_cons_of_mem _ hq)) h3⟩
/-- Postings' bytes are read as they. -/
theorem rWhole_pack {l : List S39} (h : mayR l = true) (t : List Int) : rWhole (packF l ++ t) = some (l, t) := by
  obtain ⟨h1, h2, h3⟩ := mayR_iff.1 h
  have hn : Num (l.length : Int) := ⟨by omega, by omega⟩
  unfold rWhole
  rw [packF_eq l 64 h2, putR_num hn, List.append_assoc, rNum_enc hn]
  simp only
  rw [if_pos (by omega), Int.toNat_natCast, rAll_pk 64 l (-1) t (by omega) (by omega) (may_good l (-1) h1 h3) h2]
/-! #### what was read puts the same bytes -/
theorem rPosts_ok : ∀ (m : Nat) (a : Int) (b : List Int) (l : List S39) (r : List Int), Byt b → -1 ≤ a → a + (m : Int) * 34359738368 ≤ 4611686018427387904 → rPosts m a b = some (l, r) → l.length = m ∧ b = pkPosts a l ++ r
  | 0, a, b, l, r, _, _, _, h => by
    simp only [rPosts, Option.some.injEq, Prod.mk.injEq] at h
    obtain ⟨rfl, rfl⟩ := h
    exact ⟨rfl, rfl⟩
  | m + 1, a, b, l, r, hb, h0, hm, h => by
    rw [rPosts] at h
    cases hn : rNum b with
    | none => rw [hn] at h; cases h
    | some q =>
      obtain ⟨s, r1⟩ := q
      obtain ⟨n1, e1⟩ := rNum_ok hb hn
      rw [hn] at h
      simp only at h
      have hb1 : Byt r1 := fun x hx => hb x (by rw [e1]; exact List.mem_append_right _ hx)
      cases hl : rList r1 with
      | none => rw [hl] at h; cases h
      | some q =>
        obtain ⟨at_, r2⟩ := q
        obtain ⟨n2, e2⟩ := rList_ok hb1 hl
        rw [hl] at h
        simp only at h
        obtain ⟨⟨l', r'⟩, hr, he⟩ := Option.map_eq_some_iff.1 h
        simp only [Prod.mk.injEq] at he
        obtain ⟨rfl, rfl⟩ := he
        have hb2 : Byt r2 := fun x hx => hb1 x (by rw [e2]; exact List.mem_append_right _ hx)
        have hs := n1.2
        have hs0 := n1.1
        have hmm : ((m + 1 : Nat) : Int) * 34359738368 = (m : Int) * 34359738368 + 34359738368 := by omega
        obtain ⟨k1, k2⟩ := rPosts_ok m (a + s + 1) r2 l' r' hb2 (by omega) (by omega) hr
        refine ⟨by rw [List.length_cons, k1], ?_⟩
        simp only [pkPosts]
        rw [show wrap64 (wrap64 (a + s + 1 - a) - 1) = s by rw [w64 (x := a + s + 1 - a) (by omega) (by omega), w64 (by omega) (by omega)]; omega, putR_num n1, List.append_assoc, List.append_assoc, ← k2, ← e2, ← e1]
theorem rBlock_ok {m : Nat} {a : Int} {b : List Int} {l : List S39} {last : Int} {r : List Int} (hb : Byt b) (h0 : -1 ≤ a) (ha : a ≤ 34359738367) (hm : m ≤ 4) (h : rBlock m a b = some (l, last, r)) : l.length = m ∧ b = pkBlock a l ++ r ∧ lastD a l = last ∧ Num last := by
  unfold rBlock at h
  cases hn : rNum b with
  | none => rw [hn] at h; cases h
  | some q =>
    obtain ⟨x, r1⟩ := q
    obtain ⟨n1, e1⟩ := rNum_ok hb hn
    rw [hn] at h
    simp only at h
    have hb1 : Byt r1 := fun x hx => hb x (by rw [e1]; exact List.mem_append_right _ hx)
    cases hn2 : rNum r1 with
    | none => rw [hn2] at h; cases h
    | some q =>
      obtain ⟨n, r2⟩ := q
      obtain ⟨n2, e2⟩ := rNum_ok hb1 hn2
      rw [hn2] at h
      simp only at h
      have hb2 : Byt r2 := fun x hx => hb1 x (by rw [e2]; exact List.mem_append_right _ hx)
      split at h
      · rename_i hle
        unfold rBody at h
        cases hp : rPosts m a (r2.take n.toNat) with
        | none => rw [hp] at h; cases h
        | some q =>
          obtain ⟨l1, r3⟩ := q
          rw [hp] at h
          simp only at h
          split at h
          · cases h
          · rename_i hx
            split at hx
            · rename_i hc
              obtain rfl := Option.some.inj hx
              simp only [Option.some.injEq, Prod.mk.injEq] at h
              obtain ⟨rfl, rfl, rfl⟩ := h
              obtain ⟨c1, c2⟩ := hc
              subst c1
              obtain ⟨k1, k2⟩ := rPosts_ok m a _ _ _ (hb2.take _) h0 (by omega) hp
              rw [List.append_nil] at k2
              have hlen : ((pkPosts a l1).length : Int) = n := by rw [← k2, List.length_take]; have := n2.1; omega
              refine ⟨k1, ?_, c2, n1⟩
              unfold pkBlock
              rw [c2, putR_num n1, hlen, putR_num n2, ← k2, List.append_assoc, List.append_assoc, List.take_append_drop, ← e2, ← e1]
            · cases hx
      · cases h
theorem rAll_ok : ∀ (f n : Nat) (a : Int) (b : List Int) (l : List S39) (r : List Int), Byt b → -1 ≤ a → a ≤ 34359738367 → rAll f n a b = some (l, r) → l.length = n ∧ b = pkAll f a l ++ r
  | 0, n, a, b, l, r, hb, h0, ha, h => by
    simp only [rAll] at h
    split at h
    · simp only [Option.some.injEq, Prod.mk.injEq] at h
      obtain ⟨rfl, rfl⟩ := h
      rename_i hn
      exact ⟨hn.symm, rfl⟩
    · cases h
  | f + 1, n, a, b, l, r, hb, h0, ha, h => by
    simp only [rAll] at h
    split at h
    · simp only [Option.some.injEq, Prod.mk.injEq] at h
      obtain ⟨rfl, rfl⟩ := h
      rename_i hn
      exact ⟨hn.symm, rfl⟩
    · rename_i hn
      cases hB : rBlock (min 4 n) a b with
      | none => rw [hB] at h; cases h
      | some q =>
        obtain ⟨c, last, r1⟩ := q
        rw [hB] at h
        simp only at h
        obtain ⟨⟨l', r'⟩, hr, he⟩ := Option.map_eq_some_iff.1 h
        simp only [Prod.mk.injEq] at he
        obtain ⟨rfl, rfl⟩ := he
        obtain ⟨k1, k2, k3, k4⟩ := rBlock_ok hb h0 ha (by omega) hB
        have hb1 : Byt r1 := fun x hx => hb x (by rw [k2]; exact List.mem_append_right _ hx)
        obtain ⟨j1, j2⟩ := rAll_ok f (n - min 4 n) last r1 l' r' hb1 (by have := k4.1; omega) k4.2 hr
        have hcl : 0 < c.length := by omega
        have hne : c ++ l' ≠ [] := fun e => by
          have := congrArg List.length e
          simp only [List.length_append, List.length_nil] at this
          omega
        have ht : (c ++ l').take 4 = c := by
          by_cases h4 : n ≤ 4
          · have : l' = [] := List.length_eq_zero_iff.1 (by omega)
            rw [this, List.append_nil, List.take_of_length_le (by omega)]
          · rw [List.take_append_of_le_length (by omega), List.take_of_length_le (by omega)]
        have hd : (c ++ l').drop 4 = l' := by
          by_cases h4 : n ≤ 4
          · have : l' = [] := List.length_eq_zero_iff.1 (by omega)
            rw [this, List.append_nil, List.drop_eq_nil_of_le (by omega)]
          · rw [List.drop_append_of_le_length (by omega), List.drop_eq_nil_of_le (by omega), List.nil_append]
        refine ⟨by rw [List.length_append]; omega, ?_⟩
        simp only [pkAll]
        rw [if_neg hne, ht, hd, k3, List.append_assoc, ← j2, ← k2]
/-- What was read puts the same bytes. -/
theorem rWhole_ok {b : List Int} {l : List S39} {r : List Int} (hb : Byt b) (h : rWhole b = some (l, r)) : b = packF l ++ r ∧ l.length ≤ 64 := by
  unfold rWhole at h
  cases hn : rNum b with
  | none => rw [hn] at h; cases h
  | some q =>
    obtain ⟨n, r1⟩ := q
    obtain ⟨n1, e1⟩ := rNum_ok hb hn
    rw [hn] at h
    simp only at h
    split at h
    · rename_i hle
      have hb1 : Byt r1 := fun x hx => hb x (by rw [e1]; exact List.mem_append_right _ hx)
      obtain ⟨k1, k2⟩ := rAll_ok 64 n.toNat (-1) r1 l r hb1 (by omega) (by omega) h
      have hl : (l.length : Int) = n := by have := n1.1; omega
      refine ⟨?_, by omega⟩
      rw [packF_eq l 64 (by omega), hl, putR_num n1, List.append_assoc, ← k2, ← e1]
    · cases h
/-- What Unpack answers. -/
def unpackR (b : List Int) : List S39 × Int := match rWhole b with
  | none => ([], 5)
  | some (l, r) => if r = [] ∧ mayR l = true then (l, 0) else ([], 5)
theorem unpackR_pack {l : List S39} (h : mayR l = true) : unpackR (packF l) = (l, 0) := by
  have := rWhole_pack h []
  rw [List.append_nil] at this
  unfold unpackR
  rw [this]
  simp [h]
theorem unpackR_ok {b : List Int} (hb : Byt b) (h : (unpackR b).2 = 0) : mayR (unpackR b).1 = true ∧ packF (unpackR b).1 = b := by
  unfold unpackR at h ⊢
  cases hw : rWhole b with
  | none => rw [hw] at h; cases h
  | some q =>
    obtain ⟨l, r⟩ := q
    rw [hw] at h
    simp only at h ⊢
    split at h
    · rename_i hc
      obtain ⟨rfl, hm⟩ := hc
      rw [if_pos ⟨rfl, hm⟩]
      refine ⟨hm, ?_⟩
      have := (rWhole_ok hb hw).1
      rw [List.append_nil] at this
      exact this.symm
    · cases h
theorem unpackR_err (b : List Int) : unpackR b = ((unpackR b).1, 0) ∨ unpackR b = ([], 5) := by
  unfold unpackR
  cases rWhole b with
  | none => exact .inr rfl
  | some q =>
    simp only
    split
    · exact .inl rfl
    · exact .inr rfl
/-- No postings' bytes begin others'. -/
theorem packF_first {l m : List S39} (hl : mayR l = true) (hm : mayR m = true) {t : List Int} (h : packF l = packF m ++ t) : t = [] := by
  have h1 := rWhole_pack hl []
  rw [List.append_nil, h, rWhole_pack hm t] at h1
  simp only [Option.some.injEq, Prod.mk.injEq] at h1
  exact h1.2
theorem riseR_bytes {l : List Int} (h : (riseR l).2 = 0) : Byt (riseR l).1 := riseR_byt (l := l) (by rw [← h])
theorem putR_byt (n : Int) : Byt (putR n) := by
  unfold putR
  split
  · rename_i h
    exact enc_byt h.1
  · exact Byt.nil
theorem pkPosts_byt : ∀ (l : List S39) (a : Int), goodP a l → Byt (pkPosts a l)
  | [], _, _ => Byt.nil
  | p :: l, a, h => ((putR_byt _).app (riseR_bytes h.2.2.1)).app (pkPosts_byt l p.f0 h.2.2.2.2)
theorem pkAll_byt : ∀ (f : Nat) (l : List S39) (a : Int), goodP a l → Byt (pkAll f a l)
  | 0, _, _, _ => Byt.nil
  | f + 1, l, a, h => by
    simp only [pkAll]
    split
    · exact Byt.nil
    · exact (((putR_byt _).app (putR_byt _)).app (pkPosts_byt _ _ (goodP_take l a 4 h))).app (pkAll_byt f _ _ (goodP_drop l a 4 h))
theorem pkAll_len : ∀ (f : Nat) (l : List S39) (a : Int), goodP a l → (pkAll f a l).length ≤ 20015 * l.length
  | 0, _, _, _ => by simp [pkAll]
  | f + 1, l, a, h => by
    simp only [pkAll]
    split
    · simp
    · rename_i hne
      have hl : 0 < l.length := List.length_pos_iff.2 hne
      have h1 := pkAll_len f _ _ (goodP_drop l a 4 h)
      have h2 := pkPosts_len _ _ (goodP_take l a 4 h)
      have h3 := putR_le (lastD a (l.take 4))
      have h4 := putR_le ((pkPosts a (l.take 4)).length : Int)
      simp only [pkBlock, List.length_append, List.length_take, List.length_drop] at h1 h2 ⊢
      omega
theorem packF_byt {l : List S39} (h : mayR l = true) : Byt (packF l) := by
  obtain ⟨h1, h2, h3⟩ := mayR_iff.1 h
  rw [packF_eq l 64 h2]
  exact (putR_byt _).app (pkAll_byt _ _ _ (may_good l (-1) h1 h3))
theorem packF_len {l : List S39} (h : mayR l = true) : (packF l).length ≤ 2000000 := by
  obtain ⟨h1, h2, h3⟩ := mayR_iff.1 h
  rw [packF_eq l 64 h2, List.length_append]
  have := pkAll_len 64 l (-1) (may_good l (-1) h1 h3)
  have := putR_le (l.length : Int)
  omega
end Go.Proofs.Ytepmcdcncjimeaa.VPostPacks
