/- What the program's Unpack tells, for the functions printed for one law. -/
import Derived.Test.YtepmcdcncjimeaaQReadPostPacks
import Derived.Test.YtepmcdcncjimeaaQGetPostPacks
namespace Go.Proofs.Ytepmcdcncjimeaa.VPostPacks
set_option linter.unusedVariables false
set_option linter.unusedSimpArgs false
open Go Go.RowKit Go.Proofs.Ytepmcdcncjimeaa.PPostPacks Go.Proofs.YtepmcdcncjimeaaW.PrintWords Go.Proofs.YtepmcdcncjimeaaW.PrintLast Go.Proofs.YtepmcdcncjimeaaW.PrintMore Go.Proofs.Ytepmcdcncjimeaa.VSpec

theorem dec_at {b : List Int} {a : Nat} (hb : Byt b) (h : a ≤ b.length) : (rNum (b.drop a) = none ∧ (decR b a).2.2 ≠ 0) ∨ ∃ n j, rNum (b.drop a) = some (n, b.drop (a + j)) ∧ Num n ∧ 0 < j ∧ a + j ≤ b.length ∧ decR b a = (n, ((a + j : Nat) : Int), 0) := by
  rw [decR_at b a h]
  unfold rNum
  cases hd : dec 5 (b.drop a) true with
  | none => exact .inl ⟨rfl, by simp⟩
  | some p =>
    obtain ⟨n, j⟩ := p
    obtain ⟨a1, a2, a3, a4, a5, a6, _⟩ := enc_dec 5 (b.drop a) true n j (hb.drop a) hd
    rw [List.length_drop] at a4
    refine .inr ⟨n, j, by simp [List.drop_drop], ⟨a1, by omega⟩, by omega, by omega, ?_⟩
    simp only [Prod.mk.injEq, true_and, and_true]
    omega
theorem num_none {b : List Int} {a : Nat} {bad : Bool} (hb : Byt b) (hm : b.length ≤ 140737488351232) (h : a ≤ b.length) (hn : rNum (b.drop a) = none) (k : Nat) (hk : 3000 ≤ k) : post_num k b a bad = some (0, (a : Int), true) := by
  unfold post_num
  rw [get_f b a hb hm k (by omega), Option.bind_some]
  rcases dec_at hb h with ⟨_, h2⟩ | ⟨n, j, h1, _⟩
  · rw [if_neg h2, if_neg h2, if_neg h2]
  · rw [hn] at h1; cases h1
theorem num_some {b : List Int} {a : Nat} {bad : Bool} (hb : Byt b) (hm : b.length ≤ 140737488351232) (h : a ≤ b.length) {n : Int} {r : List Int} (hn : rNum (b.drop a) = some (n, r)) (k : Nat) (hk : 3000 ≤ k) :
    ∃ j, r = b.drop (a + j) ∧ Num n ∧ 0 < j ∧ a + j ≤ b.length ∧ post_num k b a bad = some (n, ((a + j : Nat) : Int), bad) := by
  unfold post_num
  rw [get_f b a hb hm k (by omega), Option.bind_some]
  rcases dec_at hb h with ⟨h1, _⟩ | ⟨n', j, h1, h2, h3, h4, h5⟩
  · rw [hn] at h1; cases h1
  · rw [hn] at h1
    simp only [Option.some.injEq, Prod.mk.injEq] at h1
    obtain ⟨rfl, rfl⟩ := h1
    refine ⟨j, rfl, h2, h3, h4, ?_⟩
    rw [h5, if_pos rfl, if_pos rfl, if_pos rfl]
theorem read_shift (b : List Int) (a : Nat) (h : a ≤ b.length) : readR b a = ((readR (b.drop a) 0).1, (if (readR (b.drop a) 0).2.2 = 0 then (a : Int) + (readR (b.drop a) 0).2.1 else 0), (readR (b.drop a) 0).2.2) := by
  unfold readR
  rw [if_neg (by omega), if_neg (by simp only [List.length_drop]; omega)]
  simp only [Int.toNat_natCast, Int.toNat_zero, List.drop_zero, Nat.zero_add, List.drop_drop]
  cases dec 5 (b.drop a) true with
  | none => simp
  | some p =>
    obtain ⟨m, j⟩ := p
    simp only
    by_cases hm : m > 2000
    · rw [if_pos hm]; simp [hm]
    · rw [if_neg hm]
      simp only [hm, if_false]
      cases readS m.toNat (-1) (b.drop (a + j)) with
      | none => simp
      | some q =>
        simp only [if_true, Prod.mk.injEq, true_and, and_true]
        omega
theorem lst_none {b : List Int} {a : Nat} {bad : Bool} (hb : Byt b) (hm : b.length ≤ 140737488351232) (h : a ≤ b.length) (hn : rList (b.drop a) = none) (k : Nat) (hk : 3000 ≤ k) : post_lst k b a bad = some ([], (a : Int), true) := by
  unfold post_lst
  rw [read_f b a hb hm k (by omega), Option.bind_some, read_shift b a h]
  unfold rList at hn
  split at hn
  · cases hn
  · rename_i h0
    simp only [h0, if_false]
theorem lst_some {b : List Int} {a : Nat} {bad : Bool} (hb : Byt b) (hm : b.length ≤ 140737488351232) (h : a ≤ b.length) {l r : List Int} (hn : rList (b.drop a) = some (l, r)) (k : Nat) (hk : 3000 ≤ k) :
    ∃ j, r = b.drop (a + j) ∧ a + j ≤ b.length ∧ post_lst k b a bad = some (l, ((a + j : Nat) : Int), bad) := by
  unfold post_lst
  rw [read_f b a hb hm k (by omega), Option.bind_some, read_shift b a h]
  unfold rList at hn
  split at hn
  · rename_i h0
    obtain ⟨_, q, h1, h2, h3, h4⟩ := readR_ok (hb.drop a) h0
    simp only [Int.toNat_zero, Nat.zero_add, List.length_drop] at h1 h3
    simp only [Option.some.injEq, Prod.mk.injEq] at hn
    obtain ⟨rfl, rfl⟩ := hn
    refine ⟨q, by rw [h1, Int.toNat_natCast, List.drop_drop], by omega, ?_⟩
    simp only [h0, if_true, h1, Option.some.injEq, Prod.mk.injEq, true_and, and_true]
    omega
  · cases hn
/-- What a cut's reading hands back, whatever the bytes. -/
theorem pread_l0 (b : List Int) (hb : Byt b) (hm : b.length ≤ 140737488351232) (last : Int) (many : Nat) (hmm : many ≤ 4) : ∀ (d k i a : Nat) (ahead : Int) (out : List S39) (bad : Bool), d = many - i → i ≤ many → a ≤ b.length → out.length + d ≤ 1000 → -1 ≤ ahead → ahead ≤ 34359738368 * (i + 2 : Int) → 3000 + d < k →
    ∃ L, L.length = d ∧ post_read.l0 k b last (many : Int) out (i : Int) ahead (a : Int) bad = some (out ++ L, if bad = true then true else !(match rPosts d ahead (b.drop a) with | none => false | some (l, r) => decide (r = []) && decide (lastD ahead l = last))) ∧ (bad = false → ∀ l r, rPosts d ahead (b.drop a) = some (l, r) → L = l)
  | 0, k, i, a, ahead, out, bad, hd, hi, ha, ho, h0, h1, hk => by
    obtain ⟨k, rfl⟩ : ∃ m, k = m + 1 := ⟨k - 1, by omega⟩
    refine ⟨[], rfl, ?_, fun _ l r h => by simp only [rPosts, Option.some.injEq, Prod.mk.injEq] at h; exact h.1⟩
    simp only [post_read.l0, rPosts, lastD, List.append_nil]
    rw [if_neg (by omega)]
    cases bad
    · have e1 : ((a : Int) == (b.length : Int)) = decide (b.drop a = []) := by
        rw [Bool.eq_iff_iff]
        simp only [beq_iff_eq, decide_eq_true_eq, List.drop_eq_nil_iff]
        omega
      have e2 : (ahead != last) = !decide (ahead = last) := by
        rw [Bool.eq_iff_iff]
        simp
      rw [e1, e2]
      by_cases h2 : b.drop a = [] <;> by_cases h3 : ahead = last <;> simp [h2, h3]
    · rfl
  | d + 1, k, i, a, ahead, out, bad, hd, hi, ha, ho, h0, h1, hk => by
    obtain ⟨k, rfl⟩ : ∃ m, k = m + 1 := ⟨k - 1, by omega⟩
    have hstep : ∀ s : Int, 0 ≤ s → s ≤ 34359738367 → wrap64 (ahead + (wrap64 (1 + s))) = ahead + s + 1 := fun s s0 s1 => by
      rw [w64 (x := 1 + s) (by omega) (by omega), w64 (by omega) (by omega)]; omega
    have hw : wrap64 ((i : Int) + 1) = ((i + 1 : Nat) : Int) := w64n (i + 1) (by omega) (by omega)
    simp only [post_read.l0]
    rw [if_pos (by omega)]
    cases hn : rNum (b.drop a) with
    | none =>
      rw [num_none hb hm ha hn k (by omega), Option.bind_some]
      simp only
      obtain ⟨q1, a2, b2, hq, ha2⟩ : ∃ q1 a2, ∃ b2 : Bool, post_lst k b (a : Int) true = some (q1, ((a2 : Nat) : Int), true) ∧ a2 ≤ b.length := by
        cases hl : rList (b.drop a) with
        | none => exact ⟨[], a, true, lst_none hb hm ha hl k (by omega), ha⟩
        | some p =>
          obtain ⟨l, r⟩ := p
          obtain ⟨j, _, h2, h3⟩ := lst_some (bad := true) hb hm ha hl k (by omega)
          exact ⟨l, a + j, true, h3, h2⟩
      rw [hq, Option.bind_some]
      simp only
      rw [if_pos (by omega), hw, hstep 0 (by omega) (by omega)]
      obtain ⟨L, hL, hrun, _⟩ := pread_l0 b hb hm last many hmm d k (i + 1) a2 (ahead + 0 + 1) (out ++ [⟨ahead + 0 + 1, q1⟩]) true (by omega) (by omega) ha2 (by rw [List.length_append, List.length_singleton]; omega) (by omega) (by omega) (by omega)
      refine ⟨⟨ahead + 0 + 1, q1⟩ :: L, by rw [List.length_cons, hL], ?_, fun hbd l r h => by rw [rPosts, hn] at h; cases h⟩
      rw [hrun, if_pos rfl, rPosts, hn]
      cases bad <;> simp
    | some p =>
      obtain ⟨s, r1⟩ := p
      obtain ⟨j, hr, hnum, hj, haj, hpn⟩ := num_some (bad := bad) hb hm ha hn k (by omega)
      have s0 := hnum.1
      have s1 := hnum.2
      subst hr
      rw [hpn, Option.bind_some]
      simp only
      cases hl : rList (b.drop (a + j)) with
      | none =>
        rw [lst_none hb hm haj hl k (by omega), Option.bind_some]
        simp only
        rw [if_pos (by omega), hw, hstep s s0 s1]
        obtain ⟨L, hL, hrun, _⟩ := pread_l0 b hb hm last many hmm d k (i + 1) (a + j) (ahead + s + 1) (out ++ [⟨ahead + s + 1, []⟩]) true (by omega) (by omega) haj (by rw [List.length_append, List.length_singleton]; omega) (by omega) (by omega) (by omega)
        refine ⟨⟨ahead + s + 1, []⟩ :: L, by rw [List.length_cons, hL], ?_, fun hbd l r h => by rw [rPosts, hn] at h; simp only at h; rw [hl] at h; cases h⟩
        rw [hrun, if_pos rfl, rPosts, hn]
        simp only
        rw [hl]
        cases bad <;> simp
      | some q =>
        obtain ⟨l1, r2⟩ := q
        obtain ⟨j2, hr2, haj2, hpl⟩ := lst_some (bad := bad) hb hm haj hl k (by omega)
        subst hr2
        rw [hpl, Option.bind_some]
        simp only
        rw [if_pos (by omega), hw, hstep s s0 s1]
        obtain ⟨L, hL, hrun, heq⟩ := pread_l0 b hb hm last many hmm d k (i + 1) (a + j + j2) (ahead + s + 1) (out ++ [⟨ahead + s + 1, l1⟩]) bad (by omega) (by omega) haj2 (by rw [List.length_append, List.length_singleton]; omega) (by omega) (by omega) (by omega)
        refine ⟨⟨ahead + s + 1, l1⟩ :: L, by rw [List.length_cons, hL], ?_, fun hbd l r h => ?_⟩
        · rw [hrun, rPosts, hn]
          simp only
          rw [hl]
          simp only
          cases rPosts d (ahead + s + 1) (b.drop (a + j + j2)) with
          | none => simp
          | some q => by_cases e1 : q.2 = [] <;> by_cases e2 : lastD (ahead + s + 1) q.1 = last <;> simp [lastD, e1, e2]
        · rw [rPosts, hn] at h
          simp only at h
          rw [hl] at h
          simp only at h
          obtain ⟨⟨l', r'⟩, hp, he⟩ := Option.map_eq_some_iff.1 h
          simp only [Prod.mk.injEq] at he
          obtain ⟨rfl, rfl⟩ := he
          rw [heq hbd l' r' hp]
theorem Byt.drop_take {b : List Int} (h : Byt b) (i j : Nat) : Byt ((b.take j).drop i) := (h.take j).drop i
theorem blk_bad {b : List Int} {a : Nat} (hb : Byt b) (hm : b.length ≤ 140737488351232) (h : a ≤ b.length) (hn : rNum (b.drop a) = none ∨ ∃ last r, rNum (b.drop a) = some (last, r) ∧ (rNum r = none ∨ ∃ n r2, rNum r = some (n, r2) ∧ (r2.length : Int) < n)) (k : Nat) (hk : 3000 ≤ k) :
    ∃ a2 : Nat, a2 ≤ b.length ∧ post_block k b (a : Int) false = some ([], 0, (a2 : Int), true) := by
  unfold post_block
  rcases hn with hn | ⟨last, r, hn, h2⟩
  · rw [num_none hb hm h hn k hk, Option.bind_some]
    simp only
    rw [num_none hb hm h hn k hk, Option.bind_some]
    simp only
    rw [if_pos trivial]
    exact ⟨a, h, rfl⟩
  · obtain ⟨j, rfl, n1, hj, haj, hp⟩ := num_some (bad := false) hb hm h hn k hk
    rw [hp, Option.bind_some]
    simp only
    rcases h2 with h2 | ⟨n, r2, h2, h3⟩
    · rw [num_none hb hm haj h2 k hk, Option.bind_some]
      simp only
      rw [if_pos trivial]
      exact ⟨a + j, haj, rfl⟩
    · obtain ⟨j2, rfl, n2, hj2, haj2, hp2⟩ := num_some (bad := false) hb hm haj h2 k hk
      rw [hp2, Option.bind_some]
      simp only
      rw [List.length_drop] at h3
      rw [if_neg (by decide), if_pos (by rw [w64 (by omega) (by omega)]; omega)]
      exact ⟨a + j + j2, haj2, rfl⟩
theorem blk_ok {b : List Int} {a : Nat} (hb : Byt b) (hm : b.length ≤ 140737488351232) (h : a ≤ b.length) {last n : Int} {r r2 : List Int} (hn : rNum (b.drop a) = some (last, r)) (h2 : rNum r = some (n, r2)) (h3 : n ≤ (r2.length : Int)) (k : Nat) (hk : 3000 ≤ k) :
    ∃ a2 : Nat, a2 ≤ b.length ∧ r2.drop n.toNat = b.drop a2 ∧ Num last ∧ post_block k b (a : Int) false = some (r2.take n.toNat, last, (a2 : Int), false) := by
  unfold post_block
  obtain ⟨j, rfl, n1, hj, haj, hp⟩ := num_some (bad := false) hb hm h hn k hk
  rw [hp, Option.bind_some]
  simp only
  obtain ⟨j2, rfl, n2, hj2, haj2, hp2⟩ := num_some (bad := false) hb hm haj h2 k hk
  have hn0 := n2.1
  obtain ⟨n, rfl⟩ := Int.eq_ofNat_of_zero_le hn0
  rw [List.length_drop] at h3
  rw [hp2, Option.bind_some]
  simp only
  rw [if_neg (by decide), w64 (x := (b.length : Int) - ((a + j + j2 : Nat) : Int)) (by omega) (by omega), if_neg (by omega), if_pos (by omega), w64n (x := ((a + j + j2 : Nat) : Int) + (n : Int)) (a + j + j2 + n) (by omega) (by omega), if_pos (by omega), if_pos (by omega)]
  refine ⟨a + j + j2 + n, by omega, by rw [Int.toNat_natCast, List.drop_drop], n1, ?_⟩
  simp only [Int.toNat_natCast, Option.some.injEq, Prod.mk.injEq, true_and, and_true]
  rw [List.drop_take]
  congr 1
  omega
theorem rPosts_at : ∀ (m : Nat) (a : Int) (b : List Int) (l : List S39) (r : List Int), Byt b → rPosts m a b = some (l, r) → ∀ p ∈ l, p.f1.length ≤ 140737488355328
  | 0, a, b, l, r, _, h => by
    simp only [rPosts, Option.some.injEq, Prod.mk.injEq] at h
    obtain ⟨rfl, rfl⟩ := h
    intro p hp
    cases hp
  | m + 1, a, b, l, r, hb, h => by
    rw [rPosts] at h
    cases hn : rNum b with
    | none => rw [hn] at h; cases h
    | some q =>
      obtain ⟨s, r1⟩ := q
      obtain ⟨_, e1⟩ := rNum_ok hb hn
      rw [hn] at h
      simp only at h
      have hb1 : Byt r1 := fun x hx => hb x (by rw [e1]; exact List.mem_append_right _ hx)
      cases hl : rList r1 with
      | none => rw [hl] at h; cases h
      | some q =>
        obtain ⟨at_, r2⟩ := q
        obtain ⟨_, e2⟩ := rList_ok hb1 hl
        have hlen : at_.length ≤ 2000 := by
          unfold rList at hl
          split at hl
          · simp only [Option.some.injEq, Prod.mk.injEq] at hl
            rw [← hl.1]
            exact readR_len hb1
          · cases hl
        rw [hl] at h
        simp only at h
        obtain ⟨⟨l', r'⟩, hr, he⟩ := Option.map_eq_some_iff.1 h
        simp only [Prod.mk.injEq] at he
        obtain ⟨rfl, rfl⟩ := he
        have hb2 : Byt r2 := fun x hx => hb1 x (by rw [e2]; exact List.mem_append_right _ hx)
        intro p hp
        rcases List.mem_cons.1 hp with rfl | hp
        · exact Nat.le_trans hlen (by omega)
        · exact rPosts_at m _ r2 l' r' hb2 hr p hp
theorem unp_bad (k : Nat) (b : List Int) (n : Int) (out : List S39) (ahead at_ : Int) : post_Unpack.l0 (k + 1) b n out ahead at_ true = some ([], 5) := by
  simp only [post_Unpack.l0]
  rw [if_pos trivial]
  unfold post_Unpack.fin
  rw [if_pos rfl]
theorem unp_l0 (b : List Int) (hb : Byt b) (hm : b.length ≤ 140737488351232) (n : Nat) (hn : n ≤ 64) : ∀ (f k a : Nat) (ahead : Int) (out : List S39), out.length ≤ n → n - out.length ≤ f → a ≤ b.length → -1 ≤ ahead → ahead ≤ 34359738367 → 4000 + f < k → (∀ p ∈ out, p.f1.length ≤ 140737488355328) →
    post_Unpack.l0 k b (n : Int) out ahead (a : Int) false = some (match rAll f (n - out.length) ahead (b.drop a) with
      | none => ([], 5)
      | some (L, r) => if r = [] ∧ mayR (out ++ L) = true then (out ++ L, 0) else ([], 5))
  | f, k, a, ahead, out, ho, hf, ha, h0, h1, hk, hat => by
    obtain ⟨k, rfl⟩ : ∃ m, k = m + 1 := ⟨k - 1, by omega⟩
    simp only [post_Unpack.l0]
    rw [if_neg (by decide), if_pos (by omega)]
    by_cases hlt : out.length < n
    · obtain ⟨f, rfl⟩ : ∃ m, f = m + 1 := ⟨f - 1, by omega⟩
      rw [if_pos (by omega)]
      have hmany : mn 4 (wrap64 ((n : Int) - (out.length : Int))) = ((min 4 (n - out.length) : Nat) : Int) := by
        rw [w64 (by omega) (by omega)]
        unfold mn
        split <;> omega
      rw [hmany]
      have hm4 : min 4 (n - out.length) ≤ 4 := by omega
      have hbadcase : (∃ a2 : Nat, a2 ≤ b.length ∧ post_block k b (a : Int) false = some ([], 0, (a2 : Int), true)) →
          ((post_block k b (a : Int) false).bind fun x => (post_read.l0 k x.1 x.2.1 ((min 4 (n - out.length) : Nat) : Int) [] 0 ahead 0 false).bind fun r => if out.length + r.1.length < 4398046511104 then post_Unpack.l0 k b (n : Int) (out ++ r.1) x.2.1 x.2.2.1 (if x.2.2.2 = true then true else r.2) else none) = some ([], 5) := by
        rintro ⟨a2, _, hp⟩
        rw [hp, Option.bind_some]
        simp only
        obtain ⟨L, hL, hrun, _⟩ := pread_l0 [] Byt.nil (by simp) 0 (min 4 (n - out.length)) hm4 (min 4 (n - out.length)) k 0 0 ahead [] false (by omega) (by omega) (by simp) (by simp; omega) h0 (by omega) (by omega)
        simp only [Int.natCast_zero] at hrun
        rw [hrun, Option.bind_some]
        simp only [List.nil_append]
        rw [if_pos (by omega), if_pos trivial]
        obtain ⟨k, rfl⟩ : ∃ m, k = m + 1 := ⟨k - 1, by omega⟩
        exact unp_bad k b _ _ _ _
      simp only [rAll]
      rw [if_neg (by omega)]
      unfold rBlock
      cases hq : rNum (b.drop a) with
      | none => exact hbadcase (blk_bad hb hm ha (.inl hq) k (by omega))
      | some q =>
        obtain ⟨last, r⟩ := q
        simp only
        cases hq2 : rNum r with
        | none => exact hbadcase (blk_bad hb hm ha (.inr ⟨last, r, hq, .inl hq2⟩) k (by omega))
        | some q =>
          obtain ⟨m, r2⟩ := q
          simp only
          by_cases hle : m ≤ (r2.length : Int)
          · rw [if_pos hle]
            obtain ⟨a2, ha2, hdr, hnum, hp⟩ := blk_ok hb hm ha hq hq2 hle k (by omega)
            obtain ⟨j, hjr, _, _, _, _⟩ := num_some (bad := false) hb hm ha hq k (by omega)
            have hbr : Byt r := by rw [hjr]; exact hb.drop _
            obtain ⟨n2, e2⟩ := rNum_ok hbr hq2
            have hb2 : Byt r2 := fun x hx => hbr x (by rw [e2]; exact List.mem_append_right _ hx)
            have hr2 : r2.length ≤ b.length := by
              have h5 := congrArg List.length e2
              have h6 := congrArg List.length hjr
              rw [List.length_append] at h5
              rw [List.length_drop] at h6
              omega
            obtain ⟨L, hL, hrun, heq⟩ := pread_l0 (r2.take m.toNat) (hb2.take _) (by rw [List.length_take]; omega) last (min 4 (n - out.length)) hm4 (min 4 (n - out.length)) k 0 0 ahead [] false (by omega) (by omega) (by simp) (by simp; omega) h0 (by omega) (by omega)
            rw [hp, Option.bind_some]
            simp only
            simp only [Int.natCast_zero] at hrun
            rw [hrun, Option.bind_some]
            simp only [List.nil_append, Bool.false_eq_true, if_false, List.drop_zero]
            rw [if_pos (by omega)]
            unfold rBody
            cases hrp : rPosts (min 4 (n - out.length)) ahead (r2.take m.toNat) with
            | none =>
              simp only [Bool.not_false]
              obtain ⟨k, rfl⟩ : ∃ m, k = m + 1 := ⟨k - 1, by omega⟩
              exact unp_bad k b _ _ _ _
            | some q =>
              obtain ⟨l, r3⟩ := q
              simp only
              by_cases hc : r3 = [] ∧ lastD ahead l = last
              · rw [if_pos hc, decide_eq_true hc.1, decide_eq_true hc.2]
                have hLl := heq rfl l r3 (by rw [List.drop_zero]; exact hrp)
                subst hLl
                have hok := rPosts_ok _ ahead _ L r3 (hb2.take _) h0 (by omega) hrp
                have hatL : ∀ p ∈ L, p.f1.length ≤ 140737488355328 := rPosts_at _ _ _ _ _ (hb2.take _) hrp
                simp only [Bool.and_self, Bool.not_true]
                rw [unp_l0 b hb hm n hn f k a2 last (out ++ L) (by rw [List.length_append]; omega) (by rw [List.length_append]; omega) ha2 (by have := hnum.1; omega) hnum.2 (by omega) (fun p hp => (List.mem_append.1 hp).elim (hat p) (hatL p))]
                rw [hdr, List.length_append, show n - (out.length + L.length) = n - out.length - min 4 (n - out.length) by omega]
                cases rAll f (n - out.length - min 4 (n - out.length)) last (b.drop a2) with
                | none => rfl
                | some q => simp only [Option.map_some, List.append_assoc]
              · rw [if_neg hc]
                have e1 : (decide (r3 = []) && decide (lastD ahead l = last)) = false := by
                  rw [Bool.eq_false_iff]
                  intro e
                  rw [Bool.and_eq_true, decide_eq_true_eq, decide_eq_true_eq] at e
                  exact hc e
                rw [e1]
                simp only [Bool.not_false]
                obtain ⟨k, rfl⟩ : ∃ m, k = m + 1 := ⟨k - 1, by omega⟩
                exact unp_bad k b _ _ _ _
          · rw [if_neg hle]
            exact hbadcase (blk_bad hb hm ha (.inr ⟨last, r, hq, .inr ⟨m, r2, hq2, by omega⟩⟩) k (by omega))
    · have hon : out.length = n := by omega
      rw [if_neg (by omega), hon, Nat.sub_self]
      have e0 : rAll f 0 ahead (b.drop a) = some ([], b.drop a) := by cases f <;> rfl
      rw [e0]
      simp only [List.append_nil]
      unfold post_Unpack.fin
      rw [if_neg (by decide)]
      by_cases hal : (a : Int) = (b.length : Int)
      · rw [if_pos hal, if_pos (by omega), may_f out (by omega) hat k (by omega), Option.bind_some]
        have hd : b.drop a = [] := List.drop_eq_nil_of_le (by omega)
        cases hmo : mayR out
        · rw [if_neg (by decide), if_neg (fun h => by cases h.2)]
        · rw [if_pos rfl, if_pos ⟨hd, rfl⟩]
      · rw [if_neg hal, if_neg (fun h => by have := List.drop_eq_nil_iff.1 h.1; omega)]
termination_by f => f
theorem unpack_f (b : List Int) (hb : Byt b) (hm : b.length ≤ 140737488351232) : post_Unpack.f b = some (unpackR b) := by
  unfold post_Unpack.f post_Unpack.g unpackR rWhole
  cases hq : rNum b with
  | none =>
    have := num_none (bad := false) (a := 0) hb hm (by omega) (by rw [List.drop_zero]; exact hq) 100000 (by omega)
    simp only [Int.natCast_zero] at this
    rw [this, Option.bind_some]
    exact unp_bad _ _ _ _ _ _
  | some q =>
    obtain ⟨n, r⟩ := q
    obtain ⟨j, rfl, hn, hj, haj, hp⟩ := num_some (bad := false) (a := 0) hb hm (by omega) (by rw [List.drop_zero]; exact hq) 100000 (by omega)
    simp only [Int.natCast_zero] at hp
    rw [hp, Option.bind_some]
    simp only
    obtain ⟨n, rfl⟩ := Int.eq_ofNat_of_zero_le hn.1
    by_cases h64 : ((n : Nat) : Int) ≤ 64
    · rw [if_pos h64, unp_l0 b hb hm n (by omega) 64 100000 (0 + j) (-1) [] (by simp) (by simp; omega) haj (by omega) (by omega) (by omega) (fun p h => by cases h)]
      simp only [List.length_nil, Nat.sub_zero, List.nil_append, Int.toNat_natCast]
      cases rAll 64 n (-1) (b.drop (0 + j)) with
      | none => rfl
      | some q => rfl
    · obtain ⟨k, hk⟩ : ∃ k, (100000 : Nat) = k + 1 := ⟨99999, rfl⟩
      rw [if_neg h64, hk]
      simp only [post_Unpack.l0]
      rw [if_neg (by decide), if_neg h64]
      unfold post_Unpack.fin
      rw [if_neg (by decide)]
      split
      · rw [if_neg (by simp; omega)]
      · rfl
end Go.Proofs.Ytepmcdcncjimeaa.VPostPacks
