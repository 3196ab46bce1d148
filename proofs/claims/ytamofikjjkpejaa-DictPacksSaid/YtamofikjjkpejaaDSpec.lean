/- Words and their order, in plain Lean, with no program in sight. -/
import Derived.Test.YtamofikjjkpejaaVSpec
import Derived.Lib.Strings
namespace Go.Proofs.Ytamofikjjkpejaa.DSpec
open Go Go.RowKit Go.Proofs.YtamofikjjkpejaaW.PrintWords Go.Proofs.YtamofikjjkpejaaW.PrintLast Go.Proofs.YtamofikjjkpejaaW.PrintMore Go.Proofs.Ytamofikjjkpejaa.VSpec

/-- A word is below another one. -/
def lt : List Int → List Int → Bool
  | [], [] => false
  | [], _ :: _ => true
  | _ :: _, [] => false
  | a :: x, b :: y => decide (a < b) || (decide (a = b) && lt x y)
theorem lt_irrefl : ∀ a, lt a a = false
  | [] => rfl
  | a :: x => by simp [lt, lt_irrefl x]
theorem lt_trans : ∀ a b c, lt a b = true → lt b c = true → lt a c = true
  | [], [], _, h, _ => by simp [lt] at h
  | [], _ :: _, [], _, h => by simp [lt] at h
  | [], _ :: _, _ :: _, _, _ => rfl
  | _ :: _, [], _, h, _ => by simp [lt] at h
  | _ :: _, _ :: _, [], _, h => by simp [lt] at h
  | a :: x, b :: y, c :: z, h, h' => by
    simp only [lt, Bool.or_eq_true, Bool.and_eq_true, decide_eq_true_eq] at h h' ⊢
    rcases h with h | ⟨rfl, h⟩
    · rcases h' with h' | ⟨rfl, h'⟩
      · exact .inl (by omega)
      · exact .inl h
    · rcases h' with h' | ⟨rfl, h'⟩
      · exact .inl h'
      · exact .inr ⟨rfl, lt_trans x y z h h'⟩
theorem lt_total : ∀ a b, lt a b = false → a ≠ b → lt b a = true
  | [], [], _, h => absurd rfl h
  | [], _ :: _, h, _ => by simp [lt] at h
  | _ :: _, [], _, _ => rfl
  | a :: x, b :: y, h, h' => by
    simp only [lt, Bool.or_eq_false_iff, Bool.and_eq_false_iff, decide_eq_false_iff_not] at h
    simp only [lt, Bool.or_eq_true, Bool.and_eq_true, decide_eq_true_eq]
    by_cases e : a = b
    · subst e
      refine .inr ⟨rfl, lt_total x y ?_ (fun q => h' (by rw [q]))⟩
      rcases h.2 with h2 | h2
      · exact absurd rfl h2
      · exact h2
    · exact .inl (by omega)
theorem lt_asymm (a b : List Int) (h : lt a b = true) : lt b a = false := by
  cases h' : lt b a with
  | false => rfl
  | true => rw [← lt_irrefl a, lt_trans a b a h h']
theorem bytesLess_lt : ∀ (x y : List UInt8), Op.bytesLess x y = lt (x.map fun b => (b.toNat : Int)) (y.map fun b => (b.toNat : Int))
  | [], [] => rfl
  | _ :: _, [] => rfl
  | [], _ :: _ => rfl
  | a :: x, b :: y => by
    rw [Op.bytesLess, bytesLess_lt x y]
    simp only [List.map_cons, lt]
    have h1 : a < b ↔ (a.toNat : Int) < (b.toNat : Int) := by rw [UInt8.lt_iff_toNat_lt]; omega
    have h2 : a = b ↔ (a.toNat : Int) = (b.toNat : Int) := by rw [← UInt8.toNat_inj]; omega
    by_cases e1 : a < b
    · have := h1.1 e1
      simp [e1, this]
    · have e1' : ¬ (a.toNat : Int) < (b.toNat : Int) := fun h => e1 (h1.2 h)
      by_cases e2 : a = b
      · subst e2
        simp
      · have e2' : ¬ (a.toNat : Int) = (b.toNat : Int) := fun h => e2 (h2.2 h)
        simp [e1, e2, e1', e2']
theorem less_eq (a b : ByteArray) : Op.bytesLess a.toList b.toList = lt (bytesOf a) (bytesOf b) := by
  rw [Lib.toList_data, Lib.toList_data, bytesLess_lt]
  rfl
theorem bytesOf_inj {a b : ByteArray} (h : bytesOf a = bytesOf b) : a = b := by
  unfold bytesOf at h
  have : a.data.toList = b.data.toList := by
    refine (List.map_inj_right (f := fun b : UInt8 => (b.toNat : Int)) (fun x y hxy => ?_)).1 h
    rw [← UInt8.toNat_inj]; omega
  obtain ⟨⟨x⟩⟩ := a
  obtain ⟨⟨y⟩⟩ := b
  simp at this
  rw [this]
theorem same_iff (a b : ByteArray) : a.toList = b.toList ↔ bytesOf a = bytesOf b := by
  rw [Lib.toList_data, Lib.toList_data]
  constructor
  · intro h; unfold bytesOf; rw [h]
  · intro h; rw [bytesOf_inj h]
theorem bytesOf_byt (a : ByteArray) : Byt (bytesOf a) := by
  intro x hx
  unfold bytesOf at hx
  obtain ⟨y, _, rfl⟩ := List.mem_map.1 hx
  have := y.toNat_lt
  omega
theorem size_eq (a : ByteArray) : a.size = (bytesOf a).length := (bytesOf_length a).symm

/-- The words of a list. -/
def ws (l : List ByteArray) : List (List Int) := l.map bytesOf
def wd (l : List ByteArray) (i : Nat) : List Int := bytesOf (rdOf ByteArray.empty l (i : Int))
theorem ws_len (l : List ByteArray) : (ws l).length = l.length := by simp [ws]
theorem ws_inj {l m : List ByteArray} (h : ws l = ws m) : l = m := (List.map_inj_right (fun _ _ => bytesOf_inj)).1 h
theorem wd_get (l : List ByteArray) (i : Nat) (h : i < l.length) : (ws l)[i]'(by rw [ws_len]; exact h) = wd l i := by
  simp [ws, wd, rdOf, List.getD_eq_getElem?_getD, List.getElem?_eq_getElem h]
theorem ws_drop (l : List ByteArray) (i : Nat) (h : i < l.length) : (ws l).drop i = wd l i :: (ws l).drop (i + 1) := by
  rw [List.drop_eq_getElem_cons (by rw [ws_len]; exact h), wd_get l i h]
theorem wd_size (l : List ByteArray) (i : Nat) : ((rdOf ByteArray.empty l (i : Int)).size : Int) = ((wd l i).length : Int) := by rw [size_eq]; rfl
theorem wd_le (l : List ByteArray) (n : Nat) (h : ∀ x ∈ l, x.size ≤ n) (i : Nat) : (wd l i).length ≤ n := by
  unfold wd rdOf
  rw [← size_eq]
  by_cases hi : i < l.length
  · rw [Int.toNat_natCast, List.getD_eq_getElem?_getD, List.getElem?_eq_getElem hi]
    exact h _ (List.getElem_mem hi)
  · rw [Int.toNat_natCast, List.getD_eq_getElem?_getD, List.getElem?_eq_none (by omega)]
    exact Nat.zero_le _

/-- Each has 1 to 32 bytes, and is above the one ahead. -/
def chk (prev : Option (List Int)) : List (List Int) → Bool
  | [] => true
  | t :: r => decide (1 ≤ t.length) && decide (t.length ≤ 32) && (match prev with | none => true | some p => lt p t) && chk (some t) r
def mayR (L : List (List Int)) : Bool := chk none L && decide (L.length ≤ 200)
def prevOf (l : List ByteArray) (i : Nat) : Option (List Int) := if i = 0 then none else some (wd l (i - 1))
theorem chk_mem : ∀ (L : List (List Int)) (p : Option (List Int)), chk p L = true → ∀ x ∈ L, 1 ≤ x.length ∧ x.length ≤ 32
  | [], _, _, _, h => by cases h
  | t :: r, p, h, x, hx => by
    simp only [chk, Bool.and_eq_true, decide_eq_true_eq] at h
    rcases List.mem_cons.1 hx with rfl | hx
    · exact ⟨h.1.1.1, h.1.1.2⟩
    · exact chk_mem r _ h.2 x hx
theorem chk_lt : ∀ (L : List (List Int)) (p : List Int), chk (some p) L = true → ∀ x ∈ L, lt p x = true
  | [], _, _, _, h => by cases h
  | t :: r, p, h, x, hx => by
    simp only [chk, Bool.and_eq_true, decide_eq_true_eq] at h
    rcases List.mem_cons.1 hx with rfl | hx
    · exact h.1.2
    · exact lt_trans p t x h.1.2 (chk_lt r t h.2 x hx)
theorem chk_sorted : ∀ (L : List (List Int)) (p : Option (List Int)), chk p L = true → L.Pairwise (fun a b => lt a b = true)
  | [], _, _ => List.Pairwise.nil
  | t :: r, p, h => by
    simp only [chk, Bool.and_eq_true, decide_eq_true_eq] at h
    exact List.Pairwise.cons (chk_lt r t h.2) (chk_sorted r _ h.2)
theorem chk_of : ∀ (L : List (List Int)), (∀ x ∈ L, 1 ≤ x.length ∧ x.length ≤ 32) → L.Pairwise (fun a b => lt a b = true) → ∀ p : Option (List Int), (∀ q, p = some q → ∀ x ∈ L, lt q x = true) → chk p L = true
  | [], _, _, _, _ => rfl
  | t :: r, h, hs, p, hp => by
    have ht := h t (List.mem_cons_self ..)
    have hs' := List.pairwise_cons.1 hs
    have := chk_of r (fun x hx => h x (List.mem_cons_of_mem _ hx)) hs'.2 (some t) (fun q e x hx => by cases e; exact hs'.1 x hx)
    simp only [chk, this, decide_eq_true ht.1, decide_eq_true ht.2, Bool.true_and, Bool.and_true]
    cases p with
    | none => rfl
    | some q => exact hp q rfl t (List.mem_cons_self ..)

/-- How many are below a word. -/
def cnt (L : List (List Int)) (t : List Int) : Nat := L.countP (fun x => lt x t)
def findR (L : List (List Int)) (t : List Int) : Int := if mayR L = true then (if t ∈ L then (cnt L t : Int) else -1) else -1
def belowR (L : List (List Int)) (t : List Int) : Int := if mayR L = true then (cnt L t : Int) else 0
theorem cnt_le (L : List (List Int)) (t : List Int) : cnt L t ≤ L.length := List.countP_le_length
/-- Of sorted words those that are below a word stand first. -/
theorem cnt_split : ∀ (L : List (List Int)) (t : List Int), L.Pairwise (fun a b => lt a b = true) → ∀ (i : Nat) (h : i < L.length), lt L[i] t = decide (i < cnt L t)
  | [], _, _, _, h => by simp at h
  | a :: r, t, hs, i, h => by
    have hs' := List.pairwise_cons.1 hs
    cases hat : lt a t with
    | true =>
      have e : cnt (a :: r) t = cnt r t + 1 := by simp [cnt, hat]
      rw [e]
      cases i with
      | zero => simp [hat]
      | succ i =>
        rw [List.getElem_cons_succ, cnt_split r t hs'.2 i (by simpa using h)]
        simp
    | false =>
      have hall : ∀ x ∈ r, lt x t = false := by
        intro x hx
        cases hxt : lt x t with
        | false => rfl
        | true => rw [← hat, lt_trans a x t (hs'.1 x hx) hxt]
      have e : cnt (a :: r) t = 0 := by
        unfold cnt
        rw [List.countP_eq_zero]
        intro x hx
        rcases List.mem_cons.1 hx with rfl | hx
        · simp [hat]
        · simp [hall x hx]
      rw [e]
      simp only [Nat.not_lt_zero, decide_false]
      cases i with
      | zero => exact hat
      | succ i => exact hall _ (List.getElem_mem _)
/-- A word that is there stands behind those that are below it. -/
theorem cnt_at (L : List (List Int)) (t : List Int) (hs : L.Pairwise (fun a b => lt a b = true)) (i : Nat) (h : i < L.length) (e : L[i] = t) : cnt L t = i := by
  have h1 := cnt_split L t hs i h
  rw [e, lt_irrefl] at h1
  have h2 : ¬ i < cnt L t := of_decide_eq_false h1.symm
  rcases Nat.lt_or_ge (cnt L t) i with h3 | h3
  · have h4 := cnt_split L t hs (cnt L t) (by omega)
    have h5 : lt L[cnt L t] L[i] = true := (List.pairwise_iff_getElem.1 hs) _ _ (by omega) h h3
    rw [e, h4] at h5
    simp at h5
  · omega
end Go.Proofs.Ytamofikjjkpejaa.DSpec
