/- Arguments of any printed kind, opened: what the row's reading of an argument says of the value, for whole numbers, bools, strings, structs of two fields, and slices of them. -/
import Derived.Test.YtepmcdcncjimeaaWMore
import Derived.ChangeSame
import Derived.ChangeSlices
import Derived.DataElems
import Derived.SizedLaws
import Derived.Carry
namespace Go.Proofs.Ytepmcdcncjimeaa.Opens
open Go Go.RowKit Go.ChangeShapes Go.WideShapes Go.Proofs.YtepmcdcncjimeaaW.PrintWords Go.Proofs.YtepmcdcncjimeaaW.PrintLast Go.Proofs.YtepmcdcncjimeaaW.PrintMore

/-- Whatever is read as type t is an element of kind K, and a good one. -/
def Opens {α : Type} (P : Program) (K : Kd α) (t : TypeId) (G : α → Prop) : Prop :=
  ∀ {H : Type} {enc : TypeId × Value → H} {W : World} {base : Nat} {sp : Nat → Bool} {held : Bool} {fuel : Nat} {cs : List Value} {x : DataW H × List MemPlace},
    DataW.trod enc P W base sp held fuel t cs = some x → (∀ n ∈ x.1.weights P t, n ≤ reachBytes) → ∃ a : α, K.K W a cs ∧ G a

section
variable {P : Program} {t : TypeId}
theorem opens_int {k : IntKind} (hu : P.underlying t = some (.int k)) : Opens P (Kd.int k) t (fun n => (Lit.int k n).wf = true) := by
  intro H enc W base sp held fuel cs x h _
  obtain ⟨n, rfl, _, hw⟩ := DataW.trod_int hu h
  exact ⟨n, rfl, hw⟩
theorem opens_bool (hu : P.underlying t = some .bool) : Opens P Kd.bool t (fun _ => True) := by
  intro H enc W base sp held fuel cs x h _
  obtain ⟨b, rfl, _⟩ := DataW.trod_bool hu h
  exact ⟨b, rfl, trivial⟩
theorem opens_string (hu : P.underlying t = some .string) : Opens P Kd.string t (fun s => s.size ≤ 140737488351232) := by
  intro H enc W base sp held fuel cs x h hs
  obtain ⟨s, rfl, hx, _⟩ := DataW.trod_string hu h
  refine ⟨s, rfl, ?_⟩
  have := hs s.data.toList.length (by rw [hx]; simp [DataW.weights])
  simpa [reachBytes] using this
theorem opens_iso {α β : Type} {K : Kd α} {G : α → Prop} (f : β → α) (g : α → β) (hfg : ∀ a, f (g a) = a) (h : Opens P K t G) : Opens P (Kd.iso K f) t (fun b => G (f b)) := by
  intro H enc W base sp held fuel cs x hx hs
  obtain ⟨a, ha, hG⟩ := h hx hs
  refine ⟨g a, ?_, ?_⟩
  · show K.K W (f (g a)) cs
    rw [hfg]; exact ha
  · show G (f (g a))
    rw [hfg]; exact hG
/-- A struct of two fields, one behind the other. -/
theorem opens_pair {α β : Type} {K : Kd α} {L : Kd β} {G : α → Prop} {G' : β → Prop} {f0 f1 : Field} (hu : P.underlying t = some (.struct #[f0, f1])) (o0 : f0.offset = 0) (o1 : f1.offset = P.cellsOf f0.type)
    (hc : P.cellsOf t = P.cellsOf f0.type + P.cellsOf f1.type) (h : Opens P K f0.type G) (h' : Opens P L f1.type G') : Opens P (Kd.pair K L) t (fun p => G p.1 ∧ G' p.2) := by
  intro H enc W base sp held fuel cs x hx hs
  obtain ⟨y0, y1, n, rfl, hl, t0, t1⟩ := trod_struct2 hu hx
  have hw : ∀ n, n ∈ y0.1.weights P f0.type ∨ n ∈ y1.1.weights P f1.type → n ≤ reachBytes := by
    intro n hn
    refine hs n ?_
    simp only [DataW.weights, hu, DataW.weightsEach, List.map_cons, List.map_nil, List.append_nil, List.mem_append]
    exact hn
  obtain ⟨a, ha, hG⟩ := h t0 (fun n hn => hw n (.inl hn))
  obtain ⟨b, hb, hG'⟩ := h' t1 (fun n hn => hw n (.inr hn))
  refine ⟨(a, b), ⟨_, _, ?_, ha, hb⟩, hG, hG'⟩
  rw [o0, o1, List.drop_zero]
  have : (cs.drop (P.cellsOf f0.type)).take (P.cellsOf f1.type) = cs.drop (P.cellsOf f0.type) := List.take_of_length_le (by rw [List.length_drop]; omega)
  rw [this, List.take_append_drop]
theorem list_of {α : Type} {Q : Nat → α → Prop} : ∀ (n : Nat), (∀ i, i < n → ∃ a, Q i a) → ∃ l : List α, l.length = n ∧ ∀ i a, l[i]? = some a → Q i a
  | 0, _ => ⟨[], rfl, by simp⟩
  | n + 1, h => by
    obtain ⟨l, hl, hq⟩ := list_of n (fun i hi => h i (by omega))
    obtain ⟨a, ha⟩ := h n (by omega)
    refine ⟨l ++ [a], by simp [hl], fun i b hb => ?_⟩
    by_cases hi : i < n
    · rw [List.getElem?_append_left (by omega)] at hb
      exact hq i b hb
    · by_cases he : i = n
      · subst he
        rw [List.getElem?_append_right (by omega), hl, Nat.sub_self] at hb
        simp at hb
        subst hb
        exact ha
      · rw [List.getElem?_eq_none (by simp; omega)] at hb
        cases hb
theorem weights_mem {H : Type} {e : TypeId} {n : Nat} : ∀ {l : List (DataW H)} {d : DataW H}, d ∈ l → n ∈ d.weights P e → n ∈ DataW.weightsAll P e l
  | d0 :: l, d, hd, hn => by
    simp only [DataW.weightsAll, List.mem_append]
    rcases List.mem_cons.1 hd with rfl | hd
    · exact .inl hn
    · exact .inr (weights_mem hd hn)
theorem opens_slice {α : Type} {K : Kd α} {G : α → Prop} {e : TypeId} (B : Nat) (hu : P.underlying t = some (.slice e)) (hz : P.cellsOf e = K.sz) (hB : P.bytesOf e = B) (h : Opens P K e G) :
    Opens P (Kd.slice e K) t (fun l => l.length * B ≤ 140737488351232 ∧ ∀ x ∈ l, G x) := by
  intro H enc W base sp held fuel cs x hx hs
  rcases DataW.trod_slice hu hx with ⟨rfl, _⟩ | ⟨a, len, cap, elems, rest, n, _, rfl, rfl, hb, hl, hm, hlen, hel, _, _⟩
  · exact ⟨[], ⟨none, 0, rfl, Nat.le_refl _, rfl, by simp, fun h => absurd h (Nat.lt_irrefl 0)⟩, by simp, by simp⟩
  · have each : ∀ i, i < len → ∃ p : α, ∃ c, c.length = K.sz ∧ K.K W p c ∧ (∀ j u, c[j]? = some u → W.cell? (a.add (i * K.sz + j)) = some u) ∧ G p := by
      intro i hi
      have h1 := hel i hi
      rw [List.getElem?_eq_getElem (by omega), Option.bind_eq_some_iff] at h1
      obtain ⟨c, hc, ht⟩ := h1
      obtain ⟨_, c1, c2⟩ := World.cells?_some hc
      have hw : ∀ n ∈ (elems[i]'(by omega)).1.weights P e, n ≤ reachBytes := by
        intro n hn
        refine hs n ?_
        simp only [DataW.weights, hu, List.mem_cons, List.mem_append]
        exact .inr (.inl (weights_mem (List.mem_map.2 ⟨_, List.getElem_mem .., rfl⟩) hn))
      obtain ⟨p, hp, hG⟩ := h ht hw
      refine ⟨p, c, by omega, hp, fun j u hj => ?_, hG⟩
      have hjl := (List.getElem?_eq_some_iff.1 hj).1
      have := c2 j (by omega)
      rw [hz, Addr.add_add, hj] at this
      exact this
    obtain ⟨l, hll, hq⟩ := list_of len each
    have hsize : (elems.length + rest.length) * B ≤ 140737488351232 := by
      have := hs ((elems.length + rest.length) * B) (by simp [DataW.weights, hu, hB])
      simpa [reachBytes] using this
    have hbd : len * B ≤ (elems.length + rest.length) * B := Nat.mul_le_mul_right _ (by omega)
    have hlenm : len ≤ 9223372036854775807 := by simp only [maxLen] at hm; omega
    refine ⟨l, ⟨some a, cap, by rw [hll], by omega, rfl, by omega, fun _ => ⟨a, rfl, fun j p hp => ?_⟩⟩, by rw [hll]; omega, fun p hp => ?_⟩
    · obtain ⟨c, k1, k2, k3, _⟩ := hq j p hp
      exact ⟨c, k1, k2, k3⟩
    · obtain ⟨i, hi⟩ := List.getElem?_of_mem hp
      obtain ⟨_, _, _, _, k4⟩ := hq i p hi
      exact k4
end

/-! ### A row's argument, by its reading -/
section
variable {H : Type} {enc : TypeId × Value → H} {P : Program} {W : World} {sp : Nat → Bool} {held : Bool} {t : TypeId} {v : Value} {d : DataW H} {ps : List MemPlace} {ts : List TypeId} {ds : List (DataW H)} {j : Nat} {r : Reach} {b0 : Nat}
theorem arg_of {α : Type} {K : Kd α} {G : α → Prop} (h : Opens P K t G) (hd : DataW.Trod enc P W 0 sp held t v d ps) (hsz : (DataW.weightsEach P ts ds).all (· ≤ reachBytes) = true) (ht : ts[j]? = some t) (hj : ds[j]? = some d) :
    ∃ a : α, K.K W a v.cells.toList ∧ G a := by
  obtain ⟨fuel, hf⟩ := hd
  exact h hf (fun n hn => by simpa using List.all_eq_true.1 hsz n (DataW.weights_mem_each ht hj n hn))
/-- A slice that came in. -/
theorem arg_slice {α : Type} {K : Kd α} {G : List α → Prop} {e : TypeId} (hu : P.underlying t = some (.slice e)) (h : Opens P (Kd.slice e K) t G) (hval : Value.okWide P W r b0 t v) (hd : DataW.Trod enc P W 0 sp held t v d ps)
    (hsz : (DataW.weightsEach P ts ds).all (· ≤ reachBytes) = true) (ht : ts[j]? = some t) (hj : ds[j]? = some d) : ∃ (A : Option Addr) (c : Nat) (l : List α), v = .slice A l.length c ∧ l.length ≤ c ∧ Kd.C K W A l.length l ∧ G l := by
  obtain ⟨A0, n0, c0, rfl⟩ := okWide_slice hu hval
  obtain ⟨l, ⟨A, c, hcs, hc, hC⟩, hG⟩ := arg_of h hd hsz ht hj
  simp [Value.cells] at hcs
  obtain ⟨rfl, rfl, rfl⟩ := hcs
  exact ⟨A0, c0, l, rfl, hc, hC, hG⟩
/-- Any other one: by its cells. -/
theorem arg_struct {α : Type} {K : Kd α} {G : α → Prop} {fs : Array Field} (hu : P.underlying t = some (.struct fs)) (h : Opens P K t G) (hval : Value.okWide P W r b0 t v) (hd : DataW.Trod enc P W 0 sp held t v d ps)
    (hsz : (DataW.weightsEach P ts ds).all (· ≤ reachBytes) = true) (ht : ts[j]? = some t) (hj : ds[j]? = some d) : ∃ (a : α) (cs : List Value), v = .agg cs.toArray ∧ K.K W a cs ∧ G a := by
  obtain ⟨cs, rfl, _⟩ := okWide_struct hu hval
  obtain ⟨a, ha, hG⟩ := arg_of h hd hsz ht hj
  exact ⟨a, cs.toList, rfl, ha, hG⟩
end
end Go.Proofs.Ytepmcdcncjimeaa.Opens
