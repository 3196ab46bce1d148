/- '[]byte("..")' of a constant, behind a literal's row of the walk's own: the row gets the run-time's mark, and the value goes on to be read. -/
import Derived.Test.YtoedahdhlcagkaaWWords
import Derived.Test.YtoedahdhlcagkaaWLast
import Derived.Test.YtoedahdhlcagkaaWMore
import Derived.Tactics
namespace Go.Proofs.YtoedahdhlcagkaaW.PrintWords
open Go Go.RowKit
theorem freeze_far (w : World) (g n k : Nat) (h : k ≠ g) : (w.freeze ⟨g, n, none⟩ 1).heap[k]? = w.heap[k]? := by
  unfold World.freeze
  rw [if_neg (by decide)]
  show (w.heap.modify g _)[k]? = _
  rw [Array.getElem?_modify, if_neg (fun e => h e.symm)]
theorem freeze_size (w : World) (g n : Nat) : (w.freeze ⟨g, n, none⟩ 1).heap.size = w.heap.size := by
  unfold World.freeze
  rw [if_neg (by decide)]
  show (w.heap.modify g _).size = _
  rw [Array.size_modify]
theorem freeze_below (w : World) (g n B : Nat) (h : B ≤ g) : Below B w (w.freeze ⟨g, n, none⟩ 1) :=
  ⟨by unfold World.freeze; rfl, by unfold World.freeze; rfl, by unfold World.freeze; rfl, Nat.le_of_eq (freeze_size w g n).symm, fun k hk => freeze_far w g n k (by omega)⟩
theorem freeze_cell (w : World) (g n : Nat) (a : Addr) : (w.freeze ⟨g, n, none⟩ 1).cell? a = w.cell? a := by
  by_cases h : a.block = g
  · subst h
    have e : (w.freeze ⟨a.block, n, none⟩ 1).heap[a.block]? = (w.heap[a.block]?).map fun
        | .cells c elem (lo, hi) => .cells c elem (if lo == hi then (n, n + 1) else (min lo n, max hi (n + 1)))
        | o => o := by
      unfold World.freeze
      rw [if_neg (by decide)]
      show (w.heap.modify a.block _)[a.block]? = _
      rw [Array.getElem?_modify, if_pos rfl]
      cases w.heap[a.block]? with
      | none => rfl
      | some o => cases o <;> rfl
    unfold World.cell?
    rw [e]
    cases w.heap[a.block]? with
    | none => rfl
    | some o => cases o <;> rfl
  · unfold World.cell?
    rw [freeze_far w g n _ h]
theorem markL_ {P : Program} {ops : Array Oper} {Q : Exit → Act → World → Prop} {rest : List Oper} {oi : Oper} {a : Act} {w : World} (N : Option Tmp) (hd : oi.dst = N) (hg : oi.guard = none) {T e : TypeId} {t0 : Tmp} {base : Nat} {ok : Nat → Prop} {A : Option Addr} {n c : Nat} {l : List Int}
    (hop : oi.op = .convert T T (.tmp t0)) (hx : a.eval (.tmp t0) = .slice A n c) (hT : P.underlying T = some (.slice e)) (he : P.underlying e = some (.int .u8)) (hR : Kd.R (Kd.int .u8) e w base ok (.slice A n c) l) (hl : 0 < l.length)
    (h : ∀ w', (∀ k, some k ≠ (Value.slice A n c).ownBlock → w'.heap[k]? = w.heap[k]?) → (∀ B, B ≤ base → Below B w w') → Kd.C (Kd.int .u8) w' A l.length l → wpList P ops Q rest (a.put N (.slice A n c)) w') : wpList P ops Q (oi :: rest) a w := by
  obtain ⟨g, cap, hv, hb, hlt, cells, hcs⟩ := Kd.R_form hR hl
  obtain ⟨rfl, rfl, rfl⟩ : A = some ⟨g, 0, none⟩ ∧ n = l.length ∧ c = cap := by injection hv with h1 h2 h3; exact ⟨h1, h2, h3⟩
  have hC := (Kd.R_reads' hR).2.2
  refine wpList_plain hg fun K hK => ?_
  have hrun : (execOp a.eval oi).run P w = .ok (.value (.slice (some ⟨g, 0, none⟩) l.length c)) (w.freeze ⟨g, cells.size, none⟩ 1) := by
    unfold execOp
    have hsh : w.shape? g = some (e, cells.size) := by unfold World.shape?; rw [hcs]
    simp [hop, hx, convert, run_underlying hT, run_underlying he, markStringish, hsh]
  unfold Oper.wp
  rw [hrun]
  subst hd
  refine hK _ _ (h _ (fun k hk => freeze_far w g _ k (fun e => hk (by rw [e]; simp [Value.ownBlock]))) (fun B hB => freeze_below w g _ B (Nat.le_trans hB hb)) ?_)
  refine ⟨hC.1, hC.2.1, fun hn => ?_⟩
  obtain ⟨ad, ha, hc⟩ := hC.2.2 hn
  exact ⟨ad, ha, fun j p hj => by
    obtain ⟨c, h1, h2, h3⟩ := hc j p hj
    exact ⟨c, h1, h2, fun i u hu => by rw [freeze_cell]; exact h3 i u hu⟩⟩
end Go.Proofs.YtoedahdhlcagkaaW.PrintWords
namespace Go.Proofs.YtoedahdhlcagkaaW.PrintWords.Kd
open Go Go.RowKit Go.Proofs.YtoedahdhlcagkaaW.PrintWords
/-- A small array, boxed: as a row of the call's own. -/
theorem R_boxed {α : Type} {P : Program} {ops : Array Oper} {Q : Exit → Act → World → Prop} {rest : List Oper} {o : Oper} {a : Act} (d : Kd α) {w0 W : World} (base e : Nat) (hgd : o.guard = none) {N : Tmp} (_hd : o.dst = some N) {xs : List α} {inner : List Value} {ok okp : Nat → Prop}
    (hrun : (execOp a.eval o).run P W = .ok (.value (.pointer (some ⟨W.heap.size, 0, none⟩))) (W.alloc (.cells inner.toArray e)))
    (hrep : Reps (d.M W base okp) d.sz xs inner) (hok : ∀ k, okp k → ok k) (hfresh : ok W.heap.size) (HB : Below base w0 W) (hbase : base ≤ W.heap.size) (hm : xs.length ≤ 9223372036854775807)
    (h : ∀ ad c w1, d.R e w1 base ok (.slice (some ad) xs.length c) xs → Below base w0 w1 → W.grownBy w1 none → (∃ b, (Value.slice (some ad) xs.length c).ownBlock = some b ∧ W.heap.size ≤ b) → wpList P ops Q rest (a.put o.dst (.pointer (some ad))) w1) : wpList P ops Q (o :: rest) a W := by
  refine event_run hgd hrun (h ⟨W.heap.size, 0, none⟩ xs.length _ ⟨fun k hk => ?_, inner, ?_, ?_⟩ (HB.alloc hbase _) (World.grownBy_alloc W _ none) ⟨W.heap.size, by simp [Value.ownBlock], Nat.le_refl _⟩)
  · have : W.heap.size = k := by simpa [Value.ownBlock] using hk
    subst this
    exact hfresh
  · have h2 := World.ownsRow_lit (base := base) (e := e) (size := d.sz) W inner.toArray xs.length hbase (by simpa [maxLen] using hm) (by simpa using hrep.1)
    simpa using h2
  · refine hrep.imp_ (fun p c hp => d.M_mono (fun k hk => ⟨hok k hk.1, fun he => ?_⟩) (M_below (d.M_bound hp) (below_alloc (Below.refl _ _) _)))
    have h3 : k = W.heap.size := by simpa [Value.ownBlock] using he
    have := hk.2.2.1
    omega
end Go.Proofs.YtoedahdhlcagkaaW.PrintWords.Kd
