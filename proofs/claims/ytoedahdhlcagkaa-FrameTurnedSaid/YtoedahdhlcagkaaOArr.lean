/- An argument that is an array of four whole numbers, opened. -/
import Derived.Test.YtoedahdhlcagkaaOpens
import Derived.Laws.IdiomArrays
import Derived.ChangeArms
namespace Go.Proofs.Ytoedahdhlcagkaa.Opens
open Go Go.RowKit Go.ChangeShapes Go.WideShapes Go.Proofs.YtoedahdhlcagkaaW.PrintWords
theorem arg_array4 {H : Type} {enc : TypeId × Value → H} {P : Program} {W : World} {sp : Nat → Bool} {held : Bool} {t e : TypeId} {k : IntKind} {v : Value} {d : DataW H} {ps : List MemPlace} {r : Reach} {b0 : Nat}
    (hu : P.underlying t = some (.array 4 e)) (he : P.underlying e = some (.int k)) (hce : P.cellsOf e = 1) (hct : P.cellsOf t = 4) (hval : Value.okWide P W r b0 t v) (hd : DataW.Trod enc P W 0 sp held t v d ps) :
    ∃ a b c x : Int, v = .agg #[.int k a, .int k b, .int k c, .int k x] ∧ (Lit.int k a).wf = true ∧ (Lit.int k b).wf = true ∧ (Lit.int k c).wf = true ∧ (Lit.int k x).wf = true := by
  obtain ⟨cs, rfl, hn⟩ : ∃ cs, v = .agg cs ∧ cs.size = P.cellsOf t := by
    simp only [Value.okWide, hu] at hval
    obtain ⟨cs, h1, h2, _⟩ := hval
    exact ⟨cs, h1, h2⟩
  rw [hct] at hn
  obtain ⟨fuel, hf⟩ := hd
  obtain ⟨l⟩ := cs
  match l, hn with
  | [c0, c1, c2, c3], _ =>
    obtain ⟨y0, y1, y2, y3, n, _, t0, t1, t2, t3⟩ := trod_array4 hu hce hf
    obtain ⟨a, ha, _, wa⟩ := DataW.trod_int he t0
    obtain ⟨b, hb, _, wb⟩ := DataW.trod_int he t1
    obtain ⟨c, hc, _, wc⟩ := DataW.trod_int he t2
    obtain ⟨x, hx, _, wx⟩ := DataW.trod_int he t3
    simp only [List.cons.injEq, and_true] at ha hb hc hx
    subst ha hb hc hx
    exact ⟨a, b, c, x, rfl, wa, wb, wc, wx⟩
end Go.Proofs.Ytoedahdhlcagkaa.Opens
