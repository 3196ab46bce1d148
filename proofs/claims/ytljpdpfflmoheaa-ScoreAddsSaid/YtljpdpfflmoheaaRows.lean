/-
  No cell of these rows narrows 'for every input' (looked for: loops, veiled, ifaces, maps, wideKeys, modest, calm, conditions, laid).
  DERIVED. THE GIVEN ROWS OF THIS SEAT. 6 by the template 'for every input the law returns true; each argument reads behind the call as it read before'; 0 by the template 'total and deterministic' (their statements: YtljpdpfflmoheaaTotals.lean).
  GIVEN WITH THE SEED: the statements are not yours to turn. If you find one false, say at which input.
  Laid BY PROGRAM, IN A SANDBOX (cutbox-rows.mjs): the forced cells as the released guide's own fill.sh prints them over the translation c3c84b05db490400… (all of the seat's roots in one cut). By AI agents, Wed Nov 11 2026. No macro, syntax, notation, axiom, sorry.
-/
import Derived.Test.YtljpdpfflmoheaaChecked
import GoSem.Claim
import GoSem.ClaimJoined
import GoSem.ClaimMapViews
import Derived.JoinedTies
import Derived.KernelRfl
namespace Go.Proofs.Ytljpdpfflmoheaa
/- THE CELL 'sum', in the pinned program and in every row, IS THE sha256 OF THE DUMP (.gsa) THAT YtljpdpfflmoheaaProg.lean LOADS. Nothing in Lean hashes anything: it is a label: what it is worth is what the hold of that sum in a sandbox is worth. -/
noncomputable def Try.pinned : Pinned := { name := "ytljpdpfflmoheaa", sum := "c3c84b05db49040073947845642f2e6bb1038f71ed92f594adcb5fdf13800e5e", checked := Try.checked }
namespace Rows
def none {H : Type} : Left H := { results := [], args := [] }

/-- 'catchwordlaw19.ScoreTells': WHATEVER THE INPUT: true; the input reads as it did. -/
def scoreTellsSpec : ChangeSpec := { name := "scoreTells", fn := fun _ => fun
  | [d1, d2] => { results := [.lit (.bool true)], args := [d1, d2] }
  | _ => none }
def scoreTellsRow : OpenClaim := { program := "ytljpdpfflmoheaa", sum := "c3c84b05db49040073947845642f2e6bb1038f71ed92f594adcb5fdf13800e5e", func := "catchword/catchwordlaw19.ScoreTells", spec := "scoreTells", inPlace := ["math/bits.Add64"], apart := false }
def ScoreTellsSaid : Prop := scoreTellsRow.holds Try.pinned (OpenSpec.ofChange scoreTellsSpec)

/-- ITS FALSE NEIGHBOUR: 'it returns false'. Refute it at one input. -/
def scoreTellsWrong : ChangeSpec := { name := "scoreTells", fn := fun _ => fun
  | [d1, d2] => { results := [.lit (.bool false)], args := [d1, d2] }
  | _ => none }
def ScoreTellsWrongFalsely : Prop := scoreTellsRow.holds Try.pinned (OpenSpec.ofChange scoreTellsWrong)

/-- 'catchwordlaw19.ScoreWeighs': WHATEVER THE INPUT: true; the input reads as it did. -/
def scoreWeighsSpec : ChangeSpec := { name := "scoreWeighs", fn := fun _ => fun
  | [d1, d2, d3, d4] => { results := [.lit (.bool true)], args := [d1, d2, d3, d4] }
  | _ => none }
def scoreWeighsRow : OpenClaim := { program := "ytljpdpfflmoheaa", sum := "c3c84b05db49040073947845642f2e6bb1038f71ed92f594adcb5fdf13800e5e", func := "catchword/catchwordlaw19.ScoreWeighs", spec := "scoreWeighs", inPlace := ["math/bits.Add64"], apart := false }
def ScoreWeighsSaid : Prop := scoreWeighsRow.holds Try.pinned (OpenSpec.ofChange scoreWeighsSpec)

/-- ITS FALSE NEIGHBOUR: 'it returns false'. Refute it at one input. -/
def scoreWeighsWrong : ChangeSpec := { name := "scoreWeighs", fn := fun _ => fun
  | [d1, d2, d3, d4] => { results := [.lit (.bool false)], args := [d1, d2, d3, d4] }
  | _ => none }
def ScoreWeighsWrongFalsely : Prop := scoreWeighsRow.holds Try.pinned (OpenSpec.ofChange scoreWeighsWrong)

/-- 'catchwordlaw19.ScoreOrder': WHATEVER THE INPUT: true; the input reads as it did. -/
def scoreOrderSpec : ChangeSpec := { name := "scoreOrder", fn := fun _ => fun
  | [d1, d2, d3] => { results := [.lit (.bool true)], args := [d1, d2, d3] }
  | _ => none }
def scoreOrderRow : OpenClaim := { program := "ytljpdpfflmoheaa", sum := "c3c84b05db49040073947845642f2e6bb1038f71ed92f594adcb5fdf13800e5e", func := "catchword/catchwordlaw19.ScoreOrder", spec := "scoreOrder", inPlace := ["math/bits.Add64"], apart := false }
def ScoreOrderSaid : Prop := scoreOrderRow.holds Try.pinned (OpenSpec.ofChange scoreOrderSpec)

/-- ITS FALSE NEIGHBOUR: 'it returns false'. Refute it at one input. -/
def scoreOrderWrong : ChangeSpec := { name := "scoreOrder", fn := fun _ => fun
  | [d1, d2, d3] => { results := [.lit (.bool false)], args := [d1, d2, d3] }
  | _ => none }
def ScoreOrderWrongFalsely : Prop := scoreOrderRow.holds Try.pinned (OpenSpec.ofChange scoreOrderWrong)

/-- 'catchwordlaw19.ScoreAdds': WHATEVER THE INPUT: true; the input reads as it did. -/
def scoreAddsSpec : ChangeSpec := { name := "scoreAdds", fn := fun _ => fun
  | [d1, d2, d3] => { results := [.lit (.bool true)], args := [d1, d2, d3] }
  | _ => none }
def scoreAddsRow : OpenClaim := { program := "ytljpdpfflmoheaa", sum := "c3c84b05db49040073947845642f2e6bb1038f71ed92f594adcb5fdf13800e5e", func := "catchword/catchwordlaw19.ScoreAdds", spec := "scoreAdds", inPlace := ["math/bits.Add64"], apart := false }
def ScoreAddsSaid : Prop := scoreAddsRow.holds Try.pinned (OpenSpec.ofChange scoreAddsSpec)

/-- ITS FALSE NEIGHBOUR: 'it returns false'. Refute it at one input. -/
def scoreAddsWrong : ChangeSpec := { name := "scoreAdds", fn := fun _ => fun
  | [d1, d2, d3] => { results := [.lit (.bool false)], args := [d1, d2, d3] }
  | _ => none }
def ScoreAddsWrongFalsely : Prop := scoreAddsRow.holds Try.pinned (OpenSpec.ofChange scoreAddsWrong)

/-- 'catchwordlaw19.ScoreMore': WHATEVER THE INPUT: true; the input reads as it did. -/
def scoreMoreSpec : ChangeSpec := { name := "scoreMore", fn := fun _ => fun
  | [d1, d2, d3] => { results := [.lit (.bool true)], args := [d1, d2, d3] }
  | _ => none }
def scoreMoreRow : OpenClaim := { program := "ytljpdpfflmoheaa", sum := "c3c84b05db49040073947845642f2e6bb1038f71ed92f594adcb5fdf13800e5e", func := "catchword/catchwordlaw19.ScoreMore", spec := "scoreMore", inPlace := ["math/bits.Add64"], apart := false }
def ScoreMoreSaid : Prop := scoreMoreRow.holds Try.pinned (OpenSpec.ofChange scoreMoreSpec)

/-- ITS FALSE NEIGHBOUR: 'it returns false'. Refute it at one input. -/
def scoreMoreWrong : ChangeSpec := { name := "scoreMore", fn := fun _ => fun
  | [d1, d2, d3] => { results := [.lit (.bool false)], args := [d1, d2, d3] }
  | _ => none }
def ScoreMoreWrongFalsely : Prop := scoreMoreRow.holds Try.pinned (OpenSpec.ofChange scoreMoreWrong)

/-- 'catchwordlaw19.ScoreFits': WHATEVER THE INPUT: true; the input reads as it did. -/
def scoreFitsSpec : ChangeSpec := { name := "scoreFits", fn := fun _ => fun
  | [d1, d2, d3] => { results := [.lit (.bool true)], args := [d1, d2, d3] }
  | _ => none }
def scoreFitsRow : OpenClaim := { program := "ytljpdpfflmoheaa", sum := "c3c84b05db49040073947845642f2e6bb1038f71ed92f594adcb5fdf13800e5e", func := "catchword/catchwordlaw19.ScoreFits", spec := "scoreFits", inPlace := ["math/bits.Add64"], apart := false }
def ScoreFitsSaid : Prop := scoreFitsRow.holds Try.pinned (OpenSpec.ofChange scoreFitsSpec)

/-- ITS FALSE NEIGHBOUR: 'it returns false'. Refute it at one input. -/
def scoreFitsWrong : ChangeSpec := { name := "scoreFits", fn := fun _ => fun
  | [d1, d2, d3] => { results := [.lit (.bool false)], args := [d1, d2, d3] }
  | _ => none }
def ScoreFitsWrongFalsely : Prop := scoreFitsRow.holds Try.pinned (OpenSpec.ofChange scoreFitsWrong)

/- THE SECOND FORM. 'bulk': how many values and letters a reading holds, each counted each time it is reached (what is shared counts as often as it is met; a slice's spare places count too). A statement '..UptoSaid' is the law's where the arguments, and the package variables that the reading takes, are together of bulk at most 1048576: NARROWER than '..Said'. Prove '..Said' where nothing that the law and all that it calls make is longer than what came in: it says more and counts as full. Else prove '..UptoSaid'. A law counts once. -/
mutual
def uptoBulk {H : Type} : DataW H → Nat
  | .lit (.string bytes) => bytes.length + 1
  | .lit _ => 1
  | .nil => 1
  | .ptr d => uptoBulk d + 1
  | .slice elems spare => uptoBulkAll elems + uptoBulkAll spare + 1
  | .agg parts => uptoBulkAll parts + 1
  | .iface _ d => uptoBulk d + 1
  | .map entries => uptoBulkEntries entries + 1
  | .held _ => 1
def uptoBulkAll {H : Type} : List (DataW H) → Nat
  | [] => 0
  | d :: r => uptoBulk d + uptoBulkAll r
def uptoBulkEntries {H : Type} : List (Lit × DataW H) → Nat
  | [] => 0
  | x :: r => uptoBulkEntry x + uptoBulkEntries r
def uptoBulkEntry {H : Type} : Lit × DataW H → Nat
  | (.string bytes, d) => bytes.length + uptoBulk d + 1
  | (_, d) => uptoBulk d + 1
 end
def uptoSmall : (H : Type) → List (DataW H) → Bool := fun _ ds => decide (uptoBulkAll ds ≤ 1048576)
def OpenSpec.upto (s : _root_.Go.ChangeSpec) : _root_.Go.OpenSpec := { _root_.Go.OpenSpec.ofChange s with cond := some uptoSmall }

/-- 'catchwordlaw19.ScoreTells', WHERE WHAT IT READS IS OF BULK AT MOST 1048576: true; the input reads as it did. -/
def scoreTellsUptoRow : OpenClaim := { program := "ytljpdpfflmoheaa", sum := "c3c84b05db49040073947845642f2e6bb1038f71ed92f594adcb5fdf13800e5e", func := "catchword/catchwordlaw19.ScoreTells", spec := "scoreTells", inPlace := ["math/bits.Add64"], apart := false, narrowed := true }
def ScoreTellsUptoSaid : Prop := scoreTellsUptoRow.holds Try.pinned (OpenSpec.upto scoreTellsSpec)

/-- 'catchwordlaw19.ScoreWeighs', WHERE WHAT IT READS IS OF BULK AT MOST 1048576: true; the input reads as it did. -/
def scoreWeighsUptoRow : OpenClaim := { program := "ytljpdpfflmoheaa", sum := "c3c84b05db49040073947845642f2e6bb1038f71ed92f594adcb5fdf13800e5e", func := "catchword/catchwordlaw19.ScoreWeighs", spec := "scoreWeighs", inPlace := ["math/bits.Add64"], apart := false, narrowed := true }
def ScoreWeighsUptoSaid : Prop := scoreWeighsUptoRow.holds Try.pinned (OpenSpec.upto scoreWeighsSpec)

/-- 'catchwordlaw19.ScoreOrder', WHERE WHAT IT READS IS OF BULK AT MOST 1048576: true; the input reads as it did. -/
def scoreOrderUptoRow : OpenClaim := { program := "ytljpdpfflmoheaa", sum := "c3c84b05db49040073947845642f2e6bb1038f71ed92f594adcb5fdf13800e5e", func := "catchword/catchwordlaw19.ScoreOrder", spec := "scoreOrder", inPlace := ["math/bits.Add64"], apart := false, narrowed := true }
def ScoreOrderUptoSaid : Prop := scoreOrderUptoRow.holds Try.pinned (OpenSpec.upto scoreOrderSpec)

/-- 'catchwordlaw19.ScoreAdds', WHERE WHAT IT READS IS OF BULK AT MOST 1048576: true; the input reads as it did. -/
def scoreAddsUptoRow : OpenClaim := { program := "ytljpdpfflmoheaa", sum := "c3c84b05db49040073947845642f2e6bb1038f71ed92f594adcb5fdf13800e5e", func := "catchword/catchwordlaw19.ScoreAdds", spec := "scoreAdds", inPlace := ["math/bits.Add64"], apart := false, narrowed := true }
def ScoreAddsUptoSaid : Prop := scoreAddsUptoRow.holds Try.pinned (OpenSpec.upto scoreAddsSpec)

/-- 'catchwordlaw19.ScoreMore', WHERE WHAT IT READS IS OF BULK AT MOST 1048576: true; the input reads as it did. -/
def scoreMoreUptoRow : OpenClaim := { program := "ytljpdpfflmoheaa", sum := "c3c84b05db49040073947845642f2e6bb1038f71ed92f594adcb5fdf13800e5e", func := "catchword/catchwordlaw19.ScoreMore", spec := "scoreMore", inPlace := ["math/bits.Add64"], apart := false, narrowed := true }
def ScoreMoreUptoSaid : Prop := scoreMoreUptoRow.holds Try.pinned (OpenSpec.upto scoreMoreSpec)

/-- 'catchwordlaw19.ScoreFits', WHERE WHAT IT READS IS OF BULK AT MOST 1048576: true; the input reads as it did. -/
def scoreFitsUptoRow : OpenClaim := { program := "ytljpdpfflmoheaa", sum := "c3c84b05db49040073947845642f2e6bb1038f71ed92f594adcb5fdf13800e5e", func := "catchword/catchwordlaw19.ScoreFits", spec := "scoreFits", inPlace := ["math/bits.Add64"], apart := false, narrowed := true }
def ScoreFitsUptoSaid : Prop := scoreFitsUptoRow.holds Try.pinned (OpenSpec.upto scoreFitsSpec)

end Rows
end Go.Proofs.Ytljpdpfflmoheaa
