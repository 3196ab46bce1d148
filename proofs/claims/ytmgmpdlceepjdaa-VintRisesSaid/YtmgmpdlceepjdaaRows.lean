/-
  No cell of these rows narrows 'for every input' (looked for: loops, veiled, ifaces, maps, wideKeys, modest, calm, conditions, laid).
  DERIVED. THE GIVEN ROWS OF THIS SEAT. 6 by the template 'for every input the law returns true; each argument reads behind the call as it read before'; 0 by the template 'total and deterministic' (their statements: YtmgmpdlceepjdaaTotals.lean).
  GIVEN WITH THE SEED: the statements are not yours to turn. If you find one false, say at which input.
  Laid BY PROGRAM, IN A SANDBOX (cutbox-rows.mjs): the forced cells as the released guide's own fill.sh prints them over the translation 30d3136653e6d5ec… (all of the seat's roots in one cut). By AI agents, Wed Nov 11 2026. No macro, syntax, notation, axiom, sorry.
-/
import Derived.Test.YtmgmpdlceepjdaaChecked
import GoSem.Claim
import GoSem.ClaimJoined
import GoSem.ClaimMapViews
import Derived.JoinedTies
import Derived.KernelRfl
namespace Go.Proofs.Ytmgmpdlceepjdaa
/- THE CELL 'sum', in the pinned program and in every row, IS THE sha256 OF THE DUMP (.gsa) THAT YtmgmpdlceepjdaaProg.lean LOADS. Nothing in Lean hashes anything: it is a label: what it is worth is what the hold of that sum in a sandbox is worth. -/
noncomputable def Try.pinned : Pinned := { name := "ytmgmpdlceepjdaa", sum := "30d3136653e6d5ec220e84090c37db524c4f7bc1d39b854f7a2ef93e69a24202", checked := Try.checked }
namespace Rows
def none {H : Type} : Left H := { results := [], args := [] }

/-- 'catchwordlaw01.VintTells': WHATEVER THE INPUT: true; the input reads as it did. -/
def vintTellsSpec : ChangeSpec := { name := "vintTells", fn := fun _ => fun
  | [d1, d2, d3] => { results := [.lit (.bool true)], args := [d1, d2, d3] }
  | _ => none }
def vintTellsRow : OpenClaim := { program := "ytmgmpdlceepjdaa", sum := "30d3136653e6d5ec220e84090c37db524c4f7bc1d39b854f7a2ef93e69a24202", func := "catchword/catchwordlaw01.VintTells", spec := "vintTells", apart := false }
def VintTellsSaid : Prop := vintTellsRow.holds Try.pinned (OpenSpec.ofChange vintTellsSpec)

/-- ITS FALSE NEIGHBOUR: 'it returns false'. Refute it at one input. -/
def vintTellsWrong : ChangeSpec := { name := "vintTells", fn := fun _ => fun
  | [d1, d2, d3] => { results := [.lit (.bool false)], args := [d1, d2, d3] }
  | _ => none }
def VintTellsWrongFalsely : Prop := vintTellsRow.holds Try.pinned (OpenSpec.ofChange vintTellsWrong)

/-- 'catchwordlaw01.VintLists': WHATEVER THE INPUT: true; the input reads as it did. -/
def vintListsSpec : ChangeSpec := { name := "vintLists", fn := fun _ => fun
  | [d1, d2, d3] => { results := [.lit (.bool true)], args := [d1, d2, d3] }
  | _ => none }
def vintListsRow : OpenClaim := { program := "ytmgmpdlceepjdaa", sum := "30d3136653e6d5ec220e84090c37db524c4f7bc1d39b854f7a2ef93e69a24202", func := "catchword/catchwordlaw01.VintLists", spec := "vintLists", apart := false }
def VintListsSaid : Prop := vintListsRow.holds Try.pinned (OpenSpec.ofChange vintListsSpec)

/-- ITS FALSE NEIGHBOUR: 'it returns false'. Refute it at one input. -/
def vintListsWrong : ChangeSpec := { name := "vintLists", fn := fun _ => fun
  | [d1, d2, d3] => { results := [.lit (.bool false)], args := [d1, d2, d3] }
  | _ => none }
def VintListsWrongFalsely : Prop := vintListsRow.holds Try.pinned (OpenSpec.ofChange vintListsWrong)

/-- 'catchwordlaw01.VintBack': WHATEVER THE INPUT: true; the input reads as it did. -/
def vintBackSpec : ChangeSpec := { name := "vintBack", fn := fun _ => fun
  | [d1, d2, d3] => { results := [.lit (.bool true)], args := [d1, d2, d3] }
  | _ => none }
def vintBackRow : OpenClaim := { program := "ytmgmpdlceepjdaa", sum := "30d3136653e6d5ec220e84090c37db524c4f7bc1d39b854f7a2ef93e69a24202", func := "catchword/catchwordlaw01.VintBack", spec := "vintBack", apart := false }
def VintBackSaid : Prop := vintBackRow.holds Try.pinned (OpenSpec.ofChange vintBackSpec)

/-- ITS FALSE NEIGHBOUR: 'it returns false'. Refute it at one input. -/
def vintBackWrong : ChangeSpec := { name := "vintBack", fn := fun _ => fun
  | [d1, d2, d3] => { results := [.lit (.bool false)], args := [d1, d2, d3] }
  | _ => none }
def VintBackWrongFalsely : Prop := vintBackRow.holds Try.pinned (OpenSpec.ofChange vintBackWrong)

/-- 'catchwordlaw01.VintRises': WHATEVER THE INPUT: true; the input reads as it did. -/
def vintRisesSpec : ChangeSpec := { name := "vintRises", fn := fun _ => fun
  | [d1, d2, d3, d4] => { results := [.lit (.bool true)], args := [d1, d2, d3, d4] }
  | _ => none }
def vintRisesRow : OpenClaim := { program := "ytmgmpdlceepjdaa", sum := "30d3136653e6d5ec220e84090c37db524c4f7bc1d39b854f7a2ef93e69a24202", func := "catchword/catchwordlaw01.VintRises", spec := "vintRises", apart := false }
def VintRisesSaid : Prop := vintRisesRow.holds Try.pinned (OpenSpec.ofChange vintRisesSpec)

/-- ITS FALSE NEIGHBOUR: 'it returns false'. Refute it at one input. -/
def vintRisesWrong : ChangeSpec := { name := "vintRises", fn := fun _ => fun
  | [d1, d2, d3, d4] => { results := [.lit (.bool false)], args := [d1, d2, d3, d4] }
  | _ => none }
def VintRisesWrongFalsely : Prop := vintRisesRow.holds Try.pinned (OpenSpec.ofChange vintRisesWrong)

/-- 'catchwordlaw01.VintFirst': WHATEVER THE INPUT: true; the input reads as it did. -/
def vintFirstSpec : ChangeSpec := { name := "vintFirst", fn := fun _ => fun
  | [d1, d2] => { results := [.lit (.bool true)], args := [d1, d2] }
  | _ => none }
def vintFirstRow : OpenClaim := { program := "ytmgmpdlceepjdaa", sum := "30d3136653e6d5ec220e84090c37db524c4f7bc1d39b854f7a2ef93e69a24202", func := "catchword/catchwordlaw01.VintFirst", spec := "vintFirst", apart := false }
def VintFirstSaid : Prop := vintFirstRow.holds Try.pinned (OpenSpec.ofChange vintFirstSpec)

/-- ITS FALSE NEIGHBOUR: 'it returns false'. Refute it at one input. -/
def vintFirstWrong : ChangeSpec := { name := "vintFirst", fn := fun _ => fun
  | [d1, d2] => { results := [.lit (.bool false)], args := [d1, d2] }
  | _ => none }
def VintFirstWrongFalsely : Prop := vintFirstRow.holds Try.pinned (OpenSpec.ofChange vintFirstWrong)

/-- 'catchwordlaw01.VintTwice': WHATEVER THE INPUT: true; the input reads as it did. -/
def vintTwiceSpec : ChangeSpec := { name := "vintTwice", fn := fun _ => fun
  | [d1, d2] => { results := [.lit (.bool true)], args := [d1, d2] }
  | _ => none }
def vintTwiceRow : OpenClaim := { program := "ytmgmpdlceepjdaa", sum := "30d3136653e6d5ec220e84090c37db524c4f7bc1d39b854f7a2ef93e69a24202", func := "catchword/catchwordlaw01.VintTwice", spec := "vintTwice", apart := false }
def VintTwiceSaid : Prop := vintTwiceRow.holds Try.pinned (OpenSpec.ofChange vintTwiceSpec)

/-- ITS FALSE NEIGHBOUR: 'it returns false'. Refute it at one input. -/
def vintTwiceWrong : ChangeSpec := { name := "vintTwice", fn := fun _ => fun
  | [d1, d2] => { results := [.lit (.bool false)], args := [d1, d2] }
  | _ => none }
def VintTwiceWrongFalsely : Prop := vintTwiceRow.holds Try.pinned (OpenSpec.ofChange vintTwiceWrong)

/- THE SECOND FORM. 'bulk': how many values and letters a reading holds, each counted each time it is reached (what is shared counts as often as it is met; a slice's spare places count too). A statement '..UptoSaid' is the law's where the arguments, and the package variables that the reading takes, are together of bulk at most 1048576: NARROWER than '..Said'. Prove '..Said' where nothing that the law and all that it calls make is longer than what came in: it says more and counts as full. Else prove '..UptoSaid'. A law counts once. -/
mutual
def uptoBulk {H : Type} : DataW H → Nat
  | .lit (.string bytes) => bytes.length + 1
  | .lit _ => 1
  | .nil => 1
  | .ptr d => uptoBulk d + 1
  | .slice elems spare => uptoBulkAll elems + uptoBulkAll spare + 1
  | .agg parts => uptoBulkAll parts + 1
  | .iface _ d => uptoBulk d + 1
  | .map entries => uptoBulkEntries entries + 1
  | .held _ => 1
def uptoBulkAll {H : Type} : List (DataW H) → Nat
  | [] => 0
  | d :: r => uptoBulk d + uptoBulkAll r
def uptoBulkEntries {H : Type} : List (Lit × DataW H) → Nat
  | [] => 0
  | x :: r => uptoBulkEntry x + uptoBulkEntries r
def uptoBulkEntry {H : Type} : Lit × DataW H → Nat
  | (.string bytes, d) => bytes.length + uptoBulk d + 1
  | (_, d) => uptoBulk d + 1
 end
def uptoSmall : (H : Type) → List (DataW H) → Bool := fun _ ds => decide (uptoBulkAll ds ≤ 1048576)
def OpenSpec.upto (s : _root_.Go.ChangeSpec) : _root_.Go.OpenSpec := { _root_.Go.OpenSpec.ofChange s with cond := some uptoSmall }

/-- 'catchwordlaw01.VintTells', WHERE WHAT IT READS IS OF BULK AT MOST 1048576: true; the input reads as it did. -/
def vintTellsUptoRow : OpenClaim := { program := "ytmgmpdlceepjdaa", sum := "30d3136653e6d5ec220e84090c37db524c4f7bc1d39b854f7a2ef93e69a24202", func := "catchword/catchwordlaw01.VintTells", spec := "vintTells", apart := false, narrowed := true }
def VintTellsUptoSaid : Prop := vintTellsUptoRow.holds Try.pinned (OpenSpec.upto vintTellsSpec)

/-- 'catchwordlaw01.VintLists', WHERE WHAT IT READS IS OF BULK AT MOST 1048576: true; the input reads as it did. -/
def vintListsUptoRow : OpenClaim := { program := "ytmgmpdlceepjdaa", sum := "30d3136653e6d5ec220e84090c37db524c4f7bc1d39b854f7a2ef93e69a24202", func := "catchword/catchwordlaw01.VintLists", spec := "vintLists", apart := false, narrowed := true }
def VintListsUptoSaid : Prop := vintListsUptoRow.holds Try.pinned (OpenSpec.upto vintListsSpec)

/-- 'catchwordlaw01.VintBack', WHERE WHAT IT READS IS OF BULK AT MOST 1048576: true; the input reads as it did. -/
def vintBackUptoRow : OpenClaim := { program := "ytmgmpdlceepjdaa", sum := "30d3136653e6d5ec220e84090c37db524c4f7bc1d39b854f7a2ef93e69a24202", func := "catchword/catchwordlaw01.VintBack", spec := "vintBack", apart := false, narrowed := true }
def VintBackUptoSaid : Prop := vintBackUptoRow.holds Try.pinned (OpenSpec.upto vintBackSpec)

/-- 'catchwordlaw01.VintRises', WHERE WHAT IT READS IS OF BULK AT MOST 1048576: true; the input reads as it did. -/
def vintRisesUptoRow : OpenClaim := { program := "ytmgmpdlceepjdaa", sum := "30d3136653e6d5ec220e84090c37db524c4f7bc1d39b854f7a2ef93e69a24202", func := "catchword/catchwordlaw01.VintRises", spec := "vintRises", apart := false, narrowed := true }
def VintRisesUptoSaid : Prop := vintRisesUptoRow.holds Try.pinned (OpenSpec.upto vintRisesSpec)

/-- 'catchwordlaw01.VintFirst', WHERE WHAT IT READS IS OF BULK AT MOST 1048576: true; the input reads as it did. -/
def vintFirstUptoRow : OpenClaim := { program := "ytmgmpdlceepjdaa", sum := "30d3136653e6d5ec220e84090c37db524c4f7bc1d39b854f7a2ef93e69a24202", func := "catchword/catchwordlaw01.VintFirst", spec := "vintFirst", apart := false, narrowed := true }
def VintFirstUptoSaid : Prop := vintFirstUptoRow.holds Try.pinned (OpenSpec.upto vintFirstSpec)

/-- 'catchwordlaw01.VintTwice', WHERE WHAT IT READS IS OF BULK AT MOST 1048576: true; the input reads as it did. -/
def vintTwiceUptoRow : OpenClaim := { program := "ytmgmpdlceepjdaa", sum := "30d3136653e6d5ec220e84090c37db524c4f7bc1d39b854f7a2ef93e69a24202", func := "catchword/catchwordlaw01.VintTwice", spec := "vintTwice", apart := false, narrowed := true }
def VintTwiceUptoSaid : Prop := vintTwiceUptoRow.holds Try.pinned (OpenSpec.upto vintTwiceSpec)

end Rows
end Go.Proofs.Ytmgmpdlceepjdaa
