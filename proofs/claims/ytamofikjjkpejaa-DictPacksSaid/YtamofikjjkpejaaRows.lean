/-
  No cell of these rows narrows 'for every input' (looked for: loops, veiled, ifaces, maps, wideKeys, modest, calm, conditions, laid).
  DERIVED. THE GIVEN ROWS OF THIS SEAT. 7 by the template 'for every input the law returns true; each argument reads behind the call as it read before'; 0 by the template 'total and deterministic' (their statements: YtamofikjjkpejaaTotals.lean).
  GIVEN WITH THE SEED: the statements are not yours to turn. If you find one false, say at which input.
  Laid BY PROGRAM, IN A SANDBOX (cutbox-rows.mjs): the forced cells as the released guide's own fill.sh prints them over the translation bba30c0aa189ec74… (all of the seat's roots in one cut). By AI agents, Wed Nov 11 2026. No macro, syntax, notation, axiom, sorry.
-/
import Derived.Test.YtamofikjjkpejaaChecked
import GoSem.Claim
import GoSem.ClaimJoined
import GoSem.ClaimMapViews
import Derived.JoinedTies
import Derived.KernelRfl
namespace Go.Proofs.Ytamofikjjkpejaa
/- THE CELL 'sum', in the pinned program and in every row, IS THE sha256 OF THE DUMP (.gsa) THAT YtamofikjjkpejaaProg.lean LOADS. Nothing in Lean hashes anything: it is a label: what it is worth is what the hold of that sum in a sandbox is worth. -/
noncomputable def Try.pinned : Pinned := { name := "ytamofikjjkpejaa", sum := "bba30c0aa189ec74a07e566b959025036cbba5121bf4600a98986afdfe3f5a04", checked := Try.checked }
namespace Rows
def none {H : Type} : Left H := { results := [], args := [] }

/-- 'catchwordlaw07.DictTells': WHATEVER THE INPUT: true; the input reads as it did. -/
def dictTellsSpec : ChangeSpec := { name := "dictTells", fn := fun _ => fun
  | [d1, d2] => { results := [.lit (.bool true)], args := [d1, d2] }
  | _ => none }
def dictTellsRow : OpenClaim := { program := "ytamofikjjkpejaa", sum := "bba30c0aa189ec74a07e566b959025036cbba5121bf4600a98986afdfe3f5a04", func := "catchword/catchwordlaw07.DictTells", spec := "dictTells", apart := false }
def DictTellsSaid : Prop := dictTellsRow.holds Try.pinned (OpenSpec.ofChange dictTellsSpec)

/-- ITS FALSE NEIGHBOUR: 'it returns false'. Refute it at one input. -/
def dictTellsWrong : ChangeSpec := { name := "dictTells", fn := fun _ => fun
  | [d1, d2] => { results := [.lit (.bool false)], args := [d1, d2] }
  | _ => none }
def DictTellsWrongFalsely : Prop := dictTellsRow.holds Try.pinned (OpenSpec.ofChange dictTellsWrong)

/-- 'catchwordlaw07.DictOrs': WHATEVER THE INPUT: true; the input reads as it did. -/
def dictOrsSpec : ChangeSpec := { name := "dictOrs", fn := fun _ => fun
  | [d] => { results := [.lit (.bool true)], args := [d] }
  | _ => none }
def dictOrsRow : OpenClaim := { program := "ytamofikjjkpejaa", sum := "bba30c0aa189ec74a07e566b959025036cbba5121bf4600a98986afdfe3f5a04", func := "catchword/catchwordlaw07.DictOrs", spec := "dictOrs", apart := false }
def DictOrsSaid : Prop := dictOrsRow.holds Try.pinned (OpenSpec.ofChange dictOrsSpec)

/-- ITS FALSE NEIGHBOUR: 'it returns false'. Refute it at one input. -/
def dictOrsWrong : ChangeSpec := { name := "dictOrs", fn := fun _ => fun
  | [d] => { results := [.lit (.bool false)], args := [d] }
  | _ => none }
def DictOrsWrongFalsely : Prop := dictOrsRow.holds Try.pinned (OpenSpec.ofChange dictOrsWrong)

/-- 'catchwordlaw07.DictPacks': WHATEVER THE INPUT: true; the input reads as it did. -/
def dictPacksSpec : ChangeSpec := { name := "dictPacks", fn := fun _ => fun
  | [d1, d2] => { results := [.lit (.bool true)], args := [d1, d2] }
  | _ => none }
def dictPacksRow : OpenClaim := { program := "ytamofikjjkpejaa", sum := "bba30c0aa189ec74a07e566b959025036cbba5121bf4600a98986afdfe3f5a04", func := "catchword/catchwordlaw07.DictPacks", spec := "dictPacks", apart := false }
def DictPacksSaid : Prop := dictPacksRow.holds Try.pinned (OpenSpec.ofChange dictPacksSpec)

/-- ITS FALSE NEIGHBOUR: 'it returns false'. Refute it at one input. -/
def dictPacksWrong : ChangeSpec := { name := "dictPacks", fn := fun _ => fun
  | [d1, d2] => { results := [.lit (.bool false)], args := [d1, d2] }
  | _ => none }
def DictPacksWrongFalsely : Prop := dictPacksRow.holds Try.pinned (OpenSpec.ofChange dictPacksWrong)

/-- 'catchwordlaw07.DictBack': WHATEVER THE INPUT: true; the input reads as it did. -/
def dictBackSpec : ChangeSpec := { name := "dictBack", fn := fun _ => fun
  | [d1, d2] => { results := [.lit (.bool true)], args := [d1, d2] }
  | _ => none }
def dictBackRow : OpenClaim := { program := "ytamofikjjkpejaa", sum := "bba30c0aa189ec74a07e566b959025036cbba5121bf4600a98986afdfe3f5a04", func := "catchword/catchwordlaw07.DictBack", spec := "dictBack", apart := false }
def DictBackSaid : Prop := dictBackRow.holds Try.pinned (OpenSpec.ofChange dictBackSpec)

/-- ITS FALSE NEIGHBOUR: 'it returns false'. Refute it at one input. -/
def dictBackWrong : ChangeSpec := { name := "dictBack", fn := fun _ => fun
  | [d1, d2] => { results := [.lit (.bool false)], args := [d1, d2] }
  | _ => none }
def DictBackWrongFalsely : Prop := dictBackRow.holds Try.pinned (OpenSpec.ofChange dictBackWrong)

/-- 'catchwordlaw07.DictUnion': WHATEVER THE INPUT: true; the input reads as it did. -/
def dictUnionSpec : ChangeSpec := { name := "dictUnion", fn := fun _ => fun
  | [d1, d2, d3] => { results := [.lit (.bool true)], args := [d1, d2, d3] }
  | _ => none }
def dictUnionRow : OpenClaim := { program := "ytamofikjjkpejaa", sum := "bba30c0aa189ec74a07e566b959025036cbba5121bf4600a98986afdfe3f5a04", func := "catchword/catchwordlaw07.DictUnion", spec := "dictUnion", apart := false }
def DictUnionSaid : Prop := dictUnionRow.holds Try.pinned (OpenSpec.ofChange dictUnionSpec)

/-- ITS FALSE NEIGHBOUR: 'it returns false'. Refute it at one input. -/
def dictUnionWrong : ChangeSpec := { name := "dictUnion", fn := fun _ => fun
  | [d1, d2, d3] => { results := [.lit (.bool false)], args := [d1, d2, d3] }
  | _ => none }
def DictUnionWrongFalsely : Prop := dictUnionRow.holds Try.pinned (OpenSpec.ofChange dictUnionWrong)

/-- 'catchwordlaw07.DictFinds': WHATEVER THE INPUT: true; the input reads as it did. -/
def dictFindsSpec : ChangeSpec := { name := "dictFinds", fn := fun _ => fun
  | [d1, d2, d3] => { results := [.lit (.bool true)], args := [d1, d2, d3] }
  | _ => none }
def dictFindsRow : OpenClaim := { program := "ytamofikjjkpejaa", sum := "bba30c0aa189ec74a07e566b959025036cbba5121bf4600a98986afdfe3f5a04", func := "catchword/catchwordlaw07.DictFinds", spec := "dictFinds", apart := false }
def DictFindsSaid : Prop := dictFindsRow.holds Try.pinned (OpenSpec.ofChange dictFindsSpec)

/-- ITS FALSE NEIGHBOUR: 'it returns false'. Refute it at one input. -/
def dictFindsWrong : ChangeSpec := { name := "dictFinds", fn := fun _ => fun
  | [d1, d2, d3] => { results := [.lit (.bool false)], args := [d1, d2, d3] }
  | _ => none }
def DictFindsWrongFalsely : Prop := dictFindsRow.holds Try.pinned (OpenSpec.ofChange dictFindsWrong)

/-- 'catchwordlaw07.DictShort': WHATEVER THE INPUT: true; the input reads as it did. -/
def dictShortSpec : ChangeSpec := { name := "dictShort", fn := fun _ => fun
  | [d1, d2] => { results := [.lit (.bool true)], args := [d1, d2] }
  | _ => none }
def dictShortRow : OpenClaim := { program := "ytamofikjjkpejaa", sum := "bba30c0aa189ec74a07e566b959025036cbba5121bf4600a98986afdfe3f5a04", func := "catchword/catchwordlaw07.DictShort", spec := "dictShort", apart := false }
def DictShortSaid : Prop := dictShortRow.holds Try.pinned (OpenSpec.ofChange dictShortSpec)

/-- ITS FALSE NEIGHBOUR: 'it returns false'. Refute it at one input. -/
def dictShortWrong : ChangeSpec := { name := "dictShort", fn := fun _ => fun
  | [d1, d2] => { results := [.lit (.bool false)], args := [d1, d2] }
  | _ => none }
def DictShortWrongFalsely : Prop := dictShortRow.holds Try.pinned (OpenSpec.ofChange dictShortWrong)

/- THE SECOND FORM. 'bulk': how many values and letters a reading holds, each counted each time it is reached (what is shared counts as often as it is met; a slice's spare places count too). A statement '..UptoSaid' is the law's where the arguments, and the package variables that the reading takes, are together of bulk at most 1048576: NARROWER than '..Said'. Prove '..Said' where nothing that the law and all that it calls make is longer than what came in: it says more and counts as full. Else prove '..UptoSaid'. A law counts once. -/
mutual
def uptoBulk {H : Type} : DataW H → Nat
  | .lit (.string bytes) => bytes.length + 1
  | .lit _ => 1
  | .nil => 1
  | .ptr d => uptoBulk d + 1
  | .slice elems spare => uptoBulkAll elems + uptoBulkAll spare + 1
  | .agg parts => uptoBulkAll parts + 1
  | .iface _ d => uptoBulk d + 1
  | .map entries => uptoBulkEntries entries + 1
  | .held _ => 1
def uptoBulkAll {H : Type} : List (DataW H) → Nat
  | [] => 0
  | d :: r => uptoBulk d + uptoBulkAll r
def uptoBulkEntries {H : Type} : List (Lit × DataW H) → Nat
  | [] => 0
  | x :: r => uptoBulkEntry x + uptoBulkEntries r
def uptoBulkEntry {H : Type} : Lit × DataW H → Nat
  | (.string bytes, d) => bytes.length + uptoBulk d + 1
  | (_, d) => uptoBulk d + 1
 end
def uptoSmall : (H : Type) → List (DataW H) → Bool := fun _ ds => decide (uptoBulkAll ds ≤ 1048576)
def OpenSpec.upto (s : _root_.Go.ChangeSpec) : _root_.Go.OpenSpec := { _root_.Go.OpenSpec.ofChange s with cond := some uptoSmall }

/-- 'catchwordlaw07.DictTells', WHERE WHAT IT READS IS OF BULK AT MOST 1048576: true; the input reads as it did. -/
def dictTellsUptoRow : OpenClaim := { program := "ytamofikjjkpejaa", sum := "bba30c0aa189ec74a07e566b959025036cbba5121bf4600a98986afdfe3f5a04", func := "catchword/catchwordlaw07.DictTells", spec := "dictTells", apart := false, narrowed := true }
def DictTellsUptoSaid : Prop := dictTellsUptoRow.holds Try.pinned (OpenSpec.upto dictTellsSpec)

/-- 'catchwordlaw07.DictOrs', WHERE WHAT IT READS IS OF BULK AT MOST 1048576: true; the input reads as it did. -/
def dictOrsUptoRow : OpenClaim := { program := "ytamofikjjkpejaa", sum := "bba30c0aa189ec74a07e566b959025036cbba5121bf4600a98986afdfe3f5a04", func := "catchword/catchwordlaw07.DictOrs", spec := "dictOrs", apart := false, narrowed := true }
def DictOrsUptoSaid : Prop := dictOrsUptoRow.holds Try.pinned (OpenSpec.upto dictOrsSpec)

/-- 'catchwordlaw07.DictPacks', WHERE WHAT IT READS IS OF BULK AT MOST 1048576: true; the input reads as it did. -/
def dictPacksUptoRow : OpenClaim := { program := "ytamofikjjkpejaa", sum := "bba30c0aa189ec74a07e566b959025036cbba5121bf4600a98986afdfe3f5a04", func := "catchword/catchwordlaw07.DictPacks", spec := "dictPacks", apart := false, narrowed := true }
def DictPacksUptoSaid : Prop := dictPacksUptoRow.holds Try.pinned (OpenSpec.upto dictPacksSpec)

/-- 'catchwordlaw07.DictBack', WHERE WHAT IT READS IS OF BULK AT MOST 1048576: true; the input reads as it did. -/
def dictBackUptoRow : OpenClaim := { program := "ytamofikjjkpejaa", sum := "bba30c0aa189ec74a07e566b959025036cbba5121bf4600a98986afdfe3f5a04", func := "catchword/catchwordlaw07.DictBack", spec := "dictBack", apart := false, narrowed := true }
def DictBackUptoSaid : Prop := dictBackUptoRow.holds Try.pinned (OpenSpec.upto dictBackSpec)

/-- 'catchwordlaw07.DictUnion', WHERE WHAT IT READS IS OF BULK AT MOST 1048576: true; the input reads as it did. -/
def dictUnionUptoRow : OpenClaim := { program := "ytamofikjjkpejaa", sum := "bba30c0aa189ec74a07e566b959025036cbba5121bf4600a98986afdfe3f5a04", func := "catchword/catchwordlaw07.DictUnion", spec := "dictUnion", apart := false, narrowed := true }
def DictUnionUptoSaid : Prop := dictUnionUptoRow.holds Try.pinned (OpenSpec.upto dictUnionSpec)

/-- 'catchwordlaw07.DictFinds', WHERE WHAT IT READS IS OF BULK AT MOST 1048576: true; the input reads as it did. -/
def dictFindsUptoRow : OpenClaim := { program := "ytamofikjjkpejaa", sum := "bba30c0aa189ec74a07e566b959025036cbba5121bf4600a98986afdfe3f5a04", func := "catchword/catchwordlaw07.DictFinds", spec := "dictFinds", apart := false, narrowed := true }
def DictFindsUptoSaid : Prop := dictFindsUptoRow.holds Try.pinned (OpenSpec.upto dictFindsSpec)

/-- 'catchwordlaw07.DictShort', WHERE WHAT IT READS IS OF BULK AT MOST 1048576: true; the input reads as it did. -/
def dictShortUptoRow : OpenClaim := { program := "ytamofikjjkpejaa", sum := "bba30c0aa189ec74a07e566b959025036cbba5121bf4600a98986afdfe3f5a04", func := "catchword/catchwordlaw07.DictShort", spec := "dictShort", apart := false, narrowed := true }
def DictShortUptoSaid : Prop := dictShortUptoRow.holds Try.pinned (OpenSpec.upto dictShortSpec)

end Rows
end Go.Proofs.Ytamofikjjkpejaa
