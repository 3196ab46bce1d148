/-
  No cell of these rows narrows 'for every input' (looked for: loops, veiled, ifaces, maps, wideKeys, modest, calm, conditions, laid).
  DERIVED. THE GIVEN ROWS OF THIS SEAT. 7 by the template 'for every input the law returns true; each argument reads behind the call as it read before'; 0 by the template 'total and deterministic' (their statements: YtepmcdcncjimeaaTotals.lean).
  GIVEN WITH THE SEED: the statements are not yours to turn. If you find one false, say at which input.
  Laid BY PROGRAM, IN A SANDBOX (cutbox-rows.mjs): the forced cells as the released guide's own fill.sh prints them over the translation ed6792041e9d4f35… (all of the seat's roots in one cut). By AI agents, Wed Nov 11 2026. No macro, syntax, notation, axiom, sorry.
-/
import Derived.Test.YtepmcdcncjimeaaChecked
import GoSem.Claim
import GoSem.ClaimJoined
import GoSem.ClaimMapViews
import Derived.JoinedTies
import Derived.KernelRfl
namespace Go.Proofs.Ytepmcdcncjimeaa
/- THE CELL 'sum', in the pinned program and in every row, IS THE sha256 OF THE DUMP (.gsa) THAT YtepmcdcncjimeaaProg.lean LOADS. Nothing in Lean hashes anything: it is a label: what it is worth is what the hold of that sum in a sandbox is worth. -/
noncomputable def Try.pinned : Pinned := { name := "ytepmcdcncjimeaa", sum := "ed6792041e9d4f35307626afd61333ea034d5ba577e2fb2457661456edd709d7", checked := Try.checked }
namespace Rows
def none {H : Type} : Left H := { results := [], args := [] }

/-- 'catchwordlaw06.PostTells': WHATEVER THE INPUT: true; the input reads as it did. -/
def postTellsSpec : ChangeSpec := { name := "postTells", fn := fun _ => fun
  | [d1, d2, d3, d4] => { results := [.lit (.bool true)], args := [d1, d2, d3, d4] }
  | _ => none }
def postTellsRow : OpenClaim := { program := "ytepmcdcncjimeaa", sum := "ed6792041e9d4f35307626afd61333ea034d5ba577e2fb2457661456edd709d7", func := "catchword/catchwordlaw06.PostTells", spec := "postTells", inPlace := ["slices.overlaps[catchword/api.Post]", "slices.overlaps[int]"], unfollowed := true, recurses := true, apart := false }
def PostTellsSaid : Prop := postTellsRow.holds Try.pinned (OpenSpec.ofChange postTellsSpec)

/-- ITS FALSE NEIGHBOUR: 'it returns false'. Refute it at one input. -/
def postTellsWrong : ChangeSpec := { name := "postTells", fn := fun _ => fun
  | [d1, d2, d3, d4] => { results := [.lit (.bool false)], args := [d1, d2, d3, d4] }
  | _ => none }
def PostTellsWrongFalsely : Prop := postTellsRow.holds Try.pinned (OpenSpec.ofChange postTellsWrong)

/-- 'catchwordlaw06.PostPacks': WHATEVER THE INPUT: true; the input reads as it did. -/
def postPacksSpec : ChangeSpec := { name := "postPacks", fn := fun _ => fun
  | [d1, d2] => { results := [.lit (.bool true)], args := [d1, d2] }
  | _ => none }
def postPacksRow : OpenClaim := { program := "ytepmcdcncjimeaa", sum := "ed6792041e9d4f35307626afd61333ea034d5ba577e2fb2457661456edd709d7", func := "catchword/catchwordlaw06.PostPacks", spec := "postPacks", inPlace := ["slices.overlaps[catchword/api.Post]", "slices.overlaps[int]"], unfollowed := true, recurses := true, apart := false }
def PostPacksSaid : Prop := postPacksRow.holds Try.pinned (OpenSpec.ofChange postPacksSpec)

/-- ITS FALSE NEIGHBOUR: 'it returns false'. Refute it at one input. -/
def postPacksWrong : ChangeSpec := { name := "postPacks", fn := fun _ => fun
  | [d1, d2] => { results := [.lit (.bool false)], args := [d1, d2] }
  | _ => none }
def PostPacksWrongFalsely : Prop := postPacksRow.holds Try.pinned (OpenSpec.ofChange postPacksWrong)

/-- 'catchwordlaw06.PostSeeks': WHATEVER THE INPUT: true; the input reads as it did. -/
def postSeeksSpec : ChangeSpec := { name := "postSeeks", fn := fun _ => fun
  | [d1, d2] => { results := [.lit (.bool true)], args := [d1, d2] }
  | _ => none }
def postSeeksRow : OpenClaim := { program := "ytepmcdcncjimeaa", sum := "ed6792041e9d4f35307626afd61333ea034d5ba577e2fb2457661456edd709d7", func := "catchword/catchwordlaw06.PostSeeks", spec := "postSeeks", inPlace := ["slices.overlaps[catchword/api.Post]", "slices.overlaps[int]"], unfollowed := true, recurses := true, apart := false }
def PostSeeksSaid : Prop := postSeeksRow.holds Try.pinned (OpenSpec.ofChange postSeeksSpec)

/-- ITS FALSE NEIGHBOUR: 'it returns false'. Refute it at one input. -/
def postSeeksWrong : ChangeSpec := { name := "postSeeks", fn := fun _ => fun
  | [d1, d2] => { results := [.lit (.bool false)], args := [d1, d2] }
  | _ => none }
def PostSeeksWrongFalsely : Prop := postSeeksRow.holds Try.pinned (OpenSpec.ofChange postSeeksWrong)

/-- 'catchwordlaw06.PostBack': WHATEVER THE INPUT: true; the input reads as it did. -/
def postBackSpec : ChangeSpec := { name := "postBack", fn := fun _ => fun
  | [d1, d2] => { results := [.lit (.bool true)], args := [d1, d2] }
  | _ => none }
def postBackRow : OpenClaim := { program := "ytepmcdcncjimeaa", sum := "ed6792041e9d4f35307626afd61333ea034d5ba577e2fb2457661456edd709d7", func := "catchword/catchwordlaw06.PostBack", spec := "postBack", inPlace := ["slices.overlaps[catchword/api.Post]", "slices.overlaps[int]"], unfollowed := true, recurses := true, apart := false }
def PostBackSaid : Prop := postBackRow.holds Try.pinned (OpenSpec.ofChange postBackSpec)

/-- ITS FALSE NEIGHBOUR: 'it returns false'. Refute it at one input. -/
def postBackWrong : ChangeSpec := { name := "postBack", fn := fun _ => fun
  | [d1, d2] => { results := [.lit (.bool false)], args := [d1, d2] }
  | _ => none }
def PostBackWrongFalsely : Prop := postBackRow.holds Try.pinned (OpenSpec.ofChange postBackWrong)

/-- 'catchwordlaw06.PostOrder': WHATEVER THE INPUT: true; the input reads as it did. -/
def postOrderSpec : ChangeSpec := { name := "postOrder", fn := fun _ => fun
  | [d1, d2, d3, d4, d5] => { results := [.lit (.bool true)], args := [d1, d2, d3, d4, d5] }
  | _ => none }
def postOrderRow : OpenClaim := { program := "ytepmcdcncjimeaa", sum := "ed6792041e9d4f35307626afd61333ea034d5ba577e2fb2457661456edd709d7", func := "catchword/catchwordlaw06.PostOrder", spec := "postOrder", inPlace := ["slices.overlaps[catchword/api.Post]", "slices.overlaps[int]"], unfollowed := true, recurses := true, apart := false }
def PostOrderSaid : Prop := postOrderRow.holds Try.pinned (OpenSpec.ofChange postOrderSpec)

/-- ITS FALSE NEIGHBOUR: 'it returns false'. Refute it at one input. -/
def postOrderWrong : ChangeSpec := { name := "postOrder", fn := fun _ => fun
  | [d1, d2, d3, d4, d5] => { results := [.lit (.bool false)], args := [d1, d2, d3, d4, d5] }
  | _ => none }
def PostOrderWrongFalsely : Prop := postOrderRow.holds Try.pinned (OpenSpec.ofChange postOrderWrong)

/-- 'catchwordlaw06.PostFirst': WHATEVER THE INPUT: true; the input reads as it did. -/
def postFirstSpec : ChangeSpec := { name := "postFirst", fn := fun _ => fun
  | [d1, d2] => { results := [.lit (.bool true)], args := [d1, d2] }
  | _ => none }
def postFirstRow : OpenClaim := { program := "ytepmcdcncjimeaa", sum := "ed6792041e9d4f35307626afd61333ea034d5ba577e2fb2457661456edd709d7", func := "catchword/catchwordlaw06.PostFirst", spec := "postFirst", inPlace := ["slices.overlaps[catchword/api.Post]", "slices.overlaps[int]"], unfollowed := true, recurses := true, apart := false }
def PostFirstSaid : Prop := postFirstRow.holds Try.pinned (OpenSpec.ofChange postFirstSpec)

/-- ITS FALSE NEIGHBOUR: 'it returns false'. Refute it at one input. -/
def postFirstWrong : ChangeSpec := { name := "postFirst", fn := fun _ => fun
  | [d1, d2] => { results := [.lit (.bool false)], args := [d1, d2] }
  | _ => none }
def PostFirstWrongFalsely : Prop := postFirstRow.holds Try.pinned (OpenSpec.ofChange postFirstWrong)

/-- 'catchwordlaw06.PostCuts': WHATEVER THE INPUT: true; the input reads as it did. -/
def postCutsSpec : ChangeSpec := { name := "postCuts", fn := fun _ => fun
  | [d1, d2, d3] => { results := [.lit (.bool true)], args := [d1, d2, d3] }
  | _ => none }
def postCutsRow : OpenClaim := { program := "ytepmcdcncjimeaa", sum := "ed6792041e9d4f35307626afd61333ea034d5ba577e2fb2457661456edd709d7", func := "catchword/catchwordlaw06.PostCuts", spec := "postCuts", inPlace := ["slices.overlaps[catchword/api.Post]", "slices.overlaps[int]"], unfollowed := true, recurses := true, apart := false }
def PostCutsSaid : Prop := postCutsRow.holds Try.pinned (OpenSpec.ofChange postCutsSpec)

/-- ITS FALSE NEIGHBOUR: 'it returns false'. Refute it at one input. -/
def postCutsWrong : ChangeSpec := { name := "postCuts", fn := fun _ => fun
  | [d1, d2, d3] => { results := [.lit (.bool false)], args := [d1, d2, d3] }
  | _ => none }
def PostCutsWrongFalsely : Prop := postCutsRow.holds Try.pinned (OpenSpec.ofChange postCutsWrong)

/- THE SECOND FORM. 'bulk': how many values and letters a reading holds, each counted each time it is reached (what is shared counts as often as it is met; a slice's spare places count too). A statement '..UptoSaid' is the law's where the arguments, and the package variables that the reading takes, are together of bulk at most 1048576: NARROWER than '..Said'. Prove '..Said' where nothing that the law and all that it calls make is longer than what came in: it says more and counts as full. Else prove '..UptoSaid'. A law counts once. -/
mutual
def uptoBulk {H : Type} : DataW H → Nat
  | .lit (.string bytes) => bytes.length + 1
  | .lit _ => 1
  | .nil => 1
  | .ptr d => uptoBulk d + 1
  | .slice elems spare => uptoBulkAll elems + uptoBulkAll spare + 1
  | .agg parts => uptoBulkAll parts + 1
  | .iface _ d => uptoBulk d + 1
  | .map entries => uptoBulkEntries entries + 1
  | .held _ => 1
def uptoBulkAll {H : Type} : List (DataW H) → Nat
  | [] => 0
  | d :: r => uptoBulk d + uptoBulkAll r
def uptoBulkEntries {H : Type} : List (Lit × DataW H) → Nat
  | [] => 0
  | x :: r => uptoBulkEntry x + uptoBulkEntries r
def uptoBulkEntry {H : Type} : Lit × DataW H → Nat
  | (.string bytes, d) => bytes.length + uptoBulk d + 1
  | (_, d) => uptoBulk d + 1
 end
def uptoSmall : (H : Type) → List (DataW H) → Bool := fun _ ds => decide (uptoBulkAll ds ≤ 1048576)
def OpenSpec.upto (s : _root_.Go.ChangeSpec) : _root_.Go.OpenSpec := { _root_.Go.OpenSpec.ofChange s with cond := some uptoSmall }

/-- 'catchwordlaw06.PostTells', WHERE WHAT IT READS IS OF BULK AT MOST 1048576: true; the input reads as it did. -/
def postTellsUptoRow : OpenClaim := { program := "ytepmcdcncjimeaa", sum := "ed6792041e9d4f35307626afd61333ea034d5ba577e2fb2457661456edd709d7", func := "catchword/catchwordlaw06.PostTells", spec := "postTells", inPlace := ["slices.overlaps[catchword/api.Post]", "slices.overlaps[int]"], unfollowed := true, recurses := true, apart := false, narrowed := true }
def PostTellsUptoSaid : Prop := postTellsUptoRow.holds Try.pinned (OpenSpec.upto postTellsSpec)

/-- 'catchwordlaw06.PostPacks', WHERE WHAT IT READS IS OF BULK AT MOST 1048576: true; the input reads as it did. -/
def postPacksUptoRow : OpenClaim := { program := "ytepmcdcncjimeaa", sum := "ed6792041e9d4f35307626afd61333ea034d5ba577e2fb2457661456edd709d7", func := "catchword/catchwordlaw06.PostPacks", spec := "postPacks", inPlace := ["slices.overlaps[catchword/api.Post]", "slices.overlaps[int]"], unfollowed := true, recurses := true, apart := false, narrowed := true }
def PostPacksUptoSaid : Prop := postPacksUptoRow.holds Try.pinned (OpenSpec.upto postPacksSpec)

/-- 'catchwordlaw06.PostSeeks', WHERE WHAT IT READS IS OF BULK AT MOST 1048576: true; the input reads as it did. -/
def postSeeksUptoRow : OpenClaim := { program := "ytepmcdcncjimeaa", sum := "ed6792041e9d4f35307626afd61333ea034d5ba577e2fb2457661456edd709d7", func := "catchword/catchwordlaw06.PostSeeks", spec := "postSeeks", inPlace := ["slices.overlaps[catchword/api.Post]", "slices.overlaps[int]"], unfollowed := true, recurses := true, apart := false, narrowed := true }
def PostSeeksUptoSaid : Prop := postSeeksUptoRow.holds Try.pinned (OpenSpec.upto postSeeksSpec)

/-- 'catchwordlaw06.PostBack', WHERE WHAT IT READS IS OF BULK AT MOST 1048576: true; the input reads as it did. -/
def postBackUptoRow : OpenClaim := { program := "ytepmcdcncjimeaa", sum := "ed6792041e9d4f35307626afd61333ea034d5ba577e2fb2457661456edd709d7", func := "catchword/catchwordlaw06.PostBack", spec := "postBack", inPlace := ["slices.overlaps[catchword/api.Post]", "slices.overlaps[int]"], unfollowed := true, recurses := true, apart := false, narrowed := true }
def PostBackUptoSaid : Prop := postBackUptoRow.holds Try.pinned (OpenSpec.upto postBackSpec)

/-- 'catchwordlaw06.PostOrder', WHERE WHAT IT READS IS OF BULK AT MOST 1048576: true; the input reads as it did. -/
def postOrderUptoRow : OpenClaim := { program := "ytepmcdcncjimeaa", sum := "ed6792041e9d4f35307626afd61333ea034d5ba577e2fb2457661456edd709d7", func := "catchword/catchwordlaw06.PostOrder", spec := "postOrder", inPlace := ["slices.overlaps[catchword/api.Post]", "slices.overlaps[int]"], unfollowed := true, recurses := true, apart := false, narrowed := true }
def PostOrderUptoSaid : Prop := postOrderUptoRow.holds Try.pinned (OpenSpec.upto postOrderSpec)

/-- 'catchwordlaw06.PostFirst', WHERE WHAT IT READS IS OF BULK AT MOST 1048576: true; the input reads as it did. -/
def postFirstUptoRow : OpenClaim := { program := "ytepmcdcncjimeaa", sum := "ed6792041e9d4f35307626afd61333ea034d5ba577e2fb2457661456edd709d7", func := "catchword/catchwordlaw06.PostFirst", spec := "postFirst", inPlace := ["slices.overlaps[catchword/api.Post]", "slices.overlaps[int]"], unfollowed := true, recurses := true, apart := false, narrowed := true }
def PostFirstUptoSaid : Prop := postFirstUptoRow.holds Try.pinned (OpenSpec.upto postFirstSpec)

/-- 'catchwordlaw06.PostCuts', WHERE WHAT IT READS IS OF BULK AT MOST 1048576: true; the input reads as it did. -/
def postCutsUptoRow : OpenClaim := { program := "ytepmcdcncjimeaa", sum := "ed6792041e9d4f35307626afd61333ea034d5ba577e2fb2457661456edd709d7", func := "catchword/catchwordlaw06.PostCuts", spec := "postCuts", inPlace := ["slices.overlaps[catchword/api.Post]", "slices.overlaps[int]"], unfollowed := true, recurses := true, apart := false, narrowed := true }
def PostCutsUptoSaid : Prop := postCutsUptoRow.holds Try.pinned (OpenSpec.upto postCutsSpec)

end Rows
end Go.Proofs.Ytepmcdcncjimeaa
