/-
  No cell of these rows narrows 'for every input' (looked for: loops, veiled, ifaces, maps, wideKeys, modest, calm, conditions, laid).
  DERIVED. THE GIVEN ROWS OF THIS SEAT. 7 by the template 'for every input the law returns true; each argument reads behind the call as it read before'; 0 by the template 'total and deterministic' (their statements: YtjjdnefonmlanaaTotals.lean).
  GIVEN WITH THE SEED: the statements are not yours to turn. If you find one false, say at which input.
  Laid BY PROGRAM, IN A SANDBOX (cutbox-rows.mjs): the forced cells as the released guide's own fill.sh prints them over the translation 7894267cd128cb20… (all of the seat's roots in one cut). By AI agents, Wed Nov 11 2026. No macro, syntax, notation, axiom, sorry.
-/
import Derived.Test.YtjjdnefonmlanaaChecked
import GoSem.Claim
import GoSem.ClaimJoined
import GoSem.ClaimMapViews
import Derived.JoinedTies
import Derived.KernelRfl
namespace Go.Proofs.Ytjjdnefonmlanaa
/- THE CELL 'sum', in the pinned program and in every row, IS THE sha256 OF THE DUMP (.gsa) THAT YtjjdnefonmlanaaProg.lean LOADS. Nothing in Lean hashes anything: it is a label: what it is worth is what the hold of that sum in a sandbox is worth. -/
noncomputable def Try.pinned : Pinned := { name := "ytjjdnefonmlanaa", sum := "7894267cd128cb20e7651eaec7dc1ed2343d65c854580e0d94518bd685a5637a", checked := Try.checked }
namespace Rows
def none {H : Type} : Left H := { results := [], args := [] }

/-- 'catchwordlaw04.LiveTells': WHATEVER THE INPUT: true; the input reads as it did. -/
def liveTellsSpec : ChangeSpec := { name := "liveTells", fn := fun _ => fun
  | [d1, d2, d3] => { results := [.lit (.bool true)], args := [d1, d2, d3] }
  | _ => none }
def liveTellsRow : OpenClaim := { program := "ytjjdnefonmlanaa", sum := "7894267cd128cb20e7651eaec7dc1ed2343d65c854580e0d94518bd685a5637a", func := "catchword/catchwordlaw04.LiveTells", spec := "liveTells", unfollowed := true, recurses := true, apart := false }
def LiveTellsSaid : Prop := liveTellsRow.holds Try.pinned (OpenSpec.ofChange liveTellsSpec)

/-- ITS FALSE NEIGHBOUR: 'it returns false'. Refute it at one input. -/
def liveTellsWrong : ChangeSpec := { name := "liveTells", fn := fun _ => fun
  | [d1, d2, d3] => { results := [.lit (.bool false)], args := [d1, d2, d3] }
  | _ => none }
def LiveTellsWrongFalsely : Prop := liveTellsRow.holds Try.pinned (OpenSpec.ofChange liveTellsWrong)

/-- 'catchwordlaw04.LivePacks': WHATEVER THE INPUT: true; the input reads as it did. -/
def livePacksSpec : ChangeSpec := { name := "livePacks", fn := fun _ => fun
  | [d1, d2] => { results := [.lit (.bool true)], args := [d1, d2] }
  | _ => none }
def livePacksRow : OpenClaim := { program := "ytjjdnefonmlanaa", sum := "7894267cd128cb20e7651eaec7dc1ed2343d65c854580e0d94518bd685a5637a", func := "catchword/catchwordlaw04.LivePacks", spec := "livePacks", unfollowed := true, recurses := true, apart := false }
def LivePacksSaid : Prop := livePacksRow.holds Try.pinned (OpenSpec.ofChange livePacksSpec)

/-- ITS FALSE NEIGHBOUR: 'it returns false'. Refute it at one input. -/
def livePacksWrong : ChangeSpec := { name := "livePacks", fn := fun _ => fun
  | [d1, d2] => { results := [.lit (.bool false)], args := [d1, d2] }
  | _ => none }
def LivePacksWrongFalsely : Prop := livePacksRow.holds Try.pinned (OpenSpec.ofChange livePacksWrong)

/-- 'catchwordlaw04.LiveBack': WHATEVER THE INPUT: true; the input reads as it did. -/
def liveBackSpec : ChangeSpec := { name := "liveBack", fn := fun _ => fun
  | [d1, d2] => { results := [.lit (.bool true)], args := [d1, d2] }
  | _ => none }
def liveBackRow : OpenClaim := { program := "ytjjdnefonmlanaa", sum := "7894267cd128cb20e7651eaec7dc1ed2343d65c854580e0d94518bd685a5637a", func := "catchword/catchwordlaw04.LiveBack", spec := "liveBack", unfollowed := true, recurses := true, apart := false }
def LiveBackSaid : Prop := liveBackRow.holds Try.pinned (OpenSpec.ofChange liveBackSpec)

/-- ITS FALSE NEIGHBOUR: 'it returns false'. Refute it at one input. -/
def liveBackWrong : ChangeSpec := { name := "liveBack", fn := fun _ => fun
  | [d1, d2] => { results := [.lit (.bool false)], args := [d1, d2] }
  | _ => none }
def LiveBackWrongFalsely : Prop := liveBackRow.holds Try.pinned (OpenSpec.ofChange liveBackWrong)

/-- 'catchwordlaw04.LiveKills': WHATEVER THE INPUT: true; the input reads as it did. -/
def liveKillsSpec : ChangeSpec := { name := "liveKills", fn := fun _ => fun
  | [d1, d2, d3] => { results := [.lit (.bool true)], args := [d1, d2, d3] }
  | _ => none }
def liveKillsRow : OpenClaim := { program := "ytjjdnefonmlanaa", sum := "7894267cd128cb20e7651eaec7dc1ed2343d65c854580e0d94518bd685a5637a", func := "catchword/catchwordlaw04.LiveKills", spec := "liveKills", unfollowed := true, recurses := true, apart := false }
def LiveKillsSaid : Prop := liveKillsRow.holds Try.pinned (OpenSpec.ofChange liveKillsSpec)

/-- ITS FALSE NEIGHBOUR: 'it returns false'. Refute it at one input. -/
def liveKillsWrong : ChangeSpec := { name := "liveKills", fn := fun _ => fun
  | [d1, d2, d3] => { results := [.lit (.bool false)], args := [d1, d2, d3] }
  | _ => none }
def LiveKillsWrongFalsely : Prop := liveKillsRow.holds Try.pinned (OpenSpec.ofChange liveKillsWrong)

/-- 'catchwordlaw04.LiveOrder': WHATEVER THE INPUT: true; the input reads as it did. -/
def liveOrderSpec : ChangeSpec := { name := "liveOrder", fn := fun _ => fun
  | [d1, d2, d3] => { results := [.lit (.bool true)], args := [d1, d2, d3] }
  | _ => none }
def liveOrderRow : OpenClaim := { program := "ytjjdnefonmlanaa", sum := "7894267cd128cb20e7651eaec7dc1ed2343d65c854580e0d94518bd685a5637a", func := "catchword/catchwordlaw04.LiveOrder", spec := "liveOrder", unfollowed := true, recurses := true, apart := false }
def LiveOrderSaid : Prop := liveOrderRow.holds Try.pinned (OpenSpec.ofChange liveOrderSpec)

/-- ITS FALSE NEIGHBOUR: 'it returns false'. Refute it at one input. -/
def liveOrderWrong : ChangeSpec := { name := "liveOrder", fn := fun _ => fun
  | [d1, d2, d3] => { results := [.lit (.bool false)], args := [d1, d2, d3] }
  | _ => none }
def LiveOrderWrongFalsely : Prop := liveOrderRow.holds Try.pinned (OpenSpec.ofChange liveOrderWrong)

/-- 'catchwordlaw04.LiveBoth': WHATEVER THE INPUT: true; the input reads as it did. -/
def liveBothSpec : ChangeSpec := { name := "liveBoth", fn := fun _ => fun
  | [d1, d2, d3] => { results := [.lit (.bool true)], args := [d1, d2, d3] }
  | _ => none }
def liveBothRow : OpenClaim := { program := "ytjjdnefonmlanaa", sum := "7894267cd128cb20e7651eaec7dc1ed2343d65c854580e0d94518bd685a5637a", func := "catchword/catchwordlaw04.LiveBoth", spec := "liveBoth", unfollowed := true, recurses := true, apart := false }
def LiveBothSaid : Prop := liveBothRow.holds Try.pinned (OpenSpec.ofChange liveBothSpec)

/-- ITS FALSE NEIGHBOUR: 'it returns false'. Refute it at one input. -/
def liveBothWrong : ChangeSpec := { name := "liveBoth", fn := fun _ => fun
  | [d1, d2, d3] => { results := [.lit (.bool false)], args := [d1, d2, d3] }
  | _ => none }
def LiveBothWrongFalsely : Prop := liveBothRow.holds Try.pinned (OpenSpec.ofChange liveBothWrong)

/-- 'catchwordlaw04.LiveNew': WHATEVER THE INPUT: true; the input reads as it did. -/
def liveNewSpec : ChangeSpec := { name := "liveNew", fn := fun _ => fun
  | [d1, d2] => { results := [.lit (.bool true)], args := [d1, d2] }
  | _ => none }
def liveNewRow : OpenClaim := { program := "ytjjdnefonmlanaa", sum := "7894267cd128cb20e7651eaec7dc1ed2343d65c854580e0d94518bd685a5637a", func := "catchword/catchwordlaw04.LiveNew", spec := "liveNew", unfollowed := true, recurses := true, apart := false }
def LiveNewSaid : Prop := liveNewRow.holds Try.pinned (OpenSpec.ofChange liveNewSpec)

/-- ITS FALSE NEIGHBOUR: 'it returns false'. Refute it at one input. -/
def liveNewWrong : ChangeSpec := { name := "liveNew", fn := fun _ => fun
  | [d1, d2] => { results := [.lit (.bool false)], args := [d1, d2] }
  | _ => none }
def LiveNewWrongFalsely : Prop := liveNewRow.holds Try.pinned (OpenSpec.ofChange liveNewWrong)

/- THE SECOND FORM. 'bulk': how many values and letters a reading holds, each counted each time it is reached (what is shared counts as often as it is met; a slice's spare places count too). A statement '..UptoSaid' is the law's where the arguments, and the package variables that the reading takes, are together of bulk at most 1048576: NARROWER than '..Said'. Prove '..Said' where nothing that the law and all that it calls make is longer than what came in: it says more and counts as full. Else prove '..UptoSaid'. A law counts once. -/
mutual
def uptoBulk {H : Type} : DataW H → Nat
  | .lit (.string bytes) => bytes.length + 1
  | .lit _ => 1
  | .nil => 1
  | .ptr d => uptoBulk d + 1
  | .slice elems spare => uptoBulkAll elems + uptoBulkAll spare + 1
  | .agg parts => uptoBulkAll parts + 1
  | .iface _ d => uptoBulk d + 1
  | .map entries => uptoBulkEntries entries + 1
  | .held _ => 1
def uptoBulkAll {H : Type} : List (DataW H) → Nat
  | [] => 0
  | d :: r => uptoBulk d + uptoBulkAll r
def uptoBulkEntries {H : Type} : List (Lit × DataW H) → Nat
  | [] => 0
  | x :: r => uptoBulkEntry x + uptoBulkEntries r
def uptoBulkEntry {H : Type} : Lit × DataW H → Nat
  | (.string bytes, d) => bytes.length + uptoBulk d + 1
  | (_, d) => uptoBulk d + 1
 end
def uptoSmall : (H : Type) → List (DataW H) → Bool := fun _ ds => decide (uptoBulkAll ds ≤ 1048576)
def OpenSpec.upto (s : _root_.Go.ChangeSpec) : _root_.Go.OpenSpec := { _root_.Go.OpenSpec.ofChange s with cond := some uptoSmall }

/-- 'catchwordlaw04.LiveTells', WHERE WHAT IT READS IS OF BULK AT MOST 1048576: true; the input reads as it did. -/
def liveTellsUptoRow : OpenClaim := { program := "ytjjdnefonmlanaa", sum := "7894267cd128cb20e7651eaec7dc1ed2343d65c854580e0d94518bd685a5637a", func := "catchword/catchwordlaw04.LiveTells", spec := "liveTells", unfollowed := true, recurses := true, apart := false, narrowed := true }
def LiveTellsUptoSaid : Prop := liveTellsUptoRow.holds Try.pinned (OpenSpec.upto liveTellsSpec)

/-- 'catchwordlaw04.LivePacks', WHERE WHAT IT READS IS OF BULK AT MOST 1048576: true; the input reads as it did. -/
def livePacksUptoRow : OpenClaim := { program := "ytjjdnefonmlanaa", sum := "7894267cd128cb20e7651eaec7dc1ed2343d65c854580e0d94518bd685a5637a", func := "catchword/catchwordlaw04.LivePacks", spec := "livePacks", unfollowed := true, recurses := true, apart := false, narrowed := true }
def LivePacksUptoSaid : Prop := livePacksUptoRow.holds Try.pinned (OpenSpec.upto livePacksSpec)

/-- 'catchwordlaw04.LiveBack', WHERE WHAT IT READS IS OF BULK AT MOST 1048576: true; the input reads as it did. -/
def liveBackUptoRow : OpenClaim := { program := "ytjjdnefonmlanaa", sum := "7894267cd128cb20e7651eaec7dc1ed2343d65c854580e0d94518bd685a5637a", func := "catchword/catchwordlaw04.LiveBack", spec := "liveBack", unfollowed := true, recurses := true, apart := false, narrowed := true }
def LiveBackUptoSaid : Prop := liveBackUptoRow.holds Try.pinned (OpenSpec.upto liveBackSpec)

/-- 'catchwordlaw04.LiveKills', WHERE WHAT IT READS IS OF BULK AT MOST 1048576: true; the input reads as it did. -/
def liveKillsUptoRow : OpenClaim := { program := "ytjjdnefonmlanaa", sum := "7894267cd128cb20e7651eaec7dc1ed2343d65c854580e0d94518bd685a5637a", func := "catchword/catchwordlaw04.LiveKills", spec := "liveKills", unfollowed := true, recurses := true, apart := false, narrowed := true }
def LiveKillsUptoSaid : Prop := liveKillsUptoRow.holds Try.pinned (OpenSpec.upto liveKillsSpec)

/-- 'catchwordlaw04.LiveOrder', WHERE WHAT IT READS IS OF BULK AT MOST 1048576: true; the input reads as it did. -/
def liveOrderUptoRow : OpenClaim := { program := "ytjjdnefonmlanaa", sum := "7894267cd128cb20e7651eaec7dc1ed2343d65c854580e0d94518bd685a5637a", func := "catchword/catchwordlaw04.LiveOrder", spec := "liveOrder", unfollowed := true, recurses := true, apart := false, narrowed := true }
def LiveOrderUptoSaid : Prop := liveOrderUptoRow.holds Try.pinned (OpenSpec.upto liveOrderSpec)

/-- 'catchwordlaw04.LiveBoth', WHERE WHAT IT READS IS OF BULK AT MOST 1048576: true; the input reads as it did. -/
def liveBothUptoRow : OpenClaim := { program := "ytjjdnefonmlanaa", sum := "7894267cd128cb20e7651eaec7dc1ed2343d65c854580e0d94518bd685a5637a", func := "catchword/catchwordlaw04.LiveBoth", spec := "liveBoth", unfollowed := true, recurses := true, apart := false, narrowed := true }
def LiveBothUptoSaid : Prop := liveBothUptoRow.holds Try.pinned (OpenSpec.upto liveBothSpec)

/-- 'catchwordlaw04.LiveNew', WHERE WHAT IT READS IS OF BULK AT MOST 1048576: true; the input reads as it did. -/
def liveNewUptoRow : OpenClaim := { program := "ytjjdnefonmlanaa", sum := "7894267cd128cb20e7651eaec7dc1ed2343d65c854580e0d94518bd685a5637a", func := "catchword/catchwordlaw04.LiveNew", spec := "liveNew", unfollowed := true, recurses := true, apart := false, narrowed := true }
def LiveNewUptoSaid : Prop := liveNewUptoRow.holds Try.pinned (OpenSpec.upto liveNewSpec)

end Rows
end Go.Proofs.Ytjjdnefonmlanaa
