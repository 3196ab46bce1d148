-- LAID BY this session's own printer (wip/pr): Lean checks it
import Derived.Test.YtoedahdhlcagkaaPFrameTurnedx0
namespace Go.Proofs.Ytoedahdhlcagkaa.PFrameTurned
open Go.RowKit Go.Proofs.YtoedahdhlcagkaaW.PrintWords Go.Proofs.YtoedahdhlcagkaaW.PrintLast Go.Proofs.YtoedahdhlcagkaaW.PrintMore
attribute [local go_sem] max2_int min2_int max_two min_two max_three min_three max_four min_four   -- for this text's walks alone
set_option linter.unusedVariables false
set_option linter.unusedSimpArgs false

theorem eqA33 (d : Nat) (w : World) (x0 y0 : Int) (x1 y1 : Int) (x2 y2 : Int) (x3 y3 : Int) :
  (Op.equalIn (d + 2) 33 (.agg #[.int .u8 x0, .int .u8 x1, .int .u8 x2, .int .u8 x3]) (.agg #[.int .u8 y0, .int .u8 y1, .int .u8 y2, .int .u8 y3])).run Try.prog w = .ok (x0 == y0 && (x1 == y1 && (x2 == y2 && (x3 == y3)))) w := by
 have hu := Try.underlying33
 have hu5 := Try.underlying5
 have hi := info5
 unfold Op.equalIn
 go_simp
 rw [show List.range' 0 4 = [0, 1, 2, 3] from rfl]
 simp only [List.forIn_cons, List.forIn_nil]
 go_simp
 by_cases h0 : x0 = y0 <;> by_cases h1 : x1 = y1 <;> by_cases h2 : x2 = y2 <;> by_cases h3 : x3 = y3 <;> simp [h0, h1, h2, h3]
end Go.Proofs.Ytoedahdhlcagkaa.PFrameTurned
