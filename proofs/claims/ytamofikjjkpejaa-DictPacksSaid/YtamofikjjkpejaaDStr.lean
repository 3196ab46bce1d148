/- The order of strings, the other way round, as the printed walks tell it. -/
import Derived.Test.YtamofikjjkpejaaWMore
import Derived.Laws.Strings
namespace Go.Proofs.Ytamofikjjkpejaa.DStr
open Go
theorem bl_total : ∀ x y : List UInt8, (Op.bytesLess x y || x == y) = !Op.bytesLess y x
  | [], [] => rfl
  | [], _ :: _ => rfl
  | _ :: _, [] => rfl
  | a :: x, b :: y => by
    have ih := bl_total x y
    rw [Op.bytesLess, Op.bytesLess, List.cons_beq_cons]
    by_cases h1 : a < b
    · have h2 : ¬ b < a := fun h => by rw [UInt8.lt_iff_toNat_lt] at h h1; omega
      have h3 : ¬ b = a := fun h => by subst h; exact h2 h1
      simp [h1, h2, h3]
    · by_cases h2 : a = b
      · subst h2
        simp [h1, ← ih]
      · have h3 : b < a := by
          rw [UInt8.lt_iff_toNat_lt] at h1 ⊢
          rw [← UInt8.toNat_inj] at h2
          omega
        simp [h1, h2, h3]
theorem str_leq (t : TypeId) (a b : ByteArray) : binOp .leq t (.string a) (.string b) = pure (.bool (!Op.bytesLess b.toList a.toList)) := by
  rw [← bl_total]
  simp [binOp, Op.stringOp]
end Go.Proofs.Ytamofikjjkpejaa.DStr
