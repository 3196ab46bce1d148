/- The row of the law ScoreAdds, out of its pure statement and the walk. -/
import Derived.Test.YtljpdpfflmoheaaRows
import Derived.Test.YtljpdpfflmoheaaPScoreAddsx4
import Derived.Test.YtljpdpfflmoheaaPureScoreAdds
import Derived.Test.YtljpdpfflmoheaaOpens
import Derived.WalkKit
import Derived.ProofKit
import Derived.OpenShut
import Derived.ShutString
import Derived.ChangeOld
import Derived.Below
import Derived.SizedLaws
namespace Go.Proofs.Ytljpdpfflmoheaa.scoreAdds
open Go.ChangeShapes Go.WideShapes Go.ChangeAt Go.RowKit Go.Proofs.Ytljpdpfflmoheaa.PScoreAdds Go.Proofs.Ytljpdpfflmoheaa.Opens Go.Proofs.YtljpdpfflmoheaaW.PrintWords
open Go.ChangeMaps (open_string shut_string)
theorem own : ownKnob Try.prog.godebug = none := by kernel_rfl
theorem laidOut : laidOutB Try.prog = true := by kernel_rfl
set_option maxRecDepth 100000 in
theorem lifted (os : Os) (started : os.Started) (H : Type) (enc : TypeId × Value → H) :
    ReturnsInHanded {} Try.checked os 6 .any (Rows.scoreAddsSpec.pre6 enc Try.prog Try.f6 Rows.scoreAddsRow.domain false) (Rows.scoreAddsSpec.post enc Try.prog Try.f6 false true false false) := by
  refine returnsInHanded_of_change_sized (C := Try.checked) own started (by kernel_rfl) Try.func6
    (ChangeSpec.witness6 (enc := enc) (C := Try.checked) false ⟨#[], #[.agg #[.int .u64 0, .int .u64 0], .agg #[.int .u64 0, .int .u64 0], .agg #[.int .u64 0, .int .u64 0]], []⟩ 8 (by kernel_rfl) (by kernel_rfl) (by kernel_rfl) (by kernel_rfl)) ?_
  intro W base args ds gs before hval0 hW _ hsz0 _
  have hsz : (DataW.weightsEach Try.prog (Try.f6.params.toList ++ Rows.scoreAddsSpec.plain.varTypes Try.prog) (ds ++ gs)).all (· ≤ reachBytes) = true := hsz0
  have hval : ∀ (j : Nat) t v, Try.f6.params[j]? = some t → args[j]? = some v → Value.okWide Try.prog W .any base t v := hval0
  have hW' := hW
  obtain ⟨p, q, hA0, hV, rfl, _, _⟩ := hW
  have hA : DataW.TrodAll enc Try.prog W 0 (fun _ => true) true Try.f6.params.toList args.toList ds p := hA0
  rw [Try.params6] at hA hval hsz
  obtain ⟨v0, vs0, d0, ds0, p0, q0, hargs, rfl, rfl, h0, r0⟩ := trodAll_cons hA
  obtain ⟨v1, vs1, d1, ds1, p1, q1, rfl, rfl, rfl, h1, r1⟩ := trodAll_cons r0
  obtain ⟨v2, vs2, d2, ds2, p2, q2, rfl, rfl, rfl, h2, r2⟩ := trodAll_cons r1
  obtain ⟨rfl, rfl, rfl⟩ := trodAll_nil r2
  obtain rfl : args = #[v0, v1, v2] := by cases args; simp_all
  obtain ⟨rfl, rfl⟩ := trodVars_none hV
  have k0 := h0
  have lt0 : ∀ x ∈ p0, x.block < W.heap.size := by obtain ⟨m, hm⟩ := k0; exact DataW.trod_lt m _ _ _ hm
  obtain ⟨⟨a0_0, a0_1⟩, cs0, rfl, ⟨_, _, rfl, rfl, rfl⟩, g0⟩ := arg_struct Try.underlying24 (show Opens Try.prog k24 24 _ from opens_iso (fun x : S24 => (x.f0, x.f1)) (fun p => ⟨p.1, p.2⟩) (fun _ => rfl) (opens_pair Try.underlying24 rfl (by kernel_rfl) (by kernel_rfl) (opens_int Try.underlying22) (opens_int Try.underlying22))) (hval 0 24 v0 rfl rfl) h0 hsz (j := 0) rfl rfl
  have k1 := h1
  have lt1 : ∀ x ∈ p1, x.block < W.heap.size := by obtain ⟨m, hm⟩ := k1; exact DataW.trod_lt m _ _ _ hm
  obtain ⟨⟨a1_0, a1_1⟩, cs1, rfl, ⟨_, _, rfl, rfl, rfl⟩, g1⟩ := arg_struct Try.underlying24 (show Opens Try.prog k24 24 _ from opens_iso (fun x : S24 => (x.f0, x.f1)) (fun p => ⟨p.1, p.2⟩) (fun _ => rfl) (opens_pair Try.underlying24 rfl (by kernel_rfl) (by kernel_rfl) (opens_int Try.underlying22) (opens_int Try.underlying22))) (hval 1 24 v1 rfl rfl) h1 hsz (j := 1) rfl rfl
  have k2 := h2
  have lt2 : ∀ x ∈ p2, x.block < W.heap.size := by obtain ⟨m, hm⟩ := k2; exact DataW.trod_lt m _ _ _ hm
  obtain ⟨⟨a2_0, a2_1⟩, cs2, rfl, ⟨_, _, rfl, rfl, rfl⟩, g2⟩ := arg_struct Try.underlying24 (show Opens Try.prog k24 24 _ from opens_iso (fun x : S24 => (x.f0, x.f1)) (fun p => ⟨p.1, p.2⟩) (fun _ => rfl) (opens_pair Try.underlying24 rfl (by kernel_rfl) (by kernel_rfl) (opens_int Try.underlying22) (opens_int Try.underlying22))) (hval 2 24 v2 rfl rfl) h2 hsz (j := 2) rfl rfl
  clear hA0 hval0 hsz0 hsz
  obtain ⟨k, hf⟩ := Pure.ScoreAdds a0_0 a0_1 a1_0 a1_1 a2_0 a2_1 g0.1 g0.2 g1.1 g1.2 g2.1 g2.2
  refine (catchwordlaw19_ScoreAdds.calls k a0_0 a0_1 a1_0 a1_1 a2_0 a2_1 true W hf).mono fun e W' ⟨he, bel0⟩ => ?_
  have bel : Below W.heap.size W W' := bel0
  subst he
  exact ⟨_, rfl, _, _, _, [], _, [], hW', trodAll_mk1 (shut_bool Try.underlying4 _), (trodAll_cons_mk (Below.trod laidOut (by kernel_rfl) (of_decide_eq_true (by kernel_rfl)) k0 bel lt0) (trodAll_cons_mk (Below.trod laidOut (by kernel_rfl) (of_decide_eq_true (by kernel_rfl)) k1 bel lt1) (trodAll_cons_mk (Below.trod laidOut (by kernel_rfl) (of_decide_eq_true (by kernel_rfl)) k2 bel lt2) trodAll_mk0))), rfl, bel.frame _, fun h => by cases h⟩
theorem over : Rows.scoreAddsRow.holds Try.pinned (OpenSpec.ofChange Rows.scoreAddsSpec) :=
  OpenClaim.holds_of_wide 6 Try.f6 rfl rfl rfl rfl rfl rfl rfl ⟨rfl, rfl, rfl, rfl, rfl⟩ rfl rfl rfl rfl rfl (by kernel_rfl) Try.func6 (by kernel_rfl)
    (of_decide_eq_true (by kernel_rfl)) (by unfold Func.isWrapper; first | (rw [if_pos (by decide +kernel)]; kernel_rfl) | (rw [if_neg (by decide +kernel)]; exact ⟨rfl, rfl⟩))
    (fun os started H enc _ => lifted os started H enc)
theorem proved : Rows.ScoreAddsSaid := over
#print axioms proved
end Go.Proofs.Ytljpdpfflmoheaa.scoreAdds
namespace Go.Proofs.Ytljpdpfflmoheaa
/-- The row, under a short name, for the claim. -/
theorem scoreAdds_holds : Rows.ScoreAddsSaid := scoreAdds.proved
end Go.Proofs.Ytljpdpfflmoheaa
