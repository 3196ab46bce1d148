-- LAID BY this session's own printer (wip/pr): Lean checks it
import Derived.Test.YtepmcdcncjimeaaPPostTellsx0
import Derived.Deep.RegionLaw
import Derived.Deep.RegionWith
import Derived.RangeFuncNested
import Derived.RangeFuncBound
import Derived.RangeFuncCalls
import Derived.RangeFuncLeaves
import Derived.RangeFuncFrom
import Derived.RangeFuncWrites
import Derived.RangeFuncBox
import Derived.Sort.LoopGhostIn
import Derived.OrdersIn
import Derived.TacticsInMore
import Derived.Shelf.Spec.SlicesInsert
import Derived.Shelf.Spec.SlicesInsertGrow
import Derived.Shelf.Abstract
import Derived.Test.YtepmcdcncjimeaaVList
namespace Go.Proofs.Ytepmcdcncjimeaa.PPostTells
open Go.RowKit Go.Proofs.YtepmcdcncjimeaaW.PrintWords Go.Proofs.YtepmcdcncjimeaaW.PrintLast Go.Proofs.YtepmcdcncjimeaaW.PrintMore
attribute [local go_sem] max2_int min2_int max_two min_two max_three min_three max_four min_four   -- for this text's walks alone
set_option linter.unusedVariables false
set_option linter.unusedSimpArgs false

/-! ### slices_Clone_int_int: function 51 -/
def slices_Clone_int_int.f (l0 : List Int) : Option (List Int) := if l0.length < 17592186044416 then (some l0) else (none)
set_option maxHeartbeats 8000000 in
set_option maxRecDepth 100000 in
theorem slices_Clone_int_int.calls (A0 : Option Addr) (c0 : Nat) (l0 : List Int) (r : List Int) (w : World) (hr0 : Kd.C (Kd.int .i64) w A0 l0.length l0) (hc0 : l0.length ≤ c0) (h : slices_Clone_int_int.f l0 = some r) :
  Calls Try.prog 51 #[.slice A0 l0.length c0] w fun e w' => ∃ v0_ : Value, e = .returned (v0_) ∧ Kd.R (Kd.int .i64) 3 w' w.heap.size (fun _ => True) v0_ r ∧ Below w.heap.size w w' := by
 unfold slices_Clone_int_int.f at h
 split at h
 ·rename_i hl
  obtain rfl := Option.some.inj h
  clear h
  have hq : ∀ (w : World) (a : Option Addr) (n c n' c' : Nat), (binOp .eql 37 (.slice a n c) (.slice none n' c')).run Try.prog w = .ok (.bool a.isNone) w := fun w a n c n' c' => Lib.run_eql_slice_nil w _ _ a n c n' c' Try.underlying37
  obtain ⟨hlen, hbig, hcells⟩ := Kd.reads_of_C (d := (0 : Int)) (h1 := fun _ => rfl) (enc := (Value.int .i64)) hr0
  cases A0 with
  | none =>
   have h0 : l0 = [] := by
    rcases Nat.eq_zero_or_pos l0.length with h | h
    ·exact List.eq_nil_of_length_eq_zero h
    ·obtain ⟨ad, he, _⟩ := hcells h; cases he
   subst h0
   go_enter Try.func51, Try.ntmps51
   go_wp2
   go_ret
   exact ⟨_, rfl, Kd.R_nil _ _ _ _ _, Below.refl _ _⟩
  | some ad =>
   obtain ⟨i0, hi, hz0, hz1, hz2⟩ := info_parts info3
   have A := Aside0.mk hcells
   obtain ⟨news, hnews⟩ : ∃ news, Aside0 (news = l0.map (Value.int .i64)) := ⟨_, ⟨rfl⟩⟩
   have hnl : news.length = l0.length := by rw [hnews.out, List.length_map]
   clear hcells hr0
   go_enter Try.func51, Try.ntmps51
   go_wp2_with (at_builtin; refine wpList_append_own _ rfl _ _ 37 rfl w.heap.size 3 i0 (.int .i64 0) 1 8 Try.underlying37 hi hz0 hz1 hz2 rfl (by decide) _ _ _ rfl (World.ownsRow_made w #[] 0 (Nat.le_refl _) (Nat.zero_le _) rfl) ad l0.length c0 news rfl ?qc1 ?qc2 ?qc3 ?qc4 ?qc5 ?qc6 ?_)
   (try (case qc1 => rw [hnl, Nat.mul_one]))
   case qc2 =>
    intro j u hj
    have hjl := (List.getElem?_eq_some_iff.1 hj).1
    rw [hnl] at hjl
    rw [hnews.out] at hj
    obtain ⟨ad', he, hcell⟩ := A.out (by omega)
    obtain rfl : ad' = ad := by cases he; rfl
    refine Lib.cell?_alloc_some _ ?_
    rw [hcell j hjl]
    rw [List.getElem?_map, List.getElem?_eq_getElem hjl] at hj
    simp only [Option.map_some, Option.some.injEq] at hj
    rw [← hj, List.getD_eq_getElem?_getD, List.getElem?_eq_getElem hjl]
    rfl
   case qc3 => intro u hu; rw [hnews.out] at hu; obtain ⟨x, _, rfl⟩ := List.mem_map.1 hu; rfl
   case qc4 => unfold maxLen; omega
   case qc5 => omega
   (try (case qc6 => simp))
   intro v' w1 hown hgrow hnil
   go_wp2
   go_ret
   refine ⟨v', rfl, Kd.R_of_own (h1 := fun _ => rfl) (by rw [hnews.out] at hown; exact hown) (fun _ _ => trivial), ?_⟩
   exact ((Below.refl _ w).alloc (Nat.le_refl _) _).grown hgrow (by simp) (by intro k hk; simp [Value.ownBlock] at hk; omega)
 ·cases h

end Go.Proofs.Ytepmcdcncjimeaa.PPostTells
