-- LAID BY this session's own printer (wip/pr): Lean checks it
import Derived.Test.YtepmcdcncjimeaaPPostFirstx0
import Derived.Test.YtepmcdcncjimeaaPPostFirstx4
import Derived.Test.YtepmcdcncjimeaaPPostFirstx6
import Derived.Test.YtepmcdcncjimeaaPPostFirstx9
import Derived.Deep.RegionLaw
import Derived.Deep.RegionWith
import Derived.RangeFuncNested
import Derived.RangeFuncBound
import Derived.RangeFuncCalls
import Derived.RangeFuncLeaves
import Derived.RangeFuncFrom
import Derived.RangeFuncWrites
import Derived.RangeFuncBox
import Derived.Sort.LoopGhostIn
import Derived.OrdersIn
import Derived.TacticsInMore
import Derived.Shelf.Spec.SlicesInsert
import Derived.Shelf.Spec.SlicesInsertGrow
import Derived.Shelf.Abstract
import Derived.Test.YtepmcdcncjimeaaVList
namespace Go.Proofs.Ytepmcdcncjimeaa.PPostFirst
open Go.RowKit Go.Proofs.YtepmcdcncjimeaaW.PrintWords Go.Proofs.YtepmcdcncjimeaaW.PrintLast Go.Proofs.YtepmcdcncjimeaaW.PrintMore
attribute [local go_sem] max2_int min2_int max_two min_two max_three min_three max_four min_four   -- for this text's walks alone
set_option linter.unusedVariables false
set_option linter.unusedSimpArgs false

/-! ### catchwordlaw06_PostFirst: function 8 -/
def catchwordlaw06_PostFirst.j0 : Nat → List (S39) → Int → Bool → List Int → Bool → Option (Bool)
 | 0, _, _, _, _, _ => none
 | k + 1, x0, x1, x5, x7, x31 => if x31 = true then (some x5) else ((post_Seek.f x7 x1).bind fun bt197 => (if bt197.2.2.2 = 0 then ((post_Find.f k x0 bt197.1).bind fun t205 => (if t205 < 0 then (some false) else (if t205 ≥ (x0.length : Int) then (some false) else (if bt197.1 < x1 then (some false) else (if t205 > 0 then (if 0 ≤ (wrap64 (t205 - 1)) then (if (wrap64 (t205 - 1)) < (x0.length : Int) then (if ((rd_T39 x0 (wrap64 (t205 - 1))).f0) ≥ x1 then (some false) else (if 0 ≤ t205 then (if t205 ≤ (wrap64 (t205 + 1)) then (if (wrap64 (t205 + 1)) ≤ (x0.length : Int) then ((catchwordref06_Same.f k (([(⟨bt197.1, bt197.2.1⟩ : S39)] : List (S39))) ((x0.take ((wrap64 (t205 + 1)) : Int).toNat).drop (t205 : Int).toNat)).bind fun t214 => (if t214 = true then (some (bt197.2.2.1 == (wrap64 (Int.tdiv t205 4)))) else (some false))) else (none)) else (none)) else (none))) else (none)) else (none)) else (if 0 ≤ t205 then (if t205 ≤ (wrap64 (t205 + 1)) then (if (wrap64 (t205 + 1)) ≤ (x0.length : Int) then ((catchwordref06_Same.f k (([(⟨bt197.1, bt197.2.1⟩ : S39)] : List (S39))) ((x0.take ((wrap64 (t205 + 1)) : Int).toNat).drop (t205 : Int).toNat)).bind fun t222 => (if t222 = true then (some (bt197.2.2.1 == (wrap64 (Int.tdiv t205 4)))) else (some false))) else (none)) else (none)) else (none))))))) else (if bt197.2.2.2 = 2 then (if (x0.length : Int) = 0 then (some true) else (if 0 ≤ (wrap64 ((x0.length : Int) - 1)) then (if (wrap64 ((x0.length : Int) - 1)) < (x0.length : Int) then (some (decide (((rd_T39 x0 (wrap64 ((x0.length : Int) - 1))).f0) < x1))) else (none)) else (none))) else (some false))))
def catchwordlaw06_PostFirst.f (k : Nat) (l0 : List (S39)) (a1 : Int) : Option (Bool) := (catchwordlaw06_awake.f).bind fun t191 => ((catchwordlaw06_Few.f k l0).bind fun t192 => ((post_Pack.f k l0).bind fun bt193 => (if t191 = true then (if t192 = true then (catchwordlaw06_PostFirst.j0 k l0 a1 t191 bt193.1 (bt193.2 != 0)) else (catchwordlaw06_PostFirst.j0 k l0 a1 t191 bt193.1 true)) else (catchwordlaw06_PostFirst.j0 k l0 a1 t191 bt193.1 true))))
theorem catchwordlaw06_PostFirst.mono_l : ∀ k, (∀ y0 y1 y2 y3 y4, LeO (catchwordlaw06_PostFirst.j0 k y0 y1 y2 y3 y4) (catchwordlaw06_PostFirst.j0 (k + 1) y0 y1 y2 y3 y4))
 | 0 => fun _ _ _ _ _ r h => by simp [catchwordlaw06_PostFirst.j0] at h
 | k + 1 => by
  have ih0 := catchwordlaw06_PostFirst.mono_l k
  ·intro y0 y1 y2 y3 y4
   unfold catchwordlaw06_PostFirst.j0
   repeat' first
   | (with_reducible exact ih0 _ _ _ _ _)
   | (with_reducible exact catchwordlaw06_Few.mono _ _)
   | (with_reducible exact catchwordref06_Same.mono _ _ _)
   | (with_reducible exact post_Find.mono _ _ _)
   | (with_reducible exact post_Pack.mono _ _)
   | (with_reducible exact LeO.refl _)
   | (with_reducible exact LeO.none _)
   | (with_reducible refine LeO.ite ?_ ?_)
   | (with_reducible refine LeO.bind ?_ (fun _ => ?_))
   | exact ih0 _ _ _ _ _
   | exact catchwordlaw06_Few.mono _ _
   | exact catchwordref06_Same.mono _ _ _
   | exact post_Find.mono _ _ _
   | exact post_Pack.mono _ _
   | exact LeO.none _
   | refine LeO.ite ?_ ?_
   | refine LeO.bind ?_ (fun _ => ?_)
theorem catchwordlaw06_PostFirst.mono : ∀ a0 a1 k, LeO (catchwordlaw06_PostFirst.f k a0 a1) (catchwordlaw06_PostFirst.f (k + 1) a0 a1) := by
 intro a0 a1 k
 have ih0 := catchwordlaw06_PostFirst.mono_l k
 unfold catchwordlaw06_PostFirst.f
 repeat' first
   | (with_reducible exact ih0 _ _ _ _ _)
   | (with_reducible exact catchwordlaw06_Few.mono _ _)
   | (with_reducible exact catchwordref06_Same.mono _ _ _)
   | (with_reducible exact post_Find.mono _ _ _)
   | (with_reducible exact post_Pack.mono _ _)
   | (with_reducible exact LeO.refl _)
   | (with_reducible exact LeO.none _)
   | (with_reducible refine LeO.ite ?_ ?_)
   | (with_reducible refine LeO.bind ?_ (fun _ => ?_))
   | exact ih0 _ _ _ _ _
   | exact catchwordlaw06_Few.mono _ _
   | exact catchwordref06_Same.mono _ _ _
   | exact post_Find.mono _ _ _
   | exact post_Pack.mono _ _
   | exact LeO.none _
   | refine LeO.ite ?_ ?_
   | refine LeO.bind ?_ (fun _ => ?_)
def catchwordlaw06_PostFirst.T12 : Bool × List (List Nat × List Nat) := (true, [([], []), ([0], [0]), ([], []), ([], []), ([], []), ([4], [4]), ([2, 3, 5], [2, 3, 5]), ([1, 6], [1, 6]), ([7, 7, 0, 1, 2, 3, 4, 5, 6, 7], [7])])
def catchwordlaw06_PostFirst.B12 : List Nat := [0, 1, 0, 0, 0, 16, 60, 127, 255]
theorem catchwordlaw06_PostFirst.tab12 : rtab .any (opsOf Try.f8 12) = catchwordlaw06_PostFirst.T12 := by kernel_rfl
theorem catchwordlaw06_PostFirst.bits12 : waitsOk catchwordlaw06_PostFirst.T12.2 catchwordlaw06_PostFirst.B12 = true := by kernel_rfl
set_option maxHeartbeats 8000000 in
set_option maxRecDepth 100000 in
theorem catchwordlaw06_PostFirst.calls (k : Nat) (A0 : Option Addr) (c0 : Nat) (l0 : List (S39)) (a1 : Int) (r : Bool) (w : World) (hr0 : Kd.C k39 w A0 l0.length l0) (hc0 : l0.length ≤ c0) (h : catchwordlaw06_PostFirst.f k l0 a1 = some r) :
  Calls Try.prog 8 #[.slice A0 l0.length c0, .int .i64 a1] w fun e w' => e = .returned (.bool r) ∧ Below w.heap.size w w' := by
 have hu39 := Try.underlying39
 have HR0 := Aside0.mk hr0
 have HC0 := Aside0.mk hc0
 clear hr0 hc0
 have HB := Aside0.mk (Below.refl w.heap.size w)
 have H : ((catchwordlaw06_awake.f).bind fun t191 => ((catchwordlaw06_Few.f k l0).bind fun t192 => ((post_Pack.f k l0).bind fun bt193 => (if t191 = true then (if t192 = true then (catchwordlaw06_PostFirst.j0 k l0 a1 t191 bt193.1 (bt193.2 != 0)) else (catchwordlaw06_PostFirst.j0 k l0 a1 t191 bt193.1 true)) else (catchwordlaw06_PostFirst.j0 k l0 a1 t191 bt193.1 true))))) = some r := h
 clear h
 replace H := Option.bind_eq_some_iff.mp H
 obtain ⟨t191, A30, H⟩ := H
 replace H : ((catchwordlaw06_Few.f k l0).bind fun t192 => ((post_Pack.f k l0).bind fun bt193 => (if t191 = true then (if t192 = true then (catchwordlaw06_PostFirst.j0 k l0 a1 t191 bt193.1 (bt193.2 != 0)) else (catchwordlaw06_PostFirst.j0 k l0 a1 t191 bt193.1 true)) else (catchwordlaw06_PostFirst.j0 k l0 a1 t191 bt193.1 true)))) = some r := H
 have A3 := Aside0.mk A30
 clear A30
 replace H := Option.bind_eq_some_iff.mp H
 obtain ⟨t192, A40, H⟩ := H
 replace H : ((post_Pack.f k l0).bind fun bt193 => (if t191 = true then (if t192 = true then (catchwordlaw06_PostFirst.j0 k l0 a1 t191 bt193.1 (bt193.2 != 0)) else (catchwordlaw06_PostFirst.j0 k l0 a1 t191 bt193.1 true)) else (catchwordlaw06_PostFirst.j0 k l0 a1 t191 bt193.1 true))) = some r := H
 have A4 := Aside0.mk A40
 clear A40
 replace H := Option.bind_eq_some_iff.mp H
 obtain ⟨⟨t193, t194⟩, A50, H⟩ := H
 replace H : (if t191 = true then (if t192 = true then (catchwordlaw06_PostFirst.j0 k l0 a1 t191 t193 (t194 != 0)) else (catchwordlaw06_PostFirst.j0 k l0 a1 t191 t193 true)) else (catchwordlaw06_PostFirst.j0 k l0 a1 t191 t193 true)) = some r := H
 have A5 := Aside0.mk A50
 clear A50
 have HC6 := Aside0.mk H
 clear H
 go_enter Try.func8, Try.ntmps8
 go_upto_region 4 with (first | ((with_reducible refine gate_callee (f := 10) rfl ?_); refine goesL_ (some 14) rfl rfl Try.func10 (by kernel_rfl) rfl #[] rfl (by (try simp only [List.map_toArray, List.map_cons, List.map_nil]); first | done | rfl | (simp only [List.length_drop, List.length_take]; rfl)) ?_; (with_reducible refine (catchwordlaw06_awake.calls  t191 _ A3.out).mono ?_); rintro e w7 ⟨rfl, hb⟩; refine ⟨_, rfl, ?_⟩; have n0_ := Aside0.mk (below_step (by repeat (first | (with_reducible first | exact HB.out | apply below_alloc | apply pw_below_drewN | apply below_drew1) | exact HB.out)) hb); clear HB; have HB := n0_; clear n0_; (try clear hb); (try clear hb2); (try clear hk); (try clear hi)) | ((with_reducible refine gate_callee (f := 11) rfl ?_); refine goesL_ (some 16) rfl rfl Try.func11 (by kernel_rfl) rfl #[.slice A0 l0.length c0] rfl (by (try simp only [List.map_toArray, List.map_cons, List.map_nil]); first | done | rfl | (simp only [List.length_drop, List.length_take]; rfl)) ?_; (with_reducible refine (catchwordlaw06_Few.calls k _ _ l0 t192 _ ?side1 ?side2 A4.out).mono ?_); (case side1 => repeat (first | exact (Kd.C_below HR0.out HB.out) | (with_reducible refine Kd.C_alloc ?_ _) | (with_reducible refine Kd.C_drewN ?_ _) | (with_reducible refine Kd.C_drew ?_))); (case side2 => exact HC0.out); rintro e w' ⟨rfl, ⟨nd, rfl⟩⟩; refine ⟨_, rfl, ?_⟩) | ((with_reducible refine gate_callee (f := 20) rfl ?_); refine goesL_ (some 19) rfl rfl Try.func20 (by kernel_rfl) rfl #[.slice A0 l0.length c0] rfl (by (try simp only [List.map_toArray, List.map_cons, List.map_nil]); first | done | rfl | (simp only [List.length_drop, List.length_take]; rfl)) ?_; (with_reducible refine (post_Pack.calls k _ _ l0 t193 t194 _ ?side1 ?side2 A5.out).mono ?_); (case side1 => repeat (first | exact (Kd.C_below HR0.out (by repeat (first | (with_reducible first | exact HB.out | apply below_alloc | apply pw_below_drewN | apply below_drew1) | exact HB.out))) | (with_reducible refine Kd.C_alloc ?_ _) | (with_reducible refine Kd.C_drewN ?_ _) | (with_reducible refine Kd.C_drew ?_))); (case side2 => exact HC0.out); rintro e w8 ⟨v195, rfl, ho0, hb⟩; refine ⟨_, rfl, ?_⟩; have n0_ := Aside0.mk (Kd.R_lower ho0 (below_size (by repeat (first | (with_reducible first | exact HB.out | apply below_alloc | apply pw_below_drewN | apply below_drew1) | exact HB.out)))); have n1_ := Aside0.mk (below_step (by repeat (first | (with_reducible first | exact HB.out | apply below_alloc | apply pw_below_drewN | apply below_drew1) | exact HB.out)) hb); clear HB; have HO196 := n0_; have HB := n1_; clear n0_ n1_; (try clear hb); (try clear hb2); (try clear hk); (try clear hi); (try clear ho0)))
 (try simp only [Act.put, List.setIfInBounds_toArray, List.set_cons_zero, List.set_cons_succ])
 go_cut [31] (fun v31 wc => ∃ (kq : Nat) (x31_5 : Bool), v31 = .bool x31_5 ∧ Aside0 (catchwordlaw06_PostFirst.j0 kq l0 a1 t191 t193 x31_5 = some r) ∧ Aside0 (kq ≤ k) ∧ Aside0 (Kd.R (Kd.int .u8) 5 wc w.heap.size (fun _ => True) v195 t193) ∧ Aside0 (Below w.heap.size w wc))
 case first =>
  have H := HC6.out
  clear HC6
  by_cases c9 : t191 = true
  ·subst c9
   have H1 : (if t192 = true then (catchwordlaw06_PostFirst.j0 k l0 a1 true t193 (t194 != 0)) else (catchwordlaw06_PostFirst.j0 k l0 a1 true t193 true)) = some r := by rw [if_pos rfl] at H; exact H
   clear H
   have H := H1
   clear H1
   by_cases c10 : t192 = true
   ·subst c10
    have H1 : (catchwordlaw06_PostFirst.j0 k l0 a1 true t193 (t194 != 0)) = some r := by rw [if_pos rfl] at H; exact H
    clear H
    have H := H1
    clear H1
    have H' := Aside0.mk H
    clear H
    go_wp2
    go_meet
    case rel => exact ⟨_, ((t194 != 0)), (by first | rfl | (simp; done) | (simp [*]; done)), H', ⟨by first | omega | exact Nat.le_refl _⟩, ⟨by (with_reducible repeat (first | apply Kd.R_alloc | apply Kd.R_drewN | apply Kd.R_drew)); exact HO196.out⟩, ⟨by repeat (first | (with_reducible first | exact HB.out | apply below_alloc | apply pw_below_drewN | apply below_drew1) | exact HB.out)⟩⟩
   ·replace c10 := Bool.eq_false_iff.mpr c10
    subst c10
    have H1 : (catchwordlaw06_PostFirst.j0 k l0 a1 true t193 true) = some r := by rw [if_neg (show ¬ (false = true) by decide)] at H; exact H
    clear H
    have H := H1
    clear H1
    have H' := Aside0.mk H
    clear H
    go_wp2
    go_meet
    case rel => exact ⟨_, (true), (by first | rfl | (simp; done) | (simp [*]; done)), H', ⟨by first | omega | exact Nat.le_refl _⟩, ⟨by (with_reducible repeat (first | apply Kd.R_alloc | apply Kd.R_drewN | apply Kd.R_drew)); exact HO196.out⟩, ⟨by repeat (first | (with_reducible first | exact HB.out | apply below_alloc | apply pw_below_drewN | apply below_drew1) | exact HB.out)⟩⟩
  ·replace c9 := Bool.eq_false_iff.mpr c9
   subst c9
   have H1 : (catchwordlaw06_PostFirst.j0 k l0 a1 false t193 true) = some r := by rw [if_neg (show ¬ (false = true) by decide)] at H; exact H
   clear H
   have H := H1
   clear H1
   have H' := Aside0.mk H
   clear H
   go_wp2
   go_meet
   case rel => exact ⟨_, (true), (by first | rfl | (simp; done) | (simp [*]; done)), H', ⟨by first | omega | exact Nat.le_refl _⟩, ⟨by (with_reducible repeat (first | apply Kd.R_alloc | apply Kd.R_drewN | apply Kd.R_drew)); exact HO196.out⟩, ⟨by repeat (first | (with_reducible first | exact HB.out | apply below_alloc | apply pw_below_drewN | apply below_drew1) | exact HB.out)⟩⟩
 case rest =>
  clear HC6
  try clear c1
  try clear c2
  try clear p2
  try clear c8
  try clear c9
  try clear c10
  obtain ⟨kq, x31_5, rfl, HA, HJ5, HO_7, HB⟩ := hcut
  cases kq with
  | zero => exact absurd HA.out (by simp [catchwordlaw06_PostFirst.j0])
  | succ kj5 =>
   have H := HA.out
   clear HA
   simp only [catchwordlaw06_PostFirst.j0] at H
   by_cases c11 : x31_5 = true
   ·subst c11
    have H1 : (some t191) = some r := by rw [if_pos rfl] at H; exact H
    clear H
    have H := H1
    clear H1
    obtain rfl := Option.some.inj H
    go_wp2
    go_ret
    exact ⟨by first | rfl | (simp [errW_none, errW_some] <;> rfl) | (simp [*, errW_none, errW_some] <;> rfl), by repeat (first | (with_reducible first | exact HB.out | apply below_alloc | apply pw_below_drewN | apply below_drew1) | exact HB.out)⟩
   ·replace c11 := Bool.eq_false_iff.mpr c11
    subst c11
    have H1 : ((post_Seek.f t193 a1).bind fun bt197 => (if bt197.2.2.2 = 0 then ((post_Find.f kj5 l0 bt197.1).bind fun t205 => (if t205 < 0 then (some false) else (if t205 ≥ (l0.length : Int) then (some false) else (if bt197.1 < a1 then (some false) else (if t205 > 0 then (if 0 ≤ (wrap64 (t205 - 1)) then (if (wrap64 (t205 - 1)) < (l0.length : Int) then (if ((rd_T39 l0 (wrap64 (t205 - 1))).f0) ≥ a1 then (some false) else (if 0 ≤ t205 then (if t205 ≤ (wrap64 (t205 + 1)) then (if (wrap64 (t205 + 1)) ≤ (l0.length : Int) then ((catchwordref06_Same.f kj5 (([(⟨bt197.1, bt197.2.1⟩ : S39)] : List (S39))) ((l0.take ((wrap64 (t205 + 1)) : Int).toNat).drop (t205 : Int).toNat)).bind fun t214 => (if t214 = true then (some (bt197.2.2.1 == (wrap64 (Int.tdiv t205 4)))) else (some false))) else (none)) else (none)) else (none))) else (none)) else (none)) else (if 0 ≤ t205 then (if t205 ≤ (wrap64 (t205 + 1)) then (if (wrap64 (t205 + 1)) ≤ (l0.length : Int) then ((catchwordref06_Same.f kj5 (([(⟨bt197.1, bt197.2.1⟩ : S39)] : List (S39))) ((l0.take ((wrap64 (t205 + 1)) : Int).toNat).drop (t205 : Int).toNat)).bind fun t222 => (if t222 = true then (some (bt197.2.2.1 == (wrap64 (Int.tdiv t205 4)))) else (some false))) else (none)) else (none)) else (none))))))) else (if bt197.2.2.2 = 2 then (if (l0.length : Int) = 0 then (some true) else (if 0 ≤ (wrap64 ((l0.length : Int) - 1)) then (if (wrap64 ((l0.length : Int) - 1)) < (l0.length : Int) then (some (decide (((rd_T39 l0 (wrap64 ((l0.length : Int) - 1))).f0) < a1))) else (none)) else (none))) else (some false)))) = some r := by rw [if_neg (show ¬ (false = true) by decide)] at H; exact H
    clear H
    have H := H1
    clear H1
    replace H := Option.bind_eq_some_iff.mp H
    obtain ⟨⟨t197, t198, t201, t202⟩, A120, H⟩ := H
    replace H : (if t202 = 0 then ((post_Find.f kj5 l0 t197).bind fun t205 => (if t205 < 0 then (some false) else (if t205 ≥ (l0.length : Int) then (some false) else (if t197 < a1 then (some false) else (if t205 > 0 then (if 0 ≤ (wrap64 (t205 - 1)) then (if (wrap64 (t205 - 1)) < (l0.length : Int) then (if ((rd_T39 l0 (wrap64 (t205 - 1))).f0) ≥ a1 then (some false) else (if 0 ≤ t205 then (if t205 ≤ (wrap64 (t205 + 1)) then (if (wrap64 (t205 + 1)) ≤ (l0.length : Int) then ((catchwordref06_Same.f kj5 (([(⟨t197, t198⟩ : S39)] : List (S39))) ((l0.take ((wrap64 (t205 + 1)) : Int).toNat).drop (t205 : Int).toNat)).bind fun t214 => (if t214 = true then (some (t201 == (wrap64 (Int.tdiv t205 4)))) else (some false))) else (none)) else (none)) else (none))) else (none)) else (none)) else (if 0 ≤ t205 then (if t205 ≤ (wrap64 (t205 + 1)) then (if (wrap64 (t205 + 1)) ≤ (l0.length : Int) then ((catchwordref06_Same.f kj5 (([(⟨t197, t198⟩ : S39)] : List (S39))) ((l0.take ((wrap64 (t205 + 1)) : Int).toNat).drop (t205 : Int).toNat)).bind fun t222 => (if t222 = true then (some (t201 == (wrap64 (Int.tdiv t205 4)))) else (some false))) else (none)) else (none)) else (none))))))) else (if t202 = 2 then (if (l0.length : Int) = 0 then (some true) else (if 0 ≤ (wrap64 ((l0.length : Int) - 1)) then (if (wrap64 ((l0.length : Int) - 1)) < (l0.length : Int) then (some (decide (((rd_T39 l0 (wrap64 ((l0.length : Int) - 1))).f0) < a1))) else (none)) else (none))) else (some false))) = some r := H
    have A12 := Aside0.mk A120
    clear A120
    by_cases c13 : t202 = 0
    ·rw [if_pos c13] at H
     have c13b0 : (t202 == 0) = true := beq_iff_eq.mpr c13
     have c13b1 : (t202 != 0) = false := bne_eq_false_iff_eq.mpr c13
     clear c13
     replace H := Option.bind_eq_some_iff.mp H
     obtain ⟨t205, A140, H⟩ := H
     replace H : (if t205 < 0 then (some false) else (if t205 ≥ (l0.length : Int) then (some false) else (if t197 < a1 then (some false) else (if t205 > 0 then (if 0 ≤ (wrap64 (t205 - 1)) then (if (wrap64 (t205 - 1)) < (l0.length : Int) then (if ((rd_T39 l0 (wrap64 (t205 - 1))).f0) ≥ a1 then (some false) else (if 0 ≤ t205 then (if t205 ≤ (wrap64 (t205 + 1)) then (if (wrap64 (t205 + 1)) ≤ (l0.length : Int) then ((catchwordref06_Same.f kj5 (([(⟨t197, t198⟩ : S39)] : List (S39))) ((l0.take ((wrap64 (t205 + 1)) : Int).toNat).drop (t205 : Int).toNat)).bind fun t214 => (if t214 = true then (some (t201 == (wrap64 (Int.tdiv t205 4)))) else (some false))) else (none)) else (none)) else (none))) else (none)) else (none)) else (if 0 ≤ t205 then (if t205 ≤ (wrap64 (t205 + 1)) then (if (wrap64 (t205 + 1)) ≤ (l0.length : Int) then ((catchwordref06_Same.f kj5 (([(⟨t197, t198⟩ : S39)] : List (S39))) ((l0.take ((wrap64 (t205 + 1)) : Int).toNat).drop (t205 : Int).toNat)).bind fun t222 => (if t222 = true then (some (t201 == (wrap64 (Int.tdiv t205 4)))) else (some false))) else (none)) else (none)) else (none)))))) = some r := H
     have A14 := Aside0.mk A140
     clear A140
     by_cases c15 : t205 < 0
     ·rw [if_pos c15] at H
      have c15b0 : decide (t205 < 0) = true := decide_eq_true c15
      clear c15
      obtain rfl := Option.some.inj H
      obtain ⟨Ao16, co16, eo16⟩ := Kd.R_slice HO_7.out
      subst eo16
      go_wp2_with (first | ((with_reducible refine gate_callee (f := 25) rfl ?_); refine goesL_ (some 36) rfl rfl Try.func25 (by kernel_rfl) rfl #[.slice Ao16 t193.length co16, .int .i64 a1] rfl (by (try simp only [List.map_toArray, List.map_cons, List.map_nil]); first | done | rfl | (simp only [List.length_drop, List.length_take]; rfl)) ?_; (with_reducible refine (post_Seek.calls _ _ t193 a1 t197 t198 t201 t202 _ ?side1 ?side2 A12.out).mono ?_); (case side1 => repeat (first | exact (Kd.R_reads' HO_7.out).2.2 | (with_reducible refine Kd.C_alloc ?_ _) | (with_reducible refine Kd.C_drewN ?_ _) | (with_reducible refine Kd.C_drew ?_))); (case side2 => exact (Kd.R_reads' HO_7.out).2.1); rintro e w17 ⟨v199, rfl, ho0, hb⟩; refine ⟨_, rfl, ?_⟩; have n0_ := Aside0.mk (Kd.R_below (by (with_reducible repeat (first | apply Kd.R_alloc | apply Kd.R_drewN | apply Kd.R_drew)); exact HO_7.out) hb); have n1_ := Aside0.mk (Kd.R_lower ho0 (below_size (by repeat (first | (with_reducible first | exact HB.out | apply below_alloc | apply pw_below_drewN | apply below_drew1) | exact HB.out)))); have n2_ := Aside0.mk (below_step (by repeat (first | (with_reducible first | exact HB.out | apply below_alloc | apply pw_below_drewN | apply below_drew1) | exact HB.out)) hb); clear HO_7; clear HB; have HO_7 := n0_; have HO200 := n1_; have HB := n2_; clear n0_ n1_ n2_; (try clear hb); (try clear hb2); (try clear hk); (try clear hi); (try clear ho0)) | ((with_reducible refine gate_dst (N := 9) rfl ?_); (try (refine gate_guard (by rfl) ?_; dsimp only)); refine box_event ?hg (N := 9) ?hd (cs := #[.int .i64 0, .slice none 0 0]) (t := 39) ?hr ?_; (case hd => rfl); (case hg => rfl); (case hr => first | (go_simp; done) | (go_simp; rfl)); intro gb203 hg w18 hbox hb; have n0_ := Aside0.mk (Kd.R_below (by (with_reducible repeat (first | apply Kd.R_alloc | apply Kd.R_drewN | apply Kd.R_drew)); exact HO_7.out) hb); have n1_ := Aside0.mk (Kd.R_below (by (with_reducible repeat (first | apply Kd.R_alloc | apply Kd.R_drewN | apply Kd.R_drew)); exact HO200.out) hb); have n2_ := Aside0.mk (below_step (by repeat (first | (with_reducible first | exact HB.out | apply below_alloc | apply pw_below_drewN | apply below_drew1) | exact HB.out)) hb); have n3_ := Aside0.mk (hbox); have n4_ := Aside0.mk ((by rw [hg]; exact (below_size (by repeat (first | (with_reducible first | exact HB.out | apply below_alloc | apply pw_below_drewN | apply below_drew1) | exact HB.out))) : w.heap.size ≤ gb203)); have n5_ := Aside0.mk ((by rw [hg]; exact (below_size (by repeat (first | (with_reducible first | exact HB.out | apply below_alloc | apply pw_below_drewN | apply below_drew1) | exact HB.out))) : w.heap.size ≤ gb203)); clear HO_7; clear HO200; clear HB; have HO_7 := n0_; have HO200 := n1_; have HB := n2_; have BK203 := n3_; have GW203 := n4_; have GE203 := n5_; clear n0_ n1_ n2_ n3_ n4_ n5_; clear hb hbox hg; have hcz19_0 : w18.cell? ⟨gb203, 0, none⟩ = some (.int .i64 0) := (blk_cell BK203.out 0).trans rfl; have hcz19_1 : w18.cell? ⟨gb203, 1, none⟩ = some (.slice none 0 0) := (blk_cell BK203.out 1).trans rfl; have hfz19_0 := blk_frozen BK203.out 0; have hfz19_1 := blk_frozen BK203.out 1; obtain ⟨Ao20, co20, eo20⟩ := Kd.R_slice HO200.out; subst eo20) | ((with_reducible refine gate_callee (f := 17) rfl ?_); refine goesL_ (some 63) rfl rfl Try.func17 (by kernel_rfl) rfl #[.slice A0 l0.length c0, .int .i64 t197] rfl (by (try simp only [List.map_toArray, List.map_cons, List.map_nil]); first | done | rfl | (simp only [List.length_drop, List.length_take]; rfl)) ?_; (with_reducible refine (post_Find.calls kj5 _ _ l0 t197 t205 _ ?side1 ?side2 A14.out).mono ?_); (case side1 => exact Kd.C_below HR0.out (by repeat (first | (with_reducible first | exact HB.out | apply below_alloc | apply pw_below_drewN | apply below_drew1 | refine below_set ?_ GE203.out) | exact HB.out))); (case side2 => exact HC0.out); rintro e w21 ⟨rfl, hb⟩; refine ⟨_, rfl, ?_⟩; have n0_ := Aside0.mk (Kd.R_below (by (with_reducible repeat (first | apply Kd.R_alloc | apply Kd.R_drewN | apply Kd.R_drew)); exact (Kd.R_mono (Kd.R_far (p := ⟨gb203, 1, none⟩) (Kd.R_far (p := ⟨gb203, 0, none⟩) (Kd.R_types HO_7.out BK203.out (by decide)) (fun _ hk => hk.2) (.int .i64 t197)) (fun _ hk => hk.2) (.slice Ao20 t198.length co20)) (fun _ h_ => h_.1))) hb); have n1_ := Aside0.mk (Kd.R_below (by (with_reducible repeat (first | apply Kd.R_alloc | apply Kd.R_drewN | apply Kd.R_drew)); exact (Kd.R_mono (Kd.R_far (p := ⟨gb203, 1, none⟩) (Kd.R_far (p := ⟨gb203, 0, none⟩) (Kd.R_types HO200.out BK203.out (by decide)) (fun _ hk => hk.2) (.int .i64 t197)) (fun _ hk => hk.2) (.slice Ao20 t198.length co20)) (fun _ h_ => h_.1))) hb); have n2_ := Aside0.mk (blk_below (g := gb203) (o := .cells #[.int .i64 t197, .slice Ao20 t198.length co20] 39 (0, 0)) (by (with_reducible repeat (first | refine blk_drewN ?_ _ | refine blk_drew ?_ | refine blk_alloc ?_ _)); refine blk_put (cs := #[.int .i64 t197, .slice none 0 0]) ?_ 1 _ rfl; (with_reducible repeat (first | refine blk_drewN ?_ _ | refine blk_drew ?_ | refine blk_alloc ?_ _)); refine blk_put (cs := #[.int .i64 0, .slice none 0 0]) ?_ 0 _ rfl; (with_reducible repeat (first | refine blk_drewN ?_ _ | refine blk_drew ?_ | refine blk_alloc ?_ _)); exact BK203.out) hb); have n3_ := Aside0.mk (below_step (by repeat (first | (with_reducible first | exact HB.out | apply below_alloc | apply pw_below_drewN | apply below_drew1 | refine below_set ?_ GE203.out) | exact HB.out)) hb); clear HO_7; clear HO200; clear BK203; clear HB; have HO_7 := n0_; have HO200 := n1_; have BK203 := n2_; have HB := n3_; clear n0_ n1_ n2_ n3_; (try clear hb); (try clear hb2); (try clear hk); (try clear hi)))
      go_ret
      exact ⟨by first | rfl | (simp [errW_none, errW_some] <;> rfl) | (simp [*, errW_none, errW_some] <;> rfl), by repeat (first | (with_reducible first | exact HB.out | apply below_alloc | apply pw_below_drewN | apply below_drew1 | refine below_set ?_ GE203.out) | exact HB.out)⟩
     ·rw [if_neg c15] at H
      have c15b0 : decide (t205 < 0) = false := decide_eq_false c15
      clear c15
      by_cases c22 : t205 ≥ (l0.length : Int)
      ·rw [if_pos c22] at H
       have c22b0 : decide ((l0.length : Int) ≤ t205) = true := decide_eq_true c22
       clear c22
       obtain rfl := Option.some.inj H
       obtain ⟨Ao23, co23, eo23⟩ := Kd.R_slice HO_7.out
       subst eo23
       go_wp2_with (first | ((with_reducible refine gate_callee (f := 25) rfl ?_); refine goesL_ (some 36) rfl rfl Try.func25 (by kernel_rfl) rfl #[.slice Ao23 t193.length co23, .int .i64 a1] rfl (by (try simp only [List.map_toArray, List.map_cons, List.map_nil]); first | done | rfl | (simp only [List.length_drop, List.length_take]; rfl)) ?_; (with_reducible refine (post_Seek.calls _ _ t193 a1 t197 t198 t201 t202 _ ?side1 ?side2 A12.out).mono ?_); (case side1 => repeat (first | exact (Kd.R_reads' HO_7.out).2.2 | (with_reducible refine Kd.C_alloc ?_ _) | (with_reducible refine Kd.C_drewN ?_ _) | (with_reducible refine Kd.C_drew ?_))); (case side2 => exact (Kd.R_reads' HO_7.out).2.1); rintro e w24 ⟨v199, rfl, ho0, hb⟩; refine ⟨_, rfl, ?_⟩; have n0_ := Aside0.mk (Kd.R_below (by (with_reducible repeat (first | apply Kd.R_alloc | apply Kd.R_drewN | apply Kd.R_drew)); exact HO_7.out) hb); have n1_ := Aside0.mk (Kd.R_lower ho0 (below_size (by repeat (first | (with_reducible first | exact HB.out | apply below_alloc | apply pw_below_drewN | apply below_drew1) | exact HB.out)))); have n2_ := Aside0.mk (below_step (by repeat (first | (with_reducible first | exact HB.out | apply below_alloc | apply pw_below_drewN | apply below_drew1) | exact HB.out)) hb); clear HO_7; clear HB; have HO_7 := n0_; have HO200 := n1_; have HB := n2_; clear n0_ n1_ n2_; (try clear hb); (try clear hb2); (try clear hk); (try clear hi); (try clear ho0)) | ((with_reducible refine gate_dst (N := 9) rfl ?_); (try (refine gate_guard (by rfl) ?_; dsimp only)); refine box_event ?hg (N := 9) ?hd (cs := #[.int .i64 0, .slice none 0 0]) (t := 39) ?hr ?_; (case hd => rfl); (case hg => rfl); (case hr => first | (go_simp; done) | (go_simp; rfl)); intro gb203 hg w25 hbox hb; have n0_ := Aside0.mk (Kd.R_below (by (with_reducible repeat (first | apply Kd.R_alloc | apply Kd.R_drewN | apply Kd.R_drew)); exact HO_7.out) hb); have n1_ := Aside0.mk (Kd.R_below (by (with_reducible repeat (first | apply Kd.R_alloc | apply Kd.R_drewN | apply Kd.R_drew)); exact HO200.out) hb); have n2_ := Aside0.mk (below_step (by repeat (first | (with_reducible first | exact HB.out | apply below_alloc | apply pw_below_drewN | apply below_drew1) | exact HB.out)) hb); have n3_ := Aside0.mk (hbox); have n4_ := Aside0.mk ((by rw [hg]; exact (below_size (by repeat (first | (with_reducible first | exact HB.out | apply below_alloc | apply pw_below_drewN | apply below_drew1) | exact HB.out))) : w.heap.size ≤ gb203)); have n5_ := Aside0.mk ((by rw [hg]; exact (below_size (by repeat (first | (with_reducible first | exact HB.out | apply below_alloc | apply pw_below_drewN | apply below_drew1) | exact HB.out))) : w.heap.size ≤ gb203)); clear HO_7; clear HO200; clear HB; have HO_7 := n0_; have HO200 := n1_; have HB := n2_; have BK203 := n3_; have GW203 := n4_; have GE203 := n5_; clear n0_ n1_ n2_ n3_ n4_ n5_; clear hb hbox hg; have hcz26_0 : w25.cell? ⟨gb203, 0, none⟩ = some (.int .i64 0) := (blk_cell BK203.out 0).trans rfl; have hcz26_1 : w25.cell? ⟨gb203, 1, none⟩ = some (.slice none 0 0) := (blk_cell BK203.out 1).trans rfl; have hfz26_0 := blk_frozen BK203.out 0; have hfz26_1 := blk_frozen BK203.out 1; obtain ⟨Ao27, co27, eo27⟩ := Kd.R_slice HO200.out; subst eo27) | ((with_reducible refine gate_callee (f := 17) rfl ?_); refine goesL_ (some 63) rfl rfl Try.func17 (by kernel_rfl) rfl #[.slice A0 l0.length c0, .int .i64 t197] rfl (by (try simp only [List.map_toArray, List.map_cons, List.map_nil]); first | done | rfl | (simp only [List.length_drop, List.length_take]; rfl)) ?_; (with_reducible refine (post_Find.calls kj5 _ _ l0 t197 t205 _ ?side1 ?side2 A14.out).mono ?_); (case side1 => exact Kd.C_below HR0.out (by repeat (first | (with_reducible first | exact HB.out | apply below_alloc | apply pw_below_drewN | apply below_drew1 | refine below_set ?_ GE203.out) | exact HB.out))); (case side2 => exact HC0.out); rintro e w28 ⟨rfl, hb⟩; refine ⟨_, rfl, ?_⟩; have n0_ := Aside0.mk (Kd.R_below (by (with_reducible repeat (first | apply Kd.R_alloc | apply Kd.R_drewN | apply Kd.R_drew)); exact (Kd.R_mono (Kd.R_far (p := ⟨gb203, 1, none⟩) (Kd.R_far (p := ⟨gb203, 0, none⟩) (Kd.R_types HO_7.out BK203.out (by decide)) (fun _ hk => hk.2) (.int .i64 t197)) (fun _ hk => hk.2) (.slice Ao27 t198.length co27)) (fun _ h_ => h_.1))) hb); have n1_ := Aside0.mk (Kd.R_below (by (with_reducible repeat (first | apply Kd.R_alloc | apply Kd.R_drewN | apply Kd.R_drew)); exact (Kd.R_mono (Kd.R_far (p := ⟨gb203, 1, none⟩) (Kd.R_far (p := ⟨gb203, 0, none⟩) (Kd.R_types HO200.out BK203.out (by decide)) (fun _ hk => hk.2) (.int .i64 t197)) (fun _ hk => hk.2) (.slice Ao27 t198.length co27)) (fun _ h_ => h_.1))) hb); have n2_ := Aside0.mk (blk_below (g := gb203) (o := .cells #[.int .i64 t197, .slice Ao27 t198.length co27] 39 (0, 0)) (by (with_reducible repeat (first | refine blk_drewN ?_ _ | refine blk_drew ?_ | refine blk_alloc ?_ _)); refine blk_put (cs := #[.int .i64 t197, .slice none 0 0]) ?_ 1 _ rfl; (with_reducible repeat (first | refine blk_drewN ?_ _ | refine blk_drew ?_ | refine blk_alloc ?_ _)); refine blk_put (cs := #[.int .i64 0, .slice none 0 0]) ?_ 0 _ rfl; (with_reducible repeat (first | refine blk_drewN ?_ _ | refine blk_drew ?_ | refine blk_alloc ?_ _)); exact BK203.out) hb); have n3_ := Aside0.mk (below_step (by repeat (first | (with_reducible first | exact HB.out | apply below_alloc | apply pw_below_drewN | apply below_drew1 | refine below_set ?_ GE203.out) | exact HB.out)) hb); clear HO_7; clear HO200; clear BK203; clear HB; have HO_7 := n0_; have HO200 := n1_; have BK203 := n2_; have HB := n3_; clear n0_ n1_ n2_ n3_; (try clear hb); (try clear hb2); (try clear hk); (try clear hi)))
       go_ret
       exact ⟨by first | rfl | (simp [errW_none, errW_some] <;> rfl) | (simp [*, errW_none, errW_some] <;> rfl), by repeat (first | (with_reducible first | exact HB.out | apply below_alloc | apply pw_below_drewN | apply below_drew1 | refine below_set ?_ GE203.out) | exact HB.out)⟩
      ·rw [if_neg c22] at H
       have c22b0 : decide ((l0.length : Int) ≤ t205) = false := decide_eq_false c22
       clear c22
       by_cases c29 : t197 < a1
       ·rw [if_pos c29] at H
        have c29b0 : decide (t197 < a1) = true := decide_eq_true c29
        clear c29
        obtain rfl := Option.some.inj H
        obtain ⟨Ao30, co30, eo30⟩ := Kd.R_slice HO_7.out
        subst eo30
        go_wp2_with (first | ((with_reducible refine gate_callee (f := 25) rfl ?_); refine goesL_ (some 36) rfl rfl Try.func25 (by kernel_rfl) rfl #[.slice Ao30 t193.length co30, .int .i64 a1] rfl (by (try simp only [List.map_toArray, List.map_cons, List.map_nil]); first | done | rfl | (simp only [List.length_drop, List.length_take]; rfl)) ?_; (with_reducible refine (post_Seek.calls _ _ t193 a1 t197 t198 t201 t202 _ ?side1 ?side2 A12.out).mono ?_); (case side1 => repeat (first | exact (Kd.R_reads' HO_7.out).2.2 | (with_reducible refine Kd.C_alloc ?_ _) | (with_reducible refine Kd.C_drewN ?_ _) | (with_reducible refine Kd.C_drew ?_))); (case side2 => exact (Kd.R_reads' HO_7.out).2.1); rintro e w31 ⟨v199, rfl, ho0, hb⟩; refine ⟨_, rfl, ?_⟩; have n0_ := Aside0.mk (Kd.R_below (by (with_reducible repeat (first | apply Kd.R_alloc | apply Kd.R_drewN | apply Kd.R_drew)); exact HO_7.out) hb); have n1_ := Aside0.mk (Kd.R_lower ho0 (below_size (by repeat (first | (with_reducible first | exact HB.out | apply below_alloc | apply pw_below_drewN | apply below_drew1) | exact HB.out)))); have n2_ := Aside0.mk (below_step (by repeat (first | (with_reducible first | exact HB.out | apply below_alloc | apply pw_below_drewN | apply below_drew1) | exact HB.out)) hb); clear HO_7; clear HB; have HO_7 := n0_; have HO200 := n1_; have HB := n2_; clear n0_ n1_ n2_; (try clear hb); (try clear hb2); (try clear hk); (try clear hi); (try clear ho0)) | ((with_reducible refine gate_dst (N := 9) rfl ?_); (try (refine gate_guard (by rfl) ?_; dsimp only)); refine box_event ?hg (N := 9) ?hd (cs := #[.int .i64 0, .slice none 0 0]) (t := 39) ?hr ?_; (case hd => rfl); (case hg => rfl); (case hr => first | (go_simp; done) | (go_simp; rfl)); intro gb203 hg w32 hbox hb; have n0_ := Aside0.mk (Kd.R_below (by (with_reducible repeat (first | apply Kd.R_alloc | apply Kd.R_drewN | apply Kd.R_drew)); exact HO_7.out) hb); have n1_ := Aside0.mk (Kd.R_below (by (with_reducible repeat (first | apply Kd.R_alloc | apply Kd.R_drewN | apply Kd.R_drew)); exact HO200.out) hb); have n2_ := Aside0.mk (below_step (by repeat (first | (with_reducible first | exact HB.out | apply below_alloc | apply pw_below_drewN | apply below_drew1) | exact HB.out)) hb); have n3_ := Aside0.mk (hbox); have n4_ := Aside0.mk ((by rw [hg]; exact (below_size (by repeat (first | (with_reducible first | exact HB.out | apply below_alloc | apply pw_below_drewN | apply below_drew1) | exact HB.out))) : w.heap.size ≤ gb203)); have n5_ := Aside0.mk ((by rw [hg]; exact (below_size (by repeat (first | (with_reducible first | exact HB.out | apply below_alloc | apply pw_below_drewN | apply below_drew1) | exact HB.out))) : w.heap.size ≤ gb203)); clear HO_7; clear HO200; clear HB; have HO_7 := n0_; have HO200 := n1_; have HB := n2_; have BK203 := n3_; have GW203 := n4_; have GE203 := n5_; clear n0_ n1_ n2_ n3_ n4_ n5_; clear hb hbox hg; have hcz33_0 : w32.cell? ⟨gb203, 0, none⟩ = some (.int .i64 0) := (blk_cell BK203.out 0).trans rfl; have hcz33_1 : w32.cell? ⟨gb203, 1, none⟩ = some (.slice none 0 0) := (blk_cell BK203.out 1).trans rfl; have hfz33_0 := blk_frozen BK203.out 0; have hfz33_1 := blk_frozen BK203.out 1; obtain ⟨Ao34, co34, eo34⟩ := Kd.R_slice HO200.out; subst eo34) | ((with_reducible refine gate_callee (f := 17) rfl ?_); refine goesL_ (some 63) rfl rfl Try.func17 (by kernel_rfl) rfl #[.slice A0 l0.length c0, .int .i64 t197] rfl (by (try simp only [List.map_toArray, List.map_cons, List.map_nil]); first | done | rfl | (simp only [List.length_drop, List.length_take]; rfl)) ?_; (with_reducible refine (post_Find.calls kj5 _ _ l0 t197 t205 _ ?side1 ?side2 A14.out).mono ?_); (case side1 => exact Kd.C_below HR0.out (by repeat (first | (with_reducible first | exact HB.out | apply below_alloc | apply pw_below_drewN | apply below_drew1 | refine below_set ?_ GE203.out) | exact HB.out))); (case side2 => exact HC0.out); rintro e w35 ⟨rfl, hb⟩; refine ⟨_, rfl, ?_⟩; have n0_ := Aside0.mk (Kd.R_below (by (with_reducible repeat (first | apply Kd.R_alloc | apply Kd.R_drewN | apply Kd.R_drew)); exact (Kd.R_mono (Kd.R_far (p := ⟨gb203, 1, none⟩) (Kd.R_far (p := ⟨gb203, 0, none⟩) (Kd.R_types HO_7.out BK203.out (by decide)) (fun _ hk => hk.2) (.int .i64 t197)) (fun _ hk => hk.2) (.slice Ao34 t198.length co34)) (fun _ h_ => h_.1))) hb); have n1_ := Aside0.mk (Kd.R_below (by (with_reducible repeat (first | apply Kd.R_alloc | apply Kd.R_drewN | apply Kd.R_drew)); exact (Kd.R_mono (Kd.R_far (p := ⟨gb203, 1, none⟩) (Kd.R_far (p := ⟨gb203, 0, none⟩) (Kd.R_types HO200.out BK203.out (by decide)) (fun _ hk => hk.2) (.int .i64 t197)) (fun _ hk => hk.2) (.slice Ao34 t198.length co34)) (fun _ h_ => h_.1))) hb); have n2_ := Aside0.mk (blk_below (g := gb203) (o := .cells #[.int .i64 t197, .slice Ao34 t198.length co34] 39 (0, 0)) (by (with_reducible repeat (first | refine blk_drewN ?_ _ | refine blk_drew ?_ | refine blk_alloc ?_ _)); refine blk_put (cs := #[.int .i64 t197, .slice none 0 0]) ?_ 1 _ rfl; (with_reducible repeat (first | refine blk_drewN ?_ _ | refine blk_drew ?_ | refine blk_alloc ?_ _)); refine blk_put (cs := #[.int .i64 0, .slice none 0 0]) ?_ 0 _ rfl; (with_reducible repeat (first | refine blk_drewN ?_ _ | refine blk_drew ?_ | refine blk_alloc ?_ _)); exact BK203.out) hb); have n3_ := Aside0.mk (below_step (by repeat (first | (with_reducible first | exact HB.out | apply below_alloc | apply pw_below_drewN | apply below_drew1 | refine below_set ?_ GE203.out) | exact HB.out)) hb); clear HO_7; clear HO200; clear BK203; clear HB; have HO_7 := n0_; have HO200 := n1_; have BK203 := n2_; have HB := n3_; clear n0_ n1_ n2_ n3_; (try clear hb); (try clear hb2); (try clear hk); (try clear hi); have hcz36_0 : w35.cell? ⟨gb203, 0, none⟩ = some (.int .i64 t197) := (blk_cell BK203.out 0).trans rfl; have hcz36_1 : w35.cell? ⟨gb203, 1, none⟩ = some (.slice Ao34 t198.length co34) := (blk_cell BK203.out 1).trans rfl; have hfz36_0 := blk_frozen BK203.out 0; have hfz36_1 := blk_frozen BK203.out 1))
        go_ret
        exact ⟨by first | rfl | (simp [errW_none, errW_some] <;> rfl) | (simp [*, errW_none, errW_some] <;> rfl), by repeat (first | (with_reducible first | exact HB.out | apply below_alloc | apply pw_below_drewN | apply below_drew1 | refine below_set ?_ GE203.out) | exact HB.out)⟩
       ·rw [if_neg c29] at H
        have c29b0 : decide (t197 < a1) = false := decide_eq_false c29
        clear c29
        by_cases c37 : t205 > 0
        ·rw [if_pos c37] at H
         have c37b0 : decide (0 < t205) = true := decide_eq_true c37
         clear c37
         obtain ⟨ji38, hji38⟩ : ∃ j_ : Int, (wrap64 (t205 - 1)) = j_ := ⟨_, rfl⟩
         replace H : (if 0 ≤ (ji38) then (if (ji38) < (l0.length : Int) then (if ((rd_T39 l0 (ji38)).f0) ≥ a1 then (some false) else (if 0 ≤ t205 then (if t205 ≤ (wrap64 (t205 + 1)) then (if (wrap64 (t205 + 1)) ≤ (l0.length : Int) then ((catchwordref06_Same.f kj5 (([(⟨t197, t198⟩ : S39)] : List (S39))) ((l0.take ((wrap64 (t205 + 1)) : Int).toNat).drop (t205 : Int).toNat)).bind fun t214 => (if t214 = true then (some (t201 == (wrap64 (Int.tdiv t205 4)))) else (some false))) else (none)) else (none)) else (none))) else (none)) else (none)) = some r := by first | (rw [hji38] at H; exact H) | (simp only [hji38] at H ⊢; exact H)
         (try rw [hji38] at A12)
         (try rw [hji38] at A14)
         have hji38w : (IntKind.i64.wrap (t205 - 1)) = ji38 := (i64_w _).trans hji38
         by_cases c39 : 0 ≤ (ji38)
         ·rw [if_pos c39] at H
          have c39b0 : decide (0 ≤ (ji38)) = true := decide_eq_true c39
          clear c39
          by_cases c40 : (ji38) < (l0.length : Int)
          ·rw [if_pos c40] at H
           have c40b0 : decide ((ji38) < (l0.length : Int)) = true := decide_eq_true c40
           clear c40
           by_cases c41 : ((rd_T39 l0 (ji38)).f0) ≥ a1
           ·rw [if_pos c41] at H
            have c41b0 : decide (a1 ≤ ((rd_T39 l0 (ji38)).f0)) = true := decide_eq_true c41
            clear c41
            obtain rfl := Option.some.inj H
            obtain ⟨Ao42, co42, eo42⟩ := Kd.R_slice HO_7.out
            subst eo42
            go_wp2_with (first | ((with_reducible refine gate_callee (f := 25) rfl ?_); refine goesL_ (some 36) rfl rfl Try.func25 (by kernel_rfl) rfl #[.slice Ao42 t193.length co42, .int .i64 a1] rfl (by (try simp only [List.map_toArray, List.map_cons, List.map_nil]); first | done | rfl | (simp only [List.length_drop, List.length_take]; rfl)) ?_; (with_reducible refine (post_Seek.calls _ _ t193 a1 t197 t198 t201 t202 _ ?side1 ?side2 A12.out).mono ?_); (case side1 => repeat (first | exact (Kd.R_reads' HO_7.out).2.2 | (with_reducible refine Kd.C_alloc ?_ _) | (with_reducible refine Kd.C_drewN ?_ _) | (with_reducible refine Kd.C_drew ?_))); (case side2 => exact (Kd.R_reads' HO_7.out).2.1); rintro e w43 ⟨v199, rfl, ho0, hb⟩; refine ⟨_, rfl, ?_⟩; have n0_ := Aside0.mk (Kd.R_below (by (with_reducible repeat (first | apply Kd.R_alloc | apply Kd.R_drewN | apply Kd.R_drew)); exact HO_7.out) hb); have n1_ := Aside0.mk (Kd.R_lower ho0 (below_size (by repeat (first | (with_reducible first | exact HB.out | apply below_alloc | apply pw_below_drewN | apply below_drew1) | exact HB.out)))); have n2_ := Aside0.mk (below_step (by repeat (first | (with_reducible first | exact HB.out | apply below_alloc | apply pw_below_drewN | apply below_drew1) | exact HB.out)) hb); clear HO_7; clear HB; have HO_7 := n0_; have HO200 := n1_; have HB := n2_; clear n0_ n1_ n2_; (try clear hb); (try clear hb2); (try clear hk); (try clear hi); (try clear ho0)) | ((with_reducible refine gate_dst (N := 9) rfl ?_); (try (refine gate_guard (by rfl) ?_; dsimp only)); refine box_event ?hg (N := 9) ?hd (cs := #[.int .i64 0, .slice none 0 0]) (t := 39) ?hr ?_; (case hd => rfl); (case hg => rfl); (case hr => first | (go_simp; done) | (go_simp; rfl)); intro gb203 hg w44 hbox hb; have n0_ := Aside0.mk (Kd.R_below (by (with_reducible repeat (first | apply Kd.R_alloc | apply Kd.R_drewN | apply Kd.R_drew)); exact HO_7.out) hb); have n1_ := Aside0.mk (Kd.R_below (by (with_reducible repeat (first | apply Kd.R_alloc | apply Kd.R_drewN | apply Kd.R_drew)); exact HO200.out) hb); have n2_ := Aside0.mk (below_step (by repeat (first | (with_reducible first | exact HB.out | apply below_alloc | apply pw_below_drewN | apply below_drew1) | exact HB.out)) hb); have n3_ := Aside0.mk (hbox); have n4_ := Aside0.mk ((by rw [hg]; exact (below_size (by repeat (first | (with_reducible first | exact HB.out | apply below_alloc | apply pw_below_drewN | apply below_drew1) | exact HB.out))) : w.heap.size ≤ gb203)); have n5_ := Aside0.mk ((by rw [hg]; exact (below_size (by repeat (first | (with_reducible first | exact HB.out | apply below_alloc | apply pw_below_drewN | apply below_drew1) | exact HB.out))) : w.heap.size ≤ gb203)); clear HO_7; clear HO200; clear HB; have HO_7 := n0_; have HO200 := n1_; have HB := n2_; have BK203 := n3_; have GW203 := n4_; have GE203 := n5_; clear n0_ n1_ n2_ n3_ n4_ n5_; clear hb hbox hg; have hcz45_0 : w44.cell? ⟨gb203, 0, none⟩ = some (.int .i64 0) := (blk_cell BK203.out 0).trans rfl; have hcz45_1 : w44.cell? ⟨gb203, 1, none⟩ = some (.slice none 0 0) := (blk_cell BK203.out 1).trans rfl; have hfz45_0 := blk_frozen BK203.out 0; have hfz45_1 := blk_frozen BK203.out 1; obtain ⟨Ao46, co46, eo46⟩ := Kd.R_slice HO200.out; subst eo46) | ((with_reducible refine gate_callee (f := 17) rfl ?_); refine goesL_ (some 63) rfl rfl Try.func17 (by kernel_rfl) rfl #[.slice A0 l0.length c0, .int .i64 t197] rfl (by (try simp only [List.map_toArray, List.map_cons, List.map_nil]); first | done | rfl | (simp only [List.length_drop, List.length_take]; rfl)) ?_; (with_reducible refine (post_Find.calls kj5 _ _ l0 t197 t205 _ ?side1 ?side2 A14.out).mono ?_); (case side1 => exact Kd.C_below HR0.out (by repeat (first | (with_reducible first | exact HB.out | apply below_alloc | apply pw_below_drewN | apply below_drew1 | refine below_set ?_ GE203.out) | exact HB.out))); (case side2 => exact HC0.out); rintro e w47 ⟨rfl, hb⟩; refine ⟨_, rfl, ?_⟩; have n0_ := Aside0.mk (Kd.R_below (by (with_reducible repeat (first | apply Kd.R_alloc | apply Kd.R_drewN | apply Kd.R_drew)); exact (Kd.R_mono (Kd.R_far (p := ⟨gb203, 1, none⟩) (Kd.R_far (p := ⟨gb203, 0, none⟩) (Kd.R_types HO_7.out BK203.out (by decide)) (fun _ hk => hk.2) (.int .i64 t197)) (fun _ hk => hk.2) (.slice Ao46 t198.length co46)) (fun _ h_ => h_.1))) hb); have n1_ := Aside0.mk (Kd.R_below (by (with_reducible repeat (first | apply Kd.R_alloc | apply Kd.R_drewN | apply Kd.R_drew)); exact (Kd.R_mono (Kd.R_far (p := ⟨gb203, 1, none⟩) (Kd.R_far (p := ⟨gb203, 0, none⟩) (Kd.R_types HO200.out BK203.out (by decide)) (fun _ hk => hk.2) (.int .i64 t197)) (fun _ hk => hk.2) (.slice Ao46 t198.length co46)) (fun _ h_ => h_.1))) hb); have n2_ := Aside0.mk (blk_below (g := gb203) (o := .cells #[.int .i64 t197, .slice Ao46 t198.length co46] 39 (0, 0)) (by (with_reducible repeat (first | refine blk_drewN ?_ _ | refine blk_drew ?_ | refine blk_alloc ?_ _)); refine blk_put (cs := #[.int .i64 t197, .slice none 0 0]) ?_ 1 _ rfl; (with_reducible repeat (first | refine blk_drewN ?_ _ | refine blk_drew ?_ | refine blk_alloc ?_ _)); refine blk_put (cs := #[.int .i64 0, .slice none 0 0]) ?_ 0 _ rfl; (with_reducible repeat (first | refine blk_drewN ?_ _ | refine blk_drew ?_ | refine blk_alloc ?_ _)); exact BK203.out) hb); have n3_ := Aside0.mk (below_step (by repeat (first | (with_reducible first | exact HB.out | apply below_alloc | apply pw_below_drewN | apply below_drew1 | refine below_set ?_ GE203.out) | exact HB.out)) hb); clear HO_7; clear HO200; clear BK203; clear HB; have HO_7 := n0_; have HO200 := n1_; have BK203 := n2_; have HB := n3_; clear n0_ n1_ n2_ n3_; (try clear hb); (try clear hb2); (try clear hk); (try clear hi); have hcz48_0 : w47.cell? ⟨gb203, 0, none⟩ = some (.int .i64 t197) := (blk_cell BK203.out 0).trans rfl; have hcz48_1 : w47.cell? ⟨gb203, 1, none⟩ = some (.slice Ao46 t198.length co46) := (blk_cell BK203.out 1).trans rfl; have hfz48_0 := blk_frozen BK203.out 0; have hfz48_1 := blk_frozen BK203.out 1; have p206 : 0 ≤ ((ji38) : Int) := of_decide_eq_true (by first | (with_reducible assumption) | assumption); have q206 : (ji38) < (l0.length : Int) := of_decide_eq_true (by first | (with_reducible assumption) | assumption); obtain ⟨ad206, A206_1, c206_1, e206, hx206_0, hx206_1, hl206_1, hi206_1⟩ := at_T39 HR0.out (ji38) p206 q206; cases e206; replace hx206_0 := (HB.out.cell (World.block_lt_of_cell? w _ hx206_0)).trans hx206_0; replace hx206_1 := (HB.out.cell (World.block_lt_of_cell? w _ hx206_1)).trans hx206_1; have HR206_1 := Aside0.mk hi206_1; have HC206_1 := Aside0.mk hl206_1; clear hi206_1 hl206_1; replace p206 := eq_true p206; replace q206 := eq_true q206))
            go_ret
            exact ⟨by first | rfl | (simp [errW_none, errW_some] <;> rfl) | (simp only [← hji38]; first | rfl | (simp [errW_none, errW_some] <;> rfl)) | (simp [*, errW_none, errW_some] <;> rfl), by repeat (first | (with_reducible first | exact HB.out | apply below_alloc | apply pw_below_drewN | apply below_drew1 | refine below_set ?_ GE203.out) | exact HB.out)⟩
           ·rw [if_neg c41] at H
            have c41b0 : decide (a1 ≤ ((rd_T39 l0 (ji38)).f0)) = false := decide_eq_false c41
            clear c41
            obtain ⟨y207, hy207⟩ : ∃ y_ : List (S39), y_ = (([(⟨t197, t198⟩ : S39)] : List (S39))) := ⟨_, rfl⟩
            replace H : (if 0 ≤ t205 then (if t205 ≤ (wrap64 (t205 + 1)) then (if (wrap64 (t205 + 1)) ≤ (l0.length : Int) then ((catchwordref06_Same.f kj5 y207 ((l0.take ((wrap64 (t205 + 1)) : Int).toNat).drop (t205 : Int).toNat)).bind fun t214 => (if t214 = true then (some (t201 == (wrap64 (Int.tdiv t205 4)))) else (some false))) else (none)) else (none)) else (none)) = some r := by first | (rw [hy207]; with_reducible exact H) | (have H2_ := (Option.bind_some _ _).symm.trans H; rw [hy207]; with_reducible exact H2_) | (have H2_ := (Option.bind_some _ _).symm.trans H; with_reducible exact H2_) | with_reducible exact H | (rw [hy207]; exact H) | exact H
            have Ny207 := Aside0.mk hy207
            clear hy207
            by_cases c49 : 0 ≤ t205
            ·rw [if_pos c49] at H
             have c49b0 := eq_true c49
             have c49b1 : decide (0 ≤ t205) = true := decide_eq_true c49
             clear c49
             by_cases c50 : t205 ≤ (wrap64 (t205 + 1))
             ·rw [if_pos c50] at H
              have c50b0 := eq_true c50
              have c50b1 : decide (t205 ≤ (wrap64 (t205 + 1))) = true := decide_eq_true c50
              by_cases c51 : (wrap64 (t205 + 1)) ≤ (l0.length : Int)
              ·rw [if_pos c51] at H
               have c51b0 := eq_true c51
               have c51b1 : decide ((wrap64 (t205 + 1)) ≤ (l0.length : Int)) = true := decide_eq_true c51
               obtain ⟨y210, hy210⟩ : ∃ y_ : List (S39), y_ = ((l0.take ((wrap64 (t205 + 1)) : Int).toNat).drop (t205 : Int).toNat) := ⟨_, rfl⟩
               replace H : ((catchwordref06_Same.f kj5 y207 y210).bind fun t214 => (if t214 = true then (some (t201 == (wrap64 (Int.tdiv t205 4)))) else (some false))) = some r := by first | (rw [hy210]; with_reducible exact H) | (have H2_ := (Option.bind_some _ _).symm.trans H; rw [hy210]; with_reducible exact H2_) | (have H2_ := (Option.bind_some _ _).symm.trans H; with_reducible exact H2_) | with_reducible exact H | (rw [hy210]; exact H) | exact H
               have Ny210 := Aside0.mk hy210
               clear hy210
               replace H := Option.bind_eq_some_iff.mp H
               obtain ⟨t214, A520, H⟩ := H
               replace H : (if t214 = true then (some (t201 == (wrap64 (Int.tdiv t205 4)))) else (some false)) = some r := H
               have A52 := Aside0.mk A520
               clear A520
               by_cases c53 : t214 = true
               ·subst c53
                have H1 : (some (t201 == (wrap64 (Int.tdiv t205 4)))) = some r := by rw [if_pos rfl] at H; exact H
                clear H
                have H := H1
                clear H1
                obtain rfl := Option.some.inj H
                obtain ⟨Ao54, co54, eo54⟩ := Kd.R_slice HO_7.out
                subst eo54
                try go_wp2_with (first | ((with_reducible refine gate_callee (f := 25) rfl ?_); refine goesL_ (some 36) rfl rfl Try.func25 (by kernel_rfl) rfl #[.slice Ao54 t193.length co54, .int .i64 a1] rfl (by (try simp only [List.map_toArray, List.map_cons, List.map_nil]); first | done | rfl | (simp only [List.length_drop, List.length_take]; rfl)) ?_; (with_reducible refine (post_Seek.calls _ _ t193 a1 t197 t198 t201 t202 _ ?side1 ?side2 A12.out).mono ?_); (case side1 => repeat (first | exact (Kd.R_reads' HO_7.out).2.2 | (with_reducible refine Kd.C_alloc ?_ _) | (with_reducible refine Kd.C_drewN ?_ _) | (with_reducible refine Kd.C_drew ?_))); (case side2 => exact (Kd.R_reads' HO_7.out).2.1); rintro e w55 ⟨v199, rfl, ho0, hb⟩; refine ⟨_, rfl, ?_⟩; have n0_ := Aside0.mk (Kd.R_below (by (with_reducible repeat (first | apply Kd.R_alloc | apply Kd.R_drewN | apply Kd.R_drew)); exact HO_7.out) hb); have n1_ := Aside0.mk (Kd.R_lower ho0 (below_size (by repeat (first | (with_reducible first | exact HB.out | apply below_alloc | apply pw_below_drewN | apply below_drew1) | exact HB.out)))); have n2_ := Aside0.mk (below_step (by repeat (first | (with_reducible first | exact HB.out | apply below_alloc | apply pw_below_drewN | apply below_drew1) | exact HB.out)) hb); clear HO_7; clear HB; have HO_7 := n0_; have HO200 := n1_; have HB := n2_; clear n0_ n1_ n2_; (try clear hb); (try clear hb2); (try clear hk); (try clear hi); (try clear ho0)) | ((with_reducible refine gate_dst (N := 9) rfl ?_); (try (refine gate_guard (by rfl) ?_; dsimp only)); refine box_event ?hg (N := 9) ?hd (cs := #[.int .i64 0, .slice none 0 0]) (t := 39) ?hr ?_; (case hd => rfl); (case hg => rfl); (case hr => first | (go_simp; done) | (go_simp; rfl)); intro gb203 hg w56 hbox hb; have n0_ := Aside0.mk (Kd.R_below (by (with_reducible repeat (first | apply Kd.R_alloc | apply Kd.R_drewN | apply Kd.R_drew)); exact HO_7.out) hb); have n1_ := Aside0.mk (Kd.R_below (by (with_reducible repeat (first | apply Kd.R_alloc | apply Kd.R_drewN | apply Kd.R_drew)); exact HO200.out) hb); have n2_ := Aside0.mk (below_step (by repeat (first | (with_reducible first | exact HB.out | apply below_alloc | apply pw_below_drewN | apply below_drew1) | exact HB.out)) hb); have n3_ := Aside0.mk (hbox); have n4_ := Aside0.mk ((by rw [hg]; exact (below_size (by repeat (first | (with_reducible first | exact HB.out | apply below_alloc | apply pw_below_drewN | apply below_drew1) | exact HB.out))) : w.heap.size ≤ gb203)); have n5_ := Aside0.mk ((by rw [hg]; exact (below_size (by repeat (first | (with_reducible first | exact HB.out | apply below_alloc | apply pw_below_drewN | apply below_drew1) | exact HB.out))) : w.heap.size ≤ gb203)); clear HO_7; clear HO200; clear HB; have HO_7 := n0_; have HO200 := n1_; have HB := n2_; have BK203 := n3_; have GW203 := n4_; have GE203 := n5_; clear n0_ n1_ n2_ n3_ n4_ n5_; clear hb hbox hg; have hcz57_0 : w56.cell? ⟨gb203, 0, none⟩ = some (.int .i64 0) := (blk_cell BK203.out 0).trans rfl; have hcz57_1 : w56.cell? ⟨gb203, 1, none⟩ = some (.slice none 0 0) := (blk_cell BK203.out 1).trans rfl; have hfz57_0 := blk_frozen BK203.out 0; have hfz57_1 := blk_frozen BK203.out 1; obtain ⟨Ao58, co58, eo58⟩ := Kd.R_slice HO200.out; subst eo58) | ((with_reducible refine gate_callee (f := 17) rfl ?_); refine goesL_ (some 63) rfl rfl Try.func17 (by kernel_rfl) rfl #[.slice A0 l0.length c0, .int .i64 t197] rfl (by (try simp only [List.map_toArray, List.map_cons, List.map_nil]); first | done | rfl | (simp only [List.length_drop, List.length_take]; rfl)) ?_; (with_reducible refine (post_Find.calls kj5 _ _ l0 t197 t205 _ ?side1 ?side2 A14.out).mono ?_); (case side1 => exact Kd.C_below HR0.out (by repeat (first | (with_reducible first | exact HB.out | apply below_alloc | apply pw_below_drewN | apply below_drew1 | refine below_set ?_ GE203.out) | exact HB.out))); (case side2 => exact HC0.out); rintro e w59 ⟨rfl, hb⟩; refine ⟨_, rfl, ?_⟩; have n0_ := Aside0.mk (Kd.R_below (by (with_reducible repeat (first | apply Kd.R_alloc | apply Kd.R_drewN | apply Kd.R_drew)); exact (Kd.R_mono (Kd.R_far (p := ⟨gb203, 1, none⟩) (Kd.R_far (p := ⟨gb203, 0, none⟩) (Kd.R_types HO_7.out BK203.out (by decide)) (fun _ hk => hk.2) (.int .i64 t197)) (fun _ hk => hk.2) (.slice Ao58 t198.length co58)) (fun _ h_ => h_.1))) hb); have n1_ := Aside0.mk (Kd.R_below (by (with_reducible repeat (first | apply Kd.R_alloc | apply Kd.R_drewN | apply Kd.R_drew)); exact (Kd.R_mono (Kd.R_far (p := ⟨gb203, 1, none⟩) (Kd.R_far (p := ⟨gb203, 0, none⟩) (Kd.R_types HO200.out BK203.out (by decide)) (fun _ hk => hk.2) (.int .i64 t197)) (fun _ hk => hk.2) (.slice Ao58 t198.length co58)) (fun _ h_ => h_.1))) hb); have n2_ := Aside0.mk (blk_below (g := gb203) (o := .cells #[.int .i64 t197, .slice Ao58 t198.length co58] 39 (0, 0)) (by (with_reducible repeat (first | refine blk_drewN ?_ _ | refine blk_drew ?_ | refine blk_alloc ?_ _)); refine blk_put (cs := #[.int .i64 t197, .slice none 0 0]) ?_ 1 _ rfl; (with_reducible repeat (first | refine blk_drewN ?_ _ | refine blk_drew ?_ | refine blk_alloc ?_ _)); refine blk_put (cs := #[.int .i64 0, .slice none 0 0]) ?_ 0 _ rfl; (with_reducible repeat (first | refine blk_drewN ?_ _ | refine blk_drew ?_ | refine blk_alloc ?_ _)); exact BK203.out) hb); have n3_ := Aside0.mk (below_step (by repeat (first | (with_reducible first | exact HB.out | apply below_alloc | apply pw_below_drewN | apply below_drew1 | refine below_set ?_ GE203.out) | exact HB.out)) hb); clear HO_7; clear HO200; clear BK203; clear HB; have HO_7 := n0_; have HO200 := n1_; have BK203 := n2_; have HB := n3_; clear n0_ n1_ n2_ n3_; (try clear hb); (try clear hb2); (try clear hk); (try clear hi); have hcz60_0 : w59.cell? ⟨gb203, 0, none⟩ = some (.int .i64 t197) := (blk_cell BK203.out 0).trans rfl; have hcz60_1 : w59.cell? ⟨gb203, 1, none⟩ = some (.slice Ao58 t198.length co58) := (blk_cell BK203.out 1).trans rfl; have hfz60_0 := blk_frozen BK203.out 0; have hfz60_1 := blk_frozen BK203.out 1; have p206 : 0 ≤ ((ji38) : Int) := of_decide_eq_true (by first | (with_reducible assumption) | assumption); have q206 : (ji38) < (l0.length : Int) := of_decide_eq_true (by first | (with_reducible assumption) | assumption); obtain ⟨ad206, A206_1, c206_1, e206, hx206_0, hx206_1, hl206_1, hi206_1⟩ := at_T39 HR0.out (ji38) p206 q206; cases e206; replace hx206_0 := (HB.out.cell (World.block_lt_of_cell? w _ hx206_0)).trans hx206_0; replace hx206_1 := (HB.out.cell (World.block_lt_of_cell? w _ hx206_1)).trans hx206_1; have HR206_1 := Aside0.mk hi206_1; have HC206_1 := Aside0.mk hl206_1; clear hi206_1 hl206_1; replace p206 := eq_true p206; replace q206 := eq_true q206))
                have n0_ := Aside0.mk (Kd.R_drew HO_7.out)
                have n1_ := Aside0.mk (Kd.R_drew HO200.out)
                have n2_ := Aside0.mk (blk_drew BK203.out)
                have n3_ := Aside0.mk (below_drew1 HB.out)
                clear HO_7
                clear HO200
                clear BK203
                clear HB
                have HO_7 := n0_
                have HO200 := n1_
                have BK203 := n2_
                have HB := n3_
                clear n0_ n1_ n2_ n3_
                have q62 : ((wrap64 (t205 + 1)) : Int) ≤ ((l0.length : Int) : Int) := of_decide_eq_true (by first | (with_reducible assumption) | assumption)
                obtain ⟨i062, hi062, _, hsz62, _⟩ := info_parts info39
                have hroom62 : l0.length ≤ c0 := HC0.out
                have hC62 : Kd.C k39 _ (some ad206) l0.length l0 := HR0.out
                have ql62 : (t205 : Int) ≤ ((wrap64 (t205 + 1)) : Int) := of_decide_eq_true (by first | (with_reducible assumption) | assumption)
                have q062 : (0 : Int) ≤ (t205 : Int) := of_decide_eq_true (by first | (with_reducible assumption) | assumption)
                have hcut62 := cut_mid (P := Try.prog) 22 39 .i64 .i64 Try.underlying22 hi062 2 hsz62 (some ad206) l0.length c0 t205 (wrap64 (t205 + 1)) q062 ql62 q62 hroom62
                have hr62 := Kd.C_mid (lo := (t205 : Int).toNat) (hi := ((wrap64 (t205 + 1)) : Int).toNat) (c := c0) hC62 (by omega) (by omega) hroom62
                obtain ⟨A62, hA62⟩ : ∃ A1, A1 = (if c0 = (t205 : Int).toNat then (some ad206) else ((some ad206) : Option Addr).map (·.add ((t205 : Int).toNat * 2))) := ⟨_, rfl⟩
                obtain ⟨c62, hc62⟩ : ∃ c1, c1 = c0 - (t205 : Int).toNat := ⟨_, rfl⟩
                have hy62 : y210.length = ((wrap64 (t205 + 1)) : Int).toNat - (t205 : Int).toNat := (by rw [Ny210.out, List.length_drop, List.length_take] <;> omega)
                rw [show ((l0).take ((wrap64 (t205 + 1)) : Int).toNat).drop (t205 : Int).toNat = y210 from Ny210.out.symm] at hr62
                replace hr62 : Kd.C k39 _ A62 y210.length y210 := (by rw [hA62]; exact hr62)
                rw [← hy62, ← hA62, ← hc62] at hcut62
                have HR213 := Aside0.mk hr62
                have HC213 := Aside0.mk (show y210.length ≤ c62 from by rw [hy62, hc62]; exact Nat.sub_le_sub_right (Nat.le_trans (by omega) hroom62) _)
                clear hr62 hC62 hroom62 hi062 hsz62 hc62
                have KY62 := Aside0.mk hy62
                have KA62 := Aside0.mk hA62
                clear hy62 hA62
                replace q62 := eq_true q62
                refine start_ (n := 9) (S := fun w' => w'.cell? ⟨gb203, 0, none⟩ = some (.int .i64 t197) ∧ w'.cell? ⟨gb203, 1, none⟩ = some (.slice Ao58 t198.length co58)) (ds := []) #[false, false, false, false, false, false, false, false, false] (by kernel_rfl) rfl rfl ⟨(blk_cell BK203.out 0).trans rfl, (blk_cell BK203.out 1).trans rfl⟩ (fun hHeld => ?_); refine with_tabW catchwordlaw06_PostFirst.tab12 catchwordlaw06_PostFirst.bits12 (fun HT_ HW_ => ?_)
                generalize w59.drew = w61 at HO_7 HO200 BK203 HB HR213 hHeld ⊢
                refine pure_ (i := 2) (N := some 94) (v := ?_) (a' := ?_) #[false, false, true, false, false, false, false, false, false] rfl rfl (any_of HT_.out (by kernel_rfl)) (fun _ _ _ h => h) (Or.inl ⟨by rfl, ?_⟩) ?_ ?_
                rotate_left
                ·intro w'
                 go_simp
                 with_reducible rfl
                rotate_left
                ·simp only [Act.put, List.setIfInBounds_toArray, List.set_cons_zero, List.set_cons_succ, i64_w, i32_w]
                 rfl
                refine pure_ (i := 3) (N := some 95) (v := ?_) (a' := ?_) #[false, false, true, true, false, false, false, false, false] rfl rfl (any_of HT_.out (by kernel_rfl)) (fun _ _ _ h => h) (Or.inl ⟨by rfl, ?_⟩) ?_ ?_
                rotate_left
                ·intro w'
                 go_simp
                 with_reducible rfl
                rotate_left
                ·simp only [Act.put, List.setIfInBounds_toArray, List.set_cons_zero, List.set_cons_succ, i64_w, i32_w]
                 rfl
                refine pure_ (i := 4) (N := some 96) (v := ?_) (a' := ?_) #[false, false, true, true, true, false, false, false, false] rfl rfl (any_of HT_.out (by kernel_rfl)) (fun _ _ _ h => h) (Or.inl ⟨by rfl, ?_⟩) ?_ ?_
                rotate_left
                ·intro w'
                 go_simp
                 with_reducible rfl
                rotate_left
                ·simp only [Act.put, List.setIfInBounds_toArray, List.set_cons_zero, List.set_cons_succ, i64_w, i32_w]
                 rfl
                refine pure_ (i := 5) (N := some 97) (v := ?_) (a' := ?_) #[false, false, true, true, true, true, false, false, false] rfl rfl (any_of HT_.out (by kernel_rfl)) (fun _ _ _ h => h) (Or.inl ⟨by rfl, ?_⟩) ?_ ?_
                rotate_left
                ·intro w'
                 go_simp
                 with_reducible rfl
                rotate_left
                ·simp only [Act.put, List.setIfInBounds_toArray, List.set_cons_zero, List.set_cons_succ, i64_w, i32_w]
                 rfl
                refine pure_ (i := 6) (N := some 98) (v := ?_) (a' := ?_) #[false, false, true, true, true, true, true, false, false] rfl rfl (any_of HT_.out (by kernel_rfl)) (fun _ _ _ h => h) (Or.inl ⟨by rfl, ?_⟩) ?_ ?_
                rotate_left
                ·intro w'
                 go_simp
                 with_reducible rfl
                rotate_left
                ·simp only [Act.put, List.setIfInBounds_toArray, List.set_cons_zero, List.set_cons_succ, i64_w, i32_w]
                 rfl
                refine take_ (i := 0) (N := some 92) (v := ?_) (a' := ?_) #[true, false, true, true, true, true, true, false, false] rfl rfl (take_ofW HT_.out HW_.out (by kernel_rfl)) (fun _ _ _ h => h) (Or.inl ⟨by rfl, ?_⟩) hHeld ?_ ?_
                rotate_left
                ·rintro w' ⟨s0, s1⟩
                 go_simp
                 with_reducible rfl
                rotate_left
                ·simp only [Act.put, List.setIfInBounds_toArray, List.set_cons_zero, List.set_cons_succ, i64_w, i32_w]
                 rfl
                refine one_ (i := 1) (N := some 93) #[true, true, true, true, true, true, true, false, false] rfl rfl (one_of HT_.out (by kernel_rfl)) (by decide) (fun K hK => ?_)
                refine Kd.N_lit_step k39 _ 39 ?hg (N' := 93) ?hd (xs := ([(⟨t197, t198⟩ : S39)] : List (S39))) (inner := [.int .i64 t197, .slice Ao58 t198.length co58]) (ok := (fun k_ => some k_ ≠ (.slice Ao54 t193.length co54 : Value).ownBlock ∧ k_ ≠ gb203)) (okp := (fun k_ => some k_ ≠ (.slice Ao54 t193.length co54 : Value).ownBlock ∧ k_ ≠ gb203)) ?hr ?hp (fun _ hk => hk) ((show ∀ k_, w61.heap.size ≤ k_ → (fun k_ => some k_ ≠ (.slice Ao54 t193.length co54 : Value).ownBlock ∧ k_ ≠ gb203) k_ from fun k_ hk => ⟨Kd.fresh' (Kd.R_lt (by (with_reducible repeat (first | apply Kd.R_alloc | apply Kd.R_drewN | apply Kd.R_drew)); exact HO_7.out)) k_ hk, Kd.freshB (g := gb203) (o := .cells #[.int .i64 t197, .slice Ao58 t198.length co58] 39 (0, 0)) (by (with_reducible repeat (first | refine blk_drewN ?_ _ | refine blk_drew ?_ | refine blk_alloc ?_ _)); exact BK203.out) k_ hk⟩) _ (Nat.le_refl _)) (Below.refl _ _) (Nat.le_refl _) (by simp) ?_; (case hd => rfl); (case hg => rfl); (case hr => first | (go_simp; done) | (go_simp; rfl)); (case hp => exact (Reps.c2 (show Kd.FK k39 _ _ (⟨t197, t198⟩ : S39) [.int .i64 t197, .slice Ao58 t198.length co58] from (k39_mkF _ _ (⟨t197, t198⟩ : S39) (Kd.R_reads' (Kd.R_mono (ok' := (fun k_ => some k_ ≠ (.slice Ao54 t193.length co54 : Value).ownBlock ∧ k_ ≠ gb203)) (Kd.R_types (Kd.R_apart' (HO200.out) (Kd.R_typed HO_7.out) (by decide)) BK203.out (by decide)) (fun k_ hk => ⟨hk.1.2, hk.2⟩))).2.1 (Kd.R_F (Kd.R_mono (ok' := (fun k_ => some k_ ≠ (.slice Ao54 t193.length co54 : Value).ownBlock ∧ k_ ≠ gb203)) (Kd.R_types (Kd.R_apart' (HO200.out) (Kd.R_typed HO_7.out) (by decide)) BK203.out (by decide)) (fun k_ hk => ⟨hk.1.2, hk.2⟩))))) (Reps.none _ _)))
                intro v208 w63 ho64 hb hg_ hnew_
                clear hg_ hnew_
                (first | rw [← Ny207.out] at ho64 | (simp only [Int.reduceToNat] at ho64; rw [← Ny207.out] at ho64))
                have n0_ := Aside0.mk (Kd.R_below (by (with_reducible repeat (first | apply Kd.R_alloc | apply Kd.R_drewN | apply Kd.R_drew)); exact HO_7.out) hb)
                have n1_ := Aside0.mk (Kd.N_lower ho64 (below_size (by repeat (first | (with_reducible first | exact HB.out | apply below_alloc | apply pw_below_drewN | apply below_drew1 | refine below_set ?_ GE203.out) | exact HB.out))))
                have n2_ := Aside0.mk (blk_below (g := gb203) (o := .cells #[.int .i64 t197, .slice Ao58 t198.length co58] 39 (0, 0)) (by (with_reducible repeat (first | refine blk_drewN ?_ _ | refine blk_drew ?_ | refine blk_alloc ?_ _)); exact BK203.out) hb)
                have n3_ := Aside0.mk (below_step (by repeat (first | (with_reducible first | exact HB.out | apply below_alloc | apply pw_below_drewN | apply below_drew1 | refine below_set ?_ GE203.out) | exact HB.out)) hb)
                clear HO_7
                clear BK203
                clear HB
                clear HO200
                have HO_7 := n0_
                have HO209 := n1_
                have BK203 := n2_
                have HB := n3_
                clear n0_ n1_ n2_ n3_
                clear hb ho64
                obtain ⟨Ao65, co65, eo65⟩ := Kd.N_slice HO209.out
                (first | subst eo65 | (injection eo65 with f1_ f2_ f3_; have f4_ := f1_.symm; have f5_ := f3_.symm; clear f1_ f2_ f3_; subst f4_; subst f5_))
                refine hK.out _ _ ⟨(blk_cell BK203.out 0).trans rfl, (blk_cell BK203.out 1).trans rfl⟩ (fun hHeld => ?_)
                clear hK K
                refine norm_ (a' := ?_) ?_ ?_
                rotate_left
                ·show Act.put _ (some 93) _ = _
                 simp only [Act.put, List.setIfInBounds_toArray, List.set_cons_zero, List.set_cons_succ, i64_w, i32_w]
                 rfl
                refine one_ (i := 7) (N := some 99) #[true, true, true, true, true, true, true, true, false] rfl rfl (one_of HT_.out (by kernel_rfl)) (by decide) (fun K hK => ?_)
                refine goes_ Try.func14 (by kernel_rfl) rfl #[.slice Ao65 y207.length co65, .slice A62 y210.length c62] (by rfl) rfl rfl (by (try simp only [List.map_toArray, List.map_cons, List.map_nil]); first | done | rfl | (simp only [List.length_drop, List.length_take]; rfl)) ?_
                with_reducible refine (catchwordref06_Same.calls kj5 _ _ y207 _ _ y210 true _ ?side1 ?side2 ?side3 ?side4 A52.out).mono ?_
                (case side1 => repeat (first | exact (Kd.N_reads' HO209.out).2.2 | (with_reducible refine Kd.C_alloc ?_ _) | (with_reducible refine Kd.C_drewN ?_ _) | (with_reducible refine Kd.C_drew ?_)))
                (case side2 => exact (Kd.N_reads' HO209.out).2.1)
                (case side3 => repeat (first | exact (Kd.C_below HR213.out HB.out) | (with_reducible refine Kd.C_alloc ?_ _) | (with_reducible refine Kd.C_drewN ?_ _) | (with_reducible refine Kd.C_drew ?_)))
                (case side4 => exact HC213.out)
                rintro e w' ⟨rfl, ⟨nd, rfl⟩⟩
                refine ⟨_, rfl, ?_⟩
                refine hK.out _ _ ⟨(blk_cell BK203.out 0).trans rfl, (blk_cell BK203.out 1).trans rfl⟩ (fun hHeld => ?_)
                clear hK K
                refine norm_ (a' := ?_) ?_ ?_
                rotate_left
                ·show Act.put _ (some 99) _ = _
                 simp only [Act.put, List.setIfInBounds_toArray, List.set_cons_zero, List.set_cons_succ, i64_w, i32_w]
                 rfl
                refine pure_ (i := 8) (N := some 13) (v := ?_) (a' := ?_) #[true, true, true, true, true, true, true, true, true] rfl rfl (any_of HT_.out (by kernel_rfl)) (fun _ _ _ h => h) (Or.inl ⟨by rfl, ?_⟩) ?_ ?_
                rotate_left
                ·intro w'
                 go_simp
                 with_reducible rfl
                rotate_left
                ·simp only [Act.put, List.setIfInBounds_toArray, List.set_cons_zero, List.set_cons_succ, i64_w, i32_w]
                 rfl
                refine done_ (done_of HT_.out (by kernel_rfl)) ?_
                try go_wp2
                go_ret
                exact ⟨by first | rfl | (simp [errW_none, errW_some] <;> rfl) | (simp only [← hji38]; first | rfl | (simp [errW_none, errW_some] <;> rfl)) | (simp [*, errW_none, errW_some] <;> rfl), by repeat (first | (with_reducible first | exact HB.out | apply below_alloc | apply pw_below_drewN | apply below_drew1 | refine below_set ?_ GE203.out) | exact HB.out)⟩
               ·replace c53 := Bool.eq_false_iff.mpr c53
                subst c53
                have H1 : (some false) = some r := by rw [if_neg (show ¬ (false = true) by decide)] at H; exact H
                clear H
                have H := H1
                clear H1
                obtain rfl := Option.some.inj H
                obtain ⟨Ao66, co66, eo66⟩ := Kd.R_slice HO_7.out
                subst eo66
                try go_wp2_with (first | ((with_reducible refine gate_callee (f := 25) rfl ?_); refine goesL_ (some 36) rfl rfl Try.func25 (by kernel_rfl) rfl #[.slice Ao66 t193.length co66, .int .i64 a1] rfl (by (try simp only [List.map_toArray, List.map_cons, List.map_nil]); first | done | rfl | (simp only [List.length_drop, List.length_take]; rfl)) ?_; (with_reducible refine (post_Seek.calls _ _ t193 a1 t197 t198 t201 t202 _ ?side1 ?side2 A12.out).mono ?_); (case side1 => repeat (first | exact (Kd.R_reads' HO_7.out).2.2 | (with_reducible refine Kd.C_alloc ?_ _) | (with_reducible refine Kd.C_drewN ?_ _) | (with_reducible refine Kd.C_drew ?_))); (case side2 => exact (Kd.R_reads' HO_7.out).2.1); rintro e w67 ⟨v199, rfl, ho0, hb⟩; refine ⟨_, rfl, ?_⟩; have n0_ := Aside0.mk (Kd.R_below (by (with_reducible repeat (first | apply Kd.R_alloc | apply Kd.R_drewN | apply Kd.R_drew)); exact HO_7.out) hb); have n1_ := Aside0.mk (Kd.R_lower ho0 (below_size (by repeat (first | (with_reducible first | exact HB.out | apply below_alloc | apply pw_below_drewN | apply below_drew1) | exact HB.out)))); have n2_ := Aside0.mk (below_step (by repeat (first | (with_reducible first | exact HB.out | apply below_alloc | apply pw_below_drewN | apply below_drew1) | exact HB.out)) hb); clear HO_7; clear HB; have HO_7 := n0_; have HO200 := n1_; have HB := n2_; clear n0_ n1_ n2_; (try clear hb); (try clear hb2); (try clear hk); (try clear hi); (try clear ho0)) | ((with_reducible refine gate_dst (N := 9) rfl ?_); (try (refine gate_guard (by rfl) ?_; dsimp only)); refine box_event ?hg (N := 9) ?hd (cs := #[.int .i64 0, .slice none 0 0]) (t := 39) ?hr ?_; (case hd => rfl); (case hg => rfl); (case hr => first | (go_simp; done) | (go_simp; rfl)); intro gb203 hg w68 hbox hb; have n0_ := Aside0.mk (Kd.R_below (by (with_reducible repeat (first | apply Kd.R_alloc | apply Kd.R_drewN | apply Kd.R_drew)); exact HO_7.out) hb); have n1_ := Aside0.mk (Kd.R_below (by (with_reducible repeat (first | apply Kd.R_alloc | apply Kd.R_drewN | apply Kd.R_drew)); exact HO200.out) hb); have n2_ := Aside0.mk (below_step (by repeat (first | (with_reducible first | exact HB.out | apply below_alloc | apply pw_below_drewN | apply below_drew1) | exact HB.out)) hb); have n3_ := Aside0.mk (hbox); have n4_ := Aside0.mk ((by rw [hg]; exact (below_size (by repeat (first | (with_reducible first | exact HB.out | apply below_alloc | apply pw_below_drewN | apply below_drew1) | exact HB.out))) : w.heap.size ≤ gb203)); have n5_ := Aside0.mk ((by rw [hg]; exact (below_size (by repeat (first | (with_reducible first | exact HB.out | apply below_alloc | apply pw_below_drewN | apply below_drew1) | exact HB.out))) : w.heap.size ≤ gb203)); clear HO_7; clear HO200; clear HB; have HO_7 := n0_; have HO200 := n1_; have HB := n2_; have BK203 := n3_; have GW203 := n4_; have GE203 := n5_; clear n0_ n1_ n2_ n3_ n4_ n5_; clear hb hbox hg; have hcz69_0 : w68.cell? ⟨gb203, 0, none⟩ = some (.int .i64 0) := (blk_cell BK203.out 0).trans rfl; have hcz69_1 : w68.cell? ⟨gb203, 1, none⟩ = some (.slice none 0 0) := (blk_cell BK203.out 1).trans rfl; have hfz69_0 := blk_frozen BK203.out 0; have hfz69_1 := blk_frozen BK203.out 1; obtain ⟨Ao70, co70, eo70⟩ := Kd.R_slice HO200.out; subst eo70) | ((with_reducible refine gate_callee (f := 17) rfl ?_); refine goesL_ (some 63) rfl rfl Try.func17 (by kernel_rfl) rfl #[.slice A0 l0.length c0, .int .i64 t197] rfl (by (try simp only [List.map_toArray, List.map_cons, List.map_nil]); first | done | rfl | (simp only [List.length_drop, List.length_take]; rfl)) ?_; (with_reducible refine (post_Find.calls kj5 _ _ l0 t197 t205 _ ?side1 ?side2 A14.out).mono ?_); (case side1 => exact Kd.C_below HR0.out (by repeat (first | (with_reducible first | exact HB.out | apply below_alloc | apply pw_below_drewN | apply below_drew1 | refine below_set ?_ GE203.out) | exact HB.out))); (case side2 => exact HC0.out); rintro e w71 ⟨rfl, hb⟩; refine ⟨_, rfl, ?_⟩; have n0_ := Aside0.mk (Kd.R_below (by (with_reducible repeat (first | apply Kd.R_alloc | apply Kd.R_drewN | apply Kd.R_drew)); exact (Kd.R_mono (Kd.R_far (p := ⟨gb203, 1, none⟩) (Kd.R_far (p := ⟨gb203, 0, none⟩) (Kd.R_types HO_7.out BK203.out (by decide)) (fun _ hk => hk.2) (.int .i64 t197)) (fun _ hk => hk.2) (.slice Ao70 t198.length co70)) (fun _ h_ => h_.1))) hb); have n1_ := Aside0.mk (Kd.R_below (by (with_reducible repeat (first | apply Kd.R_alloc | apply Kd.R_drewN | apply Kd.R_drew)); exact (Kd.R_mono (Kd.R_far (p := ⟨gb203, 1, none⟩) (Kd.R_far (p := ⟨gb203, 0, none⟩) (Kd.R_types HO200.out BK203.out (by decide)) (fun _ hk => hk.2) (.int .i64 t197)) (fun _ hk => hk.2) (.slice Ao70 t198.length co70)) (fun _ h_ => h_.1))) hb); have n2_ := Aside0.mk (blk_below (g := gb203) (o := .cells #[.int .i64 t197, .slice Ao70 t198.length co70] 39 (0, 0)) (by (with_reducible repeat (first | refine blk_drewN ?_ _ | refine blk_drew ?_ | refine blk_alloc ?_ _)); refine blk_put (cs := #[.int .i64 t197, .slice none 0 0]) ?_ 1 _ rfl; (with_reducible repeat (first | refine blk_drewN ?_ _ | refine blk_drew ?_ | refine blk_alloc ?_ _)); refine blk_put (cs := #[.int .i64 0, .slice none 0 0]) ?_ 0 _ rfl; (with_reducible repeat (first | refine blk_drewN ?_ _ | refine blk_drew ?_ | refine blk_alloc ?_ _)); exact BK203.out) hb); have n3_ := Aside0.mk (below_step (by repeat (first | (with_reducible first | exact HB.out | apply below_alloc | apply pw_below_drewN | apply below_drew1 | refine below_set ?_ GE203.out) | exact HB.out)) hb); clear HO_7; clear HO200; clear BK203; clear HB; have HO_7 := n0_; have HO200 := n1_; have BK203 := n2_; have HB := n3_; clear n0_ n1_ n2_ n3_; (try clear hb); (try clear hb2); (try clear hk); (try clear hi); have hcz72_0 : w71.cell? ⟨gb203, 0, none⟩ = some (.int .i64 t197) := (blk_cell BK203.out 0).trans rfl; have hcz72_1 : w71.cell? ⟨gb203, 1, none⟩ = some (.slice Ao70 t198.length co70) := (blk_cell BK203.out 1).trans rfl; have hfz72_0 := blk_frozen BK203.out 0; have hfz72_1 := blk_frozen BK203.out 1; have p206 : 0 ≤ ((ji38) : Int) := of_decide_eq_true (by first | (with_reducible assumption) | assumption); have q206 : (ji38) < (l0.length : Int) := of_decide_eq_true (by first | (with_reducible assumption) | assumption); obtain ⟨ad206, A206_1, c206_1, e206, hx206_0, hx206_1, hl206_1, hi206_1⟩ := at_T39 HR0.out (ji38) p206 q206; cases e206; replace hx206_0 := (HB.out.cell (World.block_lt_of_cell? w _ hx206_0)).trans hx206_0; replace hx206_1 := (HB.out.cell (World.block_lt_of_cell? w _ hx206_1)).trans hx206_1; have HR206_1 := Aside0.mk hi206_1; have HC206_1 := Aside0.mk hl206_1; clear hi206_1 hl206_1; replace p206 := eq_true p206; replace q206 := eq_true q206))
                have n0_ := Aside0.mk (Kd.R_drew HO_7.out)
                have n1_ := Aside0.mk (Kd.R_drew HO200.out)
                have n2_ := Aside0.mk (blk_drew BK203.out)
                have n3_ := Aside0.mk (below_drew1 HB.out)
                clear HO_7
                clear HO200
                clear BK203
                clear HB
                have HO_7 := n0_
                have HO200 := n1_
                have BK203 := n2_
                have HB := n3_
                clear n0_ n1_ n2_ n3_
                have q74 : ((wrap64 (t205 + 1)) : Int) ≤ ((l0.length : Int) : Int) := of_decide_eq_true (by first | (with_reducible assumption) | assumption)
                obtain ⟨i074, hi074, _, hsz74, _⟩ := info_parts info39
                have hroom74 : l0.length ≤ c0 := HC0.out
                have hC74 : Kd.C k39 _ (some ad206) l0.length l0 := HR0.out
                have ql74 : (t205 : Int) ≤ ((wrap64 (t205 + 1)) : Int) := of_decide_eq_true (by first | (with_reducible assumption) | assumption)
                have q074 : (0 : Int) ≤ (t205 : Int) := of_decide_eq_true (by first | (with_reducible assumption) | assumption)
                have hcut74 := cut_mid (P := Try.prog) 22 39 .i64 .i64 Try.underlying22 hi074 2 hsz74 (some ad206) l0.length c0 t205 (wrap64 (t205 + 1)) q074 ql74 q74 hroom74
                have hr74 := Kd.C_mid (lo := (t205 : Int).toNat) (hi := ((wrap64 (t205 + 1)) : Int).toNat) (c := c0) hC74 (by omega) (by omega) hroom74
                obtain ⟨A74, hA74⟩ : ∃ A1, A1 = (if c0 = (t205 : Int).toNat then (some ad206) else ((some ad206) : Option Addr).map (·.add ((t205 : Int).toNat * 2))) := ⟨_, rfl⟩
                obtain ⟨c74, hc74⟩ : ∃ c1, c1 = c0 - (t205 : Int).toNat := ⟨_, rfl⟩
                have hy74 : y210.length = ((wrap64 (t205 + 1)) : Int).toNat - (t205 : Int).toNat := (by rw [Ny210.out, List.length_drop, List.length_take] <;> omega)
                rw [show ((l0).take ((wrap64 (t205 + 1)) : Int).toNat).drop (t205 : Int).toNat = y210 from Ny210.out.symm] at hr74
                replace hr74 : Kd.C k39 _ A74 y210.length y210 := (by rw [hA74]; exact hr74)
                rw [← hy74, ← hA74, ← hc74] at hcut74
                have HR213 := Aside0.mk hr74
                have HC213 := Aside0.mk (show y210.length ≤ c74 from by rw [hy74, hc74]; exact Nat.sub_le_sub_right (Nat.le_trans (by omega) hroom74) _)
                clear hr74 hC74 hroom74 hi074 hsz74 hc74
                have KY74 := Aside0.mk hy74
                have KA74 := Aside0.mk hA74
                clear hy74 hA74
                replace q74 := eq_true q74
                refine start_ (n := 9) (S := fun w' => w'.cell? ⟨gb203, 0, none⟩ = some (.int .i64 t197) ∧ w'.cell? ⟨gb203, 1, none⟩ = some (.slice Ao70 t198.length co70)) (ds := []) #[false, false, false, false, false, false, false, false, false] (by kernel_rfl) rfl rfl ⟨(blk_cell BK203.out 0).trans rfl, (blk_cell BK203.out 1).trans rfl⟩ (fun hHeld => ?_); refine with_tabW catchwordlaw06_PostFirst.tab12 catchwordlaw06_PostFirst.bits12 (fun HT_ HW_ => ?_)
                generalize w71.drew = w73 at HO_7 HO200 BK203 HB HR213 hHeld ⊢
                refine pure_ (i := 2) (N := some 94) (v := ?_) (a' := ?_) #[false, false, true, false, false, false, false, false, false] rfl rfl (any_of HT_.out (by kernel_rfl)) (fun _ _ _ h => h) (Or.inl ⟨by rfl, ?_⟩) ?_ ?_
                rotate_left
                ·intro w'
                 go_simp
                 with_reducible rfl
                rotate_left
                ·simp only [Act.put, List.setIfInBounds_toArray, List.set_cons_zero, List.set_cons_succ, i64_w, i32_w]
                 rfl
                refine pure_ (i := 3) (N := some 95) (v := ?_) (a' := ?_) #[false, false, true, true, false, false, false, false, false] rfl rfl (any_of HT_.out (by kernel_rfl)) (fun _ _ _ h => h) (Or.inl ⟨by rfl, ?_⟩) ?_ ?_
                rotate_left
                ·intro w'
                 go_simp
                 with_reducible rfl
                rotate_left
                ·simp only [Act.put, List.setIfInBounds_toArray, List.set_cons_zero, List.set_cons_succ, i64_w, i32_w]
                 rfl
                refine pure_ (i := 4) (N := some 96) (v := ?_) (a' := ?_) #[false, false, true, true, true, false, false, false, false] rfl rfl (any_of HT_.out (by kernel_rfl)) (fun _ _ _ h => h) (Or.inl ⟨by rfl, ?_⟩) ?_ ?_
                rotate_left
                ·intro w'
                 go_simp
                 with_reducible rfl
                rotate_left
                ·simp only [Act.put, List.setIfInBounds_toArray, List.set_cons_zero, List.set_cons_succ, i64_w, i32_w]
                 rfl
                refine pure_ (i := 5) (N := some 97) (v := ?_) (a' := ?_) #[false, false, true, true, true, true, false, false, false] rfl rfl (any_of HT_.out (by kernel_rfl)) (fun _ _ _ h => h) (Or.inl ⟨by rfl, ?_⟩) ?_ ?_
                rotate_left
                ·intro w'
                 go_simp
                 with_reducible rfl
                rotate_left
                ·simp only [Act.put, List.setIfInBounds_toArray, List.set_cons_zero, List.set_cons_succ, i64_w, i32_w]
                 rfl
                refine pure_ (i := 6) (N := some 98) (v := ?_) (a' := ?_) #[false, false, true, true, true, true, true, false, false] rfl rfl (any_of HT_.out (by kernel_rfl)) (fun _ _ _ h => h) (Or.inl ⟨by rfl, ?_⟩) ?_ ?_
                rotate_left
                ·intro w'
                 go_simp
                 with_reducible rfl
                rotate_left
                ·simp only [Act.put, List.setIfInBounds_toArray, List.set_cons_zero, List.set_cons_succ, i64_w, i32_w]
                 rfl
                refine take_ (i := 0) (N := some 92) (v := ?_) (a' := ?_) #[true, false, true, true, true, true, true, false, false] rfl rfl (take_ofW HT_.out HW_.out (by kernel_rfl)) (fun _ _ _ h => h) (Or.inl ⟨by rfl, ?_⟩) hHeld ?_ ?_
                rotate_left
                ·rintro w' ⟨s0, s1⟩
                 go_simp
                 with_reducible rfl
                rotate_left
                ·simp only [Act.put, List.setIfInBounds_toArray, List.set_cons_zero, List.set_cons_succ, i64_w, i32_w]
                 rfl
                refine one_ (i := 1) (N := some 93) #[true, true, true, true, true, true, true, false, false] rfl rfl (one_of HT_.out (by kernel_rfl)) (by decide) (fun K hK => ?_)
                refine Kd.N_lit_step k39 _ 39 ?hg (N' := 93) ?hd (xs := ([(⟨t197, t198⟩ : S39)] : List (S39))) (inner := [.int .i64 t197, .slice Ao70 t198.length co70]) (ok := (fun k_ => some k_ ≠ (.slice Ao66 t193.length co66 : Value).ownBlock ∧ k_ ≠ gb203)) (okp := (fun k_ => some k_ ≠ (.slice Ao66 t193.length co66 : Value).ownBlock ∧ k_ ≠ gb203)) ?hr ?hp (fun _ hk => hk) ((show ∀ k_, w73.heap.size ≤ k_ → (fun k_ => some k_ ≠ (.slice Ao66 t193.length co66 : Value).ownBlock ∧ k_ ≠ gb203) k_ from fun k_ hk => ⟨Kd.fresh' (Kd.R_lt (by (with_reducible repeat (first | apply Kd.R_alloc | apply Kd.R_drewN | apply Kd.R_drew)); exact HO_7.out)) k_ hk, Kd.freshB (g := gb203) (o := .cells #[.int .i64 t197, .slice Ao70 t198.length co70] 39 (0, 0)) (by (with_reducible repeat (first | refine blk_drewN ?_ _ | refine blk_drew ?_ | refine blk_alloc ?_ _)); exact BK203.out) k_ hk⟩) _ (Nat.le_refl _)) (Below.refl _ _) (Nat.le_refl _) (by simp) ?_; (case hd => rfl); (case hg => rfl); (case hr => first | (go_simp; done) | (go_simp; rfl)); (case hp => exact (Reps.c2 (show Kd.FK k39 _ _ (⟨t197, t198⟩ : S39) [.int .i64 t197, .slice Ao70 t198.length co70] from (k39_mkF _ _ (⟨t197, t198⟩ : S39) (Kd.R_reads' (Kd.R_mono (ok' := (fun k_ => some k_ ≠ (.slice Ao66 t193.length co66 : Value).ownBlock ∧ k_ ≠ gb203)) (Kd.R_types (Kd.R_apart' (HO200.out) (Kd.R_typed HO_7.out) (by decide)) BK203.out (by decide)) (fun k_ hk => ⟨hk.1.2, hk.2⟩))).2.1 (Kd.R_F (Kd.R_mono (ok' := (fun k_ => some k_ ≠ (.slice Ao66 t193.length co66 : Value).ownBlock ∧ k_ ≠ gb203)) (Kd.R_types (Kd.R_apart' (HO200.out) (Kd.R_typed HO_7.out) (by decide)) BK203.out (by decide)) (fun k_ hk => ⟨hk.1.2, hk.2⟩))))) (Reps.none _ _)))
                intro v208 w75 ho76 hb hg_ hnew_
                clear hg_ hnew_
                (first | rw [← Ny207.out] at ho76 | (simp only [Int.reduceToNat] at ho76; rw [← Ny207.out] at ho76))
                have n0_ := Aside0.mk (Kd.R_below (by (with_reducible repeat (first | apply Kd.R_alloc | apply Kd.R_drewN | apply Kd.R_drew)); exact HO_7.out) hb)
                have n1_ := Aside0.mk (Kd.N_lower ho76 (below_size (by repeat (first | (with_reducible first | exact HB.out | apply below_alloc | apply pw_below_drewN | apply below_drew1 | refine below_set ?_ GE203.out) | exact HB.out))))
                have n2_ := Aside0.mk (blk_below (g := gb203) (o := .cells #[.int .i64 t197, .slice Ao70 t198.length co70] 39 (0, 0)) (by (with_reducible repeat (first | refine blk_drewN ?_ _ | refine blk_drew ?_ | refine blk_alloc ?_ _)); exact BK203.out) hb)
                have n3_ := Aside0.mk (below_step (by repeat (first | (with_reducible first | exact HB.out | apply below_alloc | apply pw_below_drewN | apply below_drew1 | refine below_set ?_ GE203.out) | exact HB.out)) hb)
                clear HO_7
                clear BK203
                clear HB
                clear HO200
                have HO_7 := n0_
                have HO209 := n1_
                have BK203 := n2_
                have HB := n3_
                clear n0_ n1_ n2_ n3_
                clear hb ho76
                obtain ⟨Ao77, co77, eo77⟩ := Kd.N_slice HO209.out
                (first | subst eo77 | (injection eo77 with f1_ f2_ f3_; have f4_ := f1_.symm; have f5_ := f3_.symm; clear f1_ f2_ f3_; subst f4_; subst f5_))
                refine hK.out _ _ ⟨(blk_cell BK203.out 0).trans rfl, (blk_cell BK203.out 1).trans rfl⟩ (fun hHeld => ?_)
                clear hK K
                refine norm_ (a' := ?_) ?_ ?_
                rotate_left
                ·show Act.put _ (some 93) _ = _
                 simp only [Act.put, List.setIfInBounds_toArray, List.set_cons_zero, List.set_cons_succ, i64_w, i32_w]
                 rfl
                refine one_ (i := 7) (N := some 99) #[true, true, true, true, true, true, true, true, false] rfl rfl (one_of HT_.out (by kernel_rfl)) (by decide) (fun K hK => ?_)
                refine goes_ Try.func14 (by kernel_rfl) rfl #[.slice Ao77 y207.length co77, .slice A74 y210.length c74] (by rfl) rfl rfl (by (try simp only [List.map_toArray, List.map_cons, List.map_nil]); first | done | rfl | (simp only [List.length_drop, List.length_take]; rfl)) ?_
                with_reducible refine (catchwordref06_Same.calls kj5 _ _ y207 _ _ y210 false _ ?side1 ?side2 ?side3 ?side4 A52.out).mono ?_
                (case side1 => repeat (first | exact (Kd.N_reads' HO209.out).2.2 | (with_reducible refine Kd.C_alloc ?_ _) | (with_reducible refine Kd.C_drewN ?_ _) | (with_reducible refine Kd.C_drew ?_)))
                (case side2 => exact (Kd.N_reads' HO209.out).2.1)
                (case side3 => repeat (first | exact (Kd.C_below HR213.out HB.out) | (with_reducible refine Kd.C_alloc ?_ _) | (with_reducible refine Kd.C_drewN ?_ _) | (with_reducible refine Kd.C_drew ?_)))
                (case side4 => exact HC213.out)
                rintro e w' ⟨rfl, ⟨nd, rfl⟩⟩
                refine ⟨_, rfl, ?_⟩
                refine hK.out _ _ ⟨(blk_cell BK203.out 0).trans rfl, (blk_cell BK203.out 1).trans rfl⟩ (fun hHeld => ?_)
                clear hK K
                refine norm_ (a' := ?_) ?_ ?_
                rotate_left
                ·show Act.put _ (some 99) _ = _
                 simp only [Act.put, List.setIfInBounds_toArray, List.set_cons_zero, List.set_cons_succ, i64_w, i32_w]
                 rfl
                refine pure_ (i := 8) (N := some 13) (v := ?_) (a' := ?_) #[true, true, true, true, true, true, true, true, true] rfl rfl (any_of HT_.out (by kernel_rfl)) (fun _ _ _ h => h) (Or.inl ⟨by rfl, ?_⟩) ?_ ?_
                rotate_left
                ·intro w'
                 go_simp
                 with_reducible rfl
                rotate_left
                ·simp only [Act.put, List.setIfInBounds_toArray, List.set_cons_zero, List.set_cons_succ, i64_w, i32_w]
                 rfl
                refine done_ (done_of HT_.out (by kernel_rfl)) ?_
                try go_wp2
                go_ret
                exact ⟨by first | rfl | (simp [errW_none, errW_some] <;> rfl) | (simp only [← hji38]; first | rfl | (simp [errW_none, errW_some] <;> rfl)) | (simp [*, errW_none, errW_some] <;> rfl), by repeat (first | (with_reducible first | exact HB.out | apply below_alloc | apply pw_below_drewN | apply below_drew1 | refine below_set ?_ GE203.out) | exact HB.out)⟩
              ·rw [if_neg c51] at H
               exact absurd H (by simp)
             ·rw [if_neg c50] at H
              exact absurd H (by simp)
            ·rw [if_neg c49] at H
             exact absurd H (by simp)
          ·rw [if_neg c40] at H
           exact absurd H (by simp)
         ·rw [if_neg c39] at H
          exact absurd H (by simp)
        ·rw [if_neg c37] at H
         have c37b0 : decide (0 < t205) = false := decide_eq_false c37
         clear c37
         obtain ⟨y215, hy215⟩ : ∃ y_ : List (S39), y_ = (([(⟨t197, t198⟩ : S39)] : List (S39))) := ⟨_, rfl⟩
         replace H : (if 0 ≤ t205 then (if t205 ≤ (wrap64 (t205 + 1)) then (if (wrap64 (t205 + 1)) ≤ (l0.length : Int) then ((catchwordref06_Same.f kj5 y215 ((l0.take ((wrap64 (t205 + 1)) : Int).toNat).drop (t205 : Int).toNat)).bind fun t222 => (if t222 = true then (some (t201 == (wrap64 (Int.tdiv t205 4)))) else (some false))) else (none)) else (none)) else (none)) = some r := by first | (rw [hy215]; with_reducible exact H) | (have H2_ := (Option.bind_some _ _).symm.trans H; rw [hy215]; with_reducible exact H2_) | (have H2_ := (Option.bind_some _ _).symm.trans H; with_reducible exact H2_) | with_reducible exact H | (rw [hy215]; exact H) | exact H
         have Ny215 := Aside0.mk hy215
         clear hy215
         by_cases c78 : 0 ≤ t205
         ·rw [if_pos c78] at H
          have c78b0 := eq_true c78
          have c78b1 : decide (0 ≤ t205) = true := decide_eq_true c78
          clear c78
          by_cases c79 : t205 ≤ (wrap64 (t205 + 1))
          ·rw [if_pos c79] at H
           have c79b0 := eq_true c79
           have c79b1 : decide (t205 ≤ (wrap64 (t205 + 1))) = true := decide_eq_true c79
           by_cases c80 : (wrap64 (t205 + 1)) ≤ (l0.length : Int)
           ·rw [if_pos c80] at H
            have c80b0 := eq_true c80
            have c80b1 : decide ((wrap64 (t205 + 1)) ≤ (l0.length : Int)) = true := decide_eq_true c80
            obtain ⟨y218, hy218⟩ : ∃ y_ : List (S39), y_ = ((l0.take ((wrap64 (t205 + 1)) : Int).toNat).drop (t205 : Int).toNat) := ⟨_, rfl⟩
            replace H : ((catchwordref06_Same.f kj5 y215 y218).bind fun t222 => (if t222 = true then (some (t201 == (wrap64 (Int.tdiv t205 4)))) else (some false))) = some r := by first | (rw [hy218]; with_reducible exact H) | (have H2_ := (Option.bind_some _ _).symm.trans H; rw [hy218]; with_reducible exact H2_) | (have H2_ := (Option.bind_some _ _).symm.trans H; with_reducible exact H2_) | with_reducible exact H | (rw [hy218]; exact H) | exact H
            have Ny218 := Aside0.mk hy218
            clear hy218
            replace H := Option.bind_eq_some_iff.mp H
            obtain ⟨t222, A810, H⟩ := H
            replace H : (if t222 = true then (some (t201 == (wrap64 (Int.tdiv t205 4)))) else (some false)) = some r := H
            have A81 := Aside0.mk A810
            clear A810
            by_cases c82 : t222 = true
            ·subst c82
             have H1 : (some (t201 == (wrap64 (Int.tdiv t205 4)))) = some r := by rw [if_pos rfl] at H; exact H
             clear H
             have H := H1
             clear H1
             obtain rfl := Option.some.inj H
             obtain ⟨Ao83, co83, eo83⟩ := Kd.R_slice HO_7.out
             subst eo83
             try go_wp2_with (first | ((with_reducible refine gate_callee (f := 25) rfl ?_); refine goesL_ (some 36) rfl rfl Try.func25 (by kernel_rfl) rfl #[.slice Ao83 t193.length co83, .int .i64 a1] rfl (by (try simp only [List.map_toArray, List.map_cons, List.map_nil]); first | done | rfl | (simp only [List.length_drop, List.length_take]; rfl)) ?_; (with_reducible refine (post_Seek.calls _ _ t193 a1 t197 t198 t201 t202 _ ?side1 ?side2 A12.out).mono ?_); (case side1 => repeat (first | exact (Kd.R_reads' HO_7.out).2.2 | (with_reducible refine Kd.C_alloc ?_ _) | (with_reducible refine Kd.C_drewN ?_ _) | (with_reducible refine Kd.C_drew ?_))); (case side2 => exact (Kd.R_reads' HO_7.out).2.1); rintro e w84 ⟨v199, rfl, ho0, hb⟩; refine ⟨_, rfl, ?_⟩; have n0_ := Aside0.mk (Kd.R_below (by (with_reducible repeat (first | apply Kd.R_alloc | apply Kd.R_drewN | apply Kd.R_drew)); exact HO_7.out) hb); have n1_ := Aside0.mk (Kd.R_lower ho0 (below_size (by repeat (first | (with_reducible first | exact HB.out | apply below_alloc | apply pw_below_drewN | apply below_drew1) | exact HB.out)))); have n2_ := Aside0.mk (below_step (by repeat (first | (with_reducible first | exact HB.out | apply below_alloc | apply pw_below_drewN | apply below_drew1) | exact HB.out)) hb); clear HO_7; clear HB; have HO_7 := n0_; have HO200 := n1_; have HB := n2_; clear n0_ n1_ n2_; (try clear hb); (try clear hb2); (try clear hk); (try clear hi); (try clear ho0)) | ((with_reducible refine gate_dst (N := 9) rfl ?_); (try (refine gate_guard (by rfl) ?_; dsimp only)); refine box_event ?hg (N := 9) ?hd (cs := #[.int .i64 0, .slice none 0 0]) (t := 39) ?hr ?_; (case hd => rfl); (case hg => rfl); (case hr => first | (go_simp; done) | (go_simp; rfl)); intro gb203 hg w85 hbox hb; have n0_ := Aside0.mk (Kd.R_below (by (with_reducible repeat (first | apply Kd.R_alloc | apply Kd.R_drewN | apply Kd.R_drew)); exact HO_7.out) hb); have n1_ := Aside0.mk (Kd.R_below (by (with_reducible repeat (first | apply Kd.R_alloc | apply Kd.R_drewN | apply Kd.R_drew)); exact HO200.out) hb); have n2_ := Aside0.mk (below_step (by repeat (first | (with_reducible first | exact HB.out | apply below_alloc | apply pw_below_drewN | apply below_drew1) | exact HB.out)) hb); have n3_ := Aside0.mk (hbox); have n4_ := Aside0.mk ((by rw [hg]; exact (below_size (by repeat (first | (with_reducible first | exact HB.out | apply below_alloc | apply pw_below_drewN | apply below_drew1) | exact HB.out))) : w.heap.size ≤ gb203)); have n5_ := Aside0.mk ((by rw [hg]; exact (below_size (by repeat (first | (with_reducible first | exact HB.out | apply below_alloc | apply pw_below_drewN | apply below_drew1) | exact HB.out))) : w.heap.size ≤ gb203)); clear HO_7; clear HO200; clear HB; have HO_7 := n0_; have HO200 := n1_; have HB := n2_; have BK203 := n3_; have GW203 := n4_; have GE203 := n5_; clear n0_ n1_ n2_ n3_ n4_ n5_; clear hb hbox hg; have hcz86_0 : w85.cell? ⟨gb203, 0, none⟩ = some (.int .i64 0) := (blk_cell BK203.out 0).trans rfl; have hcz86_1 : w85.cell? ⟨gb203, 1, none⟩ = some (.slice none 0 0) := (blk_cell BK203.out 1).trans rfl; have hfz86_0 := blk_frozen BK203.out 0; have hfz86_1 := blk_frozen BK203.out 1; obtain ⟨Ao87, co87, eo87⟩ := Kd.R_slice HO200.out; subst eo87) | ((with_reducible refine gate_callee (f := 17) rfl ?_); refine goesL_ (some 63) rfl rfl Try.func17 (by kernel_rfl) rfl #[.slice A0 l0.length c0, .int .i64 t197] rfl (by (try simp only [List.map_toArray, List.map_cons, List.map_nil]); first | done | rfl | (simp only [List.length_drop, List.length_take]; rfl)) ?_; (with_reducible refine (post_Find.calls kj5 _ _ l0 t197 t205 _ ?side1 ?side2 A14.out).mono ?_); (case side1 => exact Kd.C_below HR0.out (by repeat (first | (with_reducible first | exact HB.out | apply below_alloc | apply pw_below_drewN | apply below_drew1 | refine below_set ?_ GE203.out) | exact HB.out))); (case side2 => exact HC0.out); rintro e w88 ⟨rfl, hb⟩; refine ⟨_, rfl, ?_⟩; have n0_ := Aside0.mk (Kd.R_below (by (with_reducible repeat (first | apply Kd.R_alloc | apply Kd.R_drewN | apply Kd.R_drew)); exact (Kd.R_mono (Kd.R_far (p := ⟨gb203, 1, none⟩) (Kd.R_far (p := ⟨gb203, 0, none⟩) (Kd.R_types HO_7.out BK203.out (by decide)) (fun _ hk => hk.2) (.int .i64 t197)) (fun _ hk => hk.2) (.slice Ao87 t198.length co87)) (fun _ h_ => h_.1))) hb); have n1_ := Aside0.mk (Kd.R_below (by (with_reducible repeat (first | apply Kd.R_alloc | apply Kd.R_drewN | apply Kd.R_drew)); exact (Kd.R_mono (Kd.R_far (p := ⟨gb203, 1, none⟩) (Kd.R_far (p := ⟨gb203, 0, none⟩) (Kd.R_types HO200.out BK203.out (by decide)) (fun _ hk => hk.2) (.int .i64 t197)) (fun _ hk => hk.2) (.slice Ao87 t198.length co87)) (fun _ h_ => h_.1))) hb); have n2_ := Aside0.mk (blk_below (g := gb203) (o := .cells #[.int .i64 t197, .slice Ao87 t198.length co87] 39 (0, 0)) (by (with_reducible repeat (first | refine blk_drewN ?_ _ | refine blk_drew ?_ | refine blk_alloc ?_ _)); refine blk_put (cs := #[.int .i64 t197, .slice none 0 0]) ?_ 1 _ rfl; (with_reducible repeat (first | refine blk_drewN ?_ _ | refine blk_drew ?_ | refine blk_alloc ?_ _)); refine blk_put (cs := #[.int .i64 0, .slice none 0 0]) ?_ 0 _ rfl; (with_reducible repeat (first | refine blk_drewN ?_ _ | refine blk_drew ?_ | refine blk_alloc ?_ _)); exact BK203.out) hb); have n3_ := Aside0.mk (below_step (by repeat (first | (with_reducible first | exact HB.out | apply below_alloc | apply pw_below_drewN | apply below_drew1 | refine below_set ?_ GE203.out) | exact HB.out)) hb); clear HO_7; clear HO200; clear BK203; clear HB; have HO_7 := n0_; have HO200 := n1_; have BK203 := n2_; have HB := n3_; clear n0_ n1_ n2_ n3_; (try clear hb); (try clear hb2); (try clear hk); (try clear hi); have hcz89_0 : w88.cell? ⟨gb203, 0, none⟩ = some (.int .i64 t197) := (blk_cell BK203.out 0).trans rfl; have hcz89_1 : w88.cell? ⟨gb203, 1, none⟩ = some (.slice Ao87 t198.length co87) := (blk_cell BK203.out 1).trans rfl; have hfz89_0 := blk_frozen BK203.out 0; have hfz89_1 := blk_frozen BK203.out 1))
             have n0_ := Aside0.mk (Kd.R_drew HO_7.out)
             have n1_ := Aside0.mk (Kd.R_drew HO200.out)
             have n2_ := Aside0.mk (blk_drew BK203.out)
             have n3_ := Aside0.mk (below_drew1 HB.out)
             clear HO_7
             clear HO200
             clear BK203
             clear HB
             have HO_7 := n0_
             have HO200 := n1_
             have BK203 := n2_
             have HB := n3_
             clear n0_ n1_ n2_ n3_
             have q91 : ((wrap64 (t205 + 1)) : Int) ≤ ((l0.length : Int) : Int) := of_decide_eq_true (by first | (with_reducible assumption) | assumption)
             obtain ⟨i091, hi091, _, hsz91, _⟩ := info_parts info39
             have hroom91 : l0.length ≤ c0 := HC0.out
             have hC91 : Kd.C k39 _ A0 l0.length l0 := HR0.out
             have ql91 : (t205 : Int) ≤ ((wrap64 (t205 + 1)) : Int) := of_decide_eq_true (by first | (with_reducible assumption) | assumption)
             have q091 : (0 : Int) ≤ (t205 : Int) := of_decide_eq_true (by first | (with_reducible assumption) | assumption)
             have hcut91 := cut_mid (P := Try.prog) 22 39 .i64 .i64 Try.underlying22 hi091 2 hsz91 A0 l0.length c0 t205 (wrap64 (t205 + 1)) q091 ql91 q91 hroom91
             have hr91 := Kd.C_mid (lo := (t205 : Int).toNat) (hi := ((wrap64 (t205 + 1)) : Int).toNat) (c := c0) hC91 (by omega) (by omega) hroom91
             obtain ⟨A91, hA91⟩ : ∃ A1, A1 = (if c0 = (t205 : Int).toNat then A0 else (A0 : Option Addr).map (·.add ((t205 : Int).toNat * 2))) := ⟨_, rfl⟩
             obtain ⟨c91, hc91⟩ : ∃ c1, c1 = c0 - (t205 : Int).toNat := ⟨_, rfl⟩
             have hy91 : y218.length = ((wrap64 (t205 + 1)) : Int).toNat - (t205 : Int).toNat := (by rw [Ny218.out, List.length_drop, List.length_take] <;> omega)
             rw [show ((l0).take ((wrap64 (t205 + 1)) : Int).toNat).drop (t205 : Int).toNat = y218 from Ny218.out.symm] at hr91
             replace hr91 : Kd.C k39 _ A91 y218.length y218 := (by rw [hA91]; exact hr91)
             rw [← hy91, ← hA91, ← hc91] at hcut91
             have HR221 := Aside0.mk hr91
             have HC221 := Aside0.mk (show y218.length ≤ c91 from by rw [hy91, hc91]; exact Nat.sub_le_sub_right (Nat.le_trans (by omega) hroom91) _)
             clear hr91 hC91 hroom91 hi091 hsz91 hc91
             have KY91 := Aside0.mk hy91
             have KA91 := Aside0.mk hA91
             clear hy91 hA91
             replace q91 := eq_true q91
             refine start_ (n := 9) (S := fun w' => w'.cell? ⟨gb203, 0, none⟩ = some (.int .i64 t197) ∧ w'.cell? ⟨gb203, 1, none⟩ = some (.slice Ao87 t198.length co87)) (ds := []) #[false, false, false, false, false, false, false, false, false] (by kernel_rfl) rfl rfl ⟨(blk_cell BK203.out 0).trans rfl, (blk_cell BK203.out 1).trans rfl⟩ (fun hHeld => ?_); refine with_tabW catchwordlaw06_PostFirst.tab12 catchwordlaw06_PostFirst.bits12 (fun HT_ HW_ => ?_)
             generalize w88.drew = w90 at HO_7 HO200 BK203 HB HR221 hHeld ⊢
             refine pure_ (i := 2) (N := some 94) (v := ?_) (a' := ?_) #[false, false, true, false, false, false, false, false, false] rfl rfl (any_of HT_.out (by kernel_rfl)) (fun _ _ _ h => h) (Or.inl ⟨by rfl, ?_⟩) ?_ ?_
             rotate_left
             ·intro w'
              go_simp
              with_reducible rfl
             rotate_left
             ·simp only [Act.put, List.setIfInBounds_toArray, List.set_cons_zero, List.set_cons_succ, i64_w, i32_w]
              rfl
             refine pure_ (i := 3) (N := some 95) (v := ?_) (a' := ?_) #[false, false, true, true, false, false, false, false, false] rfl rfl (any_of HT_.out (by kernel_rfl)) (fun _ _ _ h => h) (Or.inl ⟨by rfl, ?_⟩) ?_ ?_
             rotate_left
             ·intro w'
              go_simp
              with_reducible rfl
             rotate_left
             ·simp only [Act.put, List.setIfInBounds_toArray, List.set_cons_zero, List.set_cons_succ, i64_w, i32_w]
              rfl
             refine pure_ (i := 4) (N := some 96) (v := ?_) (a' := ?_) #[false, false, true, true, true, false, false, false, false] rfl rfl (any_of HT_.out (by kernel_rfl)) (fun _ _ _ h => h) (Or.inl ⟨by rfl, ?_⟩) ?_ ?_
             rotate_left
             ·intro w'
              go_simp
              with_reducible rfl
             rotate_left
             ·simp only [Act.put, List.setIfInBounds_toArray, List.set_cons_zero, List.set_cons_succ, i64_w, i32_w]
              rfl
             refine pure_ (i := 5) (N := some 97) (v := ?_) (a' := ?_) #[false, false, true, true, true, true, false, false, false] rfl rfl (any_of HT_.out (by kernel_rfl)) (fun _ _ _ h => h) (Or.inl ⟨by rfl, ?_⟩) ?_ ?_
             rotate_left
             ·intro w'
              go_simp
              with_reducible rfl
             rotate_left
             ·simp only [Act.put, List.setIfInBounds_toArray, List.set_cons_zero, List.set_cons_succ, i64_w, i32_w]
              rfl
             refine pure_ (i := 6) (N := some 98) (v := ?_) (a' := ?_) #[false, false, true, true, true, true, true, false, false] rfl rfl (any_of HT_.out (by kernel_rfl)) (fun _ _ _ h => h) (Or.inl ⟨by rfl, ?_⟩) ?_ ?_
             rotate_left
             ·intro w'
              go_simp
              with_reducible rfl
             rotate_left
             ·simp only [Act.put, List.setIfInBounds_toArray, List.set_cons_zero, List.set_cons_succ, i64_w, i32_w]
              rfl
             refine take_ (i := 0) (N := some 92) (v := ?_) (a' := ?_) #[true, false, true, true, true, true, true, false, false] rfl rfl (take_ofW HT_.out HW_.out (by kernel_rfl)) (fun _ _ _ h => h) (Or.inl ⟨by rfl, ?_⟩) hHeld ?_ ?_
             rotate_left
             ·rintro w' ⟨s0, s1⟩
              go_simp
              with_reducible rfl
             rotate_left
             ·simp only [Act.put, List.setIfInBounds_toArray, List.set_cons_zero, List.set_cons_succ, i64_w, i32_w]
              rfl
             refine one_ (i := 1) (N := some 93) #[true, true, true, true, true, true, true, false, false] rfl rfl (one_of HT_.out (by kernel_rfl)) (by decide) (fun K hK => ?_)
             refine Kd.N_lit_step k39 _ 39 ?hg (N' := 93) ?hd (xs := ([(⟨t197, t198⟩ : S39)] : List (S39))) (inner := [.int .i64 t197, .slice Ao87 t198.length co87]) (ok := (fun k_ => some k_ ≠ (.slice Ao83 t193.length co83 : Value).ownBlock ∧ k_ ≠ gb203)) (okp := (fun k_ => some k_ ≠ (.slice Ao83 t193.length co83 : Value).ownBlock ∧ k_ ≠ gb203)) ?hr ?hp (fun _ hk => hk) ((show ∀ k_, w90.heap.size ≤ k_ → (fun k_ => some k_ ≠ (.slice Ao83 t193.length co83 : Value).ownBlock ∧ k_ ≠ gb203) k_ from fun k_ hk => ⟨Kd.fresh' (Kd.R_lt (by (with_reducible repeat (first | apply Kd.R_alloc | apply Kd.R_drewN | apply Kd.R_drew)); exact HO_7.out)) k_ hk, Kd.freshB (g := gb203) (o := .cells #[.int .i64 t197, .slice Ao87 t198.length co87] 39 (0, 0)) (by (with_reducible repeat (first | refine blk_drewN ?_ _ | refine blk_drew ?_ | refine blk_alloc ?_ _)); exact BK203.out) k_ hk⟩) _ (Nat.le_refl _)) (Below.refl _ _) (Nat.le_refl _) (by simp) ?_; (case hd => rfl); (case hg => rfl); (case hr => first | (go_simp; done) | (go_simp; rfl)); (case hp => exact (Reps.c2 (show Kd.FK k39 _ _ (⟨t197, t198⟩ : S39) [.int .i64 t197, .slice Ao87 t198.length co87] from (k39_mkF _ _ (⟨t197, t198⟩ : S39) (Kd.R_reads' (Kd.R_mono (ok' := (fun k_ => some k_ ≠ (.slice Ao83 t193.length co83 : Value).ownBlock ∧ k_ ≠ gb203)) (Kd.R_types (Kd.R_apart' (HO200.out) (Kd.R_typed HO_7.out) (by decide)) BK203.out (by decide)) (fun k_ hk => ⟨hk.1.2, hk.2⟩))).2.1 (Kd.R_F (Kd.R_mono (ok' := (fun k_ => some k_ ≠ (.slice Ao83 t193.length co83 : Value).ownBlock ∧ k_ ≠ gb203)) (Kd.R_types (Kd.R_apart' (HO200.out) (Kd.R_typed HO_7.out) (by decide)) BK203.out (by decide)) (fun k_ hk => ⟨hk.1.2, hk.2⟩))))) (Reps.none _ _)))
             intro v216 w92 ho93 hb hg_ hnew_
             clear hg_ hnew_
             (first | rw [← Ny215.out] at ho93 | (simp only [Int.reduceToNat] at ho93; rw [← Ny215.out] at ho93))
             have n0_ := Aside0.mk (Kd.R_below (by (with_reducible repeat (first | apply Kd.R_alloc | apply Kd.R_drewN | apply Kd.R_drew)); exact HO_7.out) hb)
             have n1_ := Aside0.mk (Kd.N_lower ho93 (below_size (by repeat (first | (with_reducible first | exact HB.out | apply below_alloc | apply pw_below_drewN | apply below_drew1 | refine below_set ?_ GE203.out) | exact HB.out))))
             have n2_ := Aside0.mk (blk_below (g := gb203) (o := .cells #[.int .i64 t197, .slice Ao87 t198.length co87] 39 (0, 0)) (by (with_reducible repeat (first | refine blk_drewN ?_ _ | refine blk_drew ?_ | refine blk_alloc ?_ _)); exact BK203.out) hb)
             have n3_ := Aside0.mk (below_step (by repeat (first | (with_reducible first | exact HB.out | apply below_alloc | apply pw_below_drewN | apply below_drew1 | refine below_set ?_ GE203.out) | exact HB.out)) hb)
             clear HO_7
             clear BK203
             clear HB
             clear HO200
             have HO_7 := n0_
             have HO217 := n1_
             have BK203 := n2_
             have HB := n3_
             clear n0_ n1_ n2_ n3_
             clear hb ho93
             obtain ⟨Ao94, co94, eo94⟩ := Kd.N_slice HO217.out
             (first | subst eo94 | (injection eo94 with f1_ f2_ f3_; have f4_ := f1_.symm; have f5_ := f3_.symm; clear f1_ f2_ f3_; subst f4_; subst f5_))
             refine hK.out _ _ ⟨(blk_cell BK203.out 0).trans rfl, (blk_cell BK203.out 1).trans rfl⟩ (fun hHeld => ?_)
             clear hK K
             refine norm_ (a' := ?_) ?_ ?_
             rotate_left
             ·show Act.put _ (some 93) _ = _
              simp only [Act.put, List.setIfInBounds_toArray, List.set_cons_zero, List.set_cons_succ, i64_w, i32_w]
              rfl
             refine one_ (i := 7) (N := some 99) #[true, true, true, true, true, true, true, true, false] rfl rfl (one_of HT_.out (by kernel_rfl)) (by decide) (fun K hK => ?_)
             refine goes_ Try.func14 (by kernel_rfl) rfl #[.slice Ao94 y215.length co94, .slice A91 y218.length c91] (by rfl) rfl rfl (by (try simp only [List.map_toArray, List.map_cons, List.map_nil]); first | done | rfl | (simp only [List.length_drop, List.length_take]; rfl)) ?_
             with_reducible refine (catchwordref06_Same.calls kj5 _ _ y215 _ _ y218 true _ ?side1 ?side2 ?side3 ?side4 A81.out).mono ?_
             (case side1 => repeat (first | exact (Kd.N_reads' HO217.out).2.2 | (with_reducible refine Kd.C_alloc ?_ _) | (with_reducible refine Kd.C_drewN ?_ _) | (with_reducible refine Kd.C_drew ?_)))
             (case side2 => exact (Kd.N_reads' HO217.out).2.1)
             (case side3 => repeat (first | exact (Kd.C_below HR221.out HB.out) | (with_reducible refine Kd.C_alloc ?_ _) | (with_reducible refine Kd.C_drewN ?_ _) | (with_reducible refine Kd.C_drew ?_)))
             (case side4 => exact HC221.out)
             rintro e w' ⟨rfl, ⟨nd, rfl⟩⟩
             refine ⟨_, rfl, ?_⟩
             refine hK.out _ _ ⟨(blk_cell BK203.out 0).trans rfl, (blk_cell BK203.out 1).trans rfl⟩ (fun hHeld => ?_)
             clear hK K
             refine norm_ (a' := ?_) ?_ ?_
             rotate_left
             ·show Act.put _ (some 99) _ = _
              simp only [Act.put, List.setIfInBounds_toArray, List.set_cons_zero, List.set_cons_succ, i64_w, i32_w]
              rfl
             refine pure_ (i := 8) (N := some 13) (v := ?_) (a' := ?_) #[true, true, true, true, true, true, true, true, true] rfl rfl (any_of HT_.out (by kernel_rfl)) (fun _ _ _ h => h) (Or.inl ⟨by rfl, ?_⟩) ?_ ?_
             rotate_left
             ·intro w'
              go_simp
              with_reducible rfl
             rotate_left
             ·simp only [Act.put, List.setIfInBounds_toArray, List.set_cons_zero, List.set_cons_succ, i64_w, i32_w]
              rfl
             refine done_ (done_of HT_.out (by kernel_rfl)) ?_
             try go_wp2
             go_ret
             exact ⟨by first | rfl | (simp [errW_none, errW_some] <;> rfl) | (simp [*, errW_none, errW_some] <;> rfl), by repeat (first | (with_reducible first | exact HB.out | apply below_alloc | apply pw_below_drewN | apply below_drew1 | refine below_set ?_ GE203.out) | exact HB.out)⟩
            ·replace c82 := Bool.eq_false_iff.mpr c82
             subst c82
             have H1 : (some false) = some r := by rw [if_neg (show ¬ (false = true) by decide)] at H; exact H
             clear H
             have H := H1
             clear H1
             obtain rfl := Option.some.inj H
             obtain ⟨Ao95, co95, eo95⟩ := Kd.R_slice HO_7.out
             subst eo95
             try go_wp2_with (first | ((with_reducible refine gate_callee (f := 25) rfl ?_); refine goesL_ (some 36) rfl rfl Try.func25 (by kernel_rfl) rfl #[.slice Ao95 t193.length co95, .int .i64 a1] rfl (by (try simp only [List.map_toArray, List.map_cons, List.map_nil]); first | done | rfl | (simp only [List.length_drop, List.length_take]; rfl)) ?_; (with_reducible refine (post_Seek.calls _ _ t193 a1 t197 t198 t201 t202 _ ?side1 ?side2 A12.out).mono ?_); (case side1 => repeat (first | exact (Kd.R_reads' HO_7.out).2.2 | (with_reducible refine Kd.C_alloc ?_ _) | (with_reducible refine Kd.C_drewN ?_ _) | (with_reducible refine Kd.C_drew ?_))); (case side2 => exact (Kd.R_reads' HO_7.out).2.1); rintro e w96 ⟨v199, rfl, ho0, hb⟩; refine ⟨_, rfl, ?_⟩; have n0_ := Aside0.mk (Kd.R_below (by (with_reducible repeat (first | apply Kd.R_alloc | apply Kd.R_drewN | apply Kd.R_drew)); exact HO_7.out) hb); have n1_ := Aside0.mk (Kd.R_lower ho0 (below_size (by repeat (first | (with_reducible first | exact HB.out | apply below_alloc | apply pw_below_drewN | apply below_drew1) | exact HB.out)))); have n2_ := Aside0.mk (below_step (by repeat (first | (with_reducible first | exact HB.out | apply below_alloc | apply pw_below_drewN | apply below_drew1) | exact HB.out)) hb); clear HO_7; clear HB; have HO_7 := n0_; have HO200 := n1_; have HB := n2_; clear n0_ n1_ n2_; (try clear hb); (try clear hb2); (try clear hk); (try clear hi); (try clear ho0)) | ((with_reducible refine gate_dst (N := 9) rfl ?_); (try (refine gate_guard (by rfl) ?_; dsimp only)); refine box_event ?hg (N := 9) ?hd (cs := #[.int .i64 0, .slice none 0 0]) (t := 39) ?hr ?_; (case hd => rfl); (case hg => rfl); (case hr => first | (go_simp; done) | (go_simp; rfl)); intro gb203 hg w97 hbox hb; have n0_ := Aside0.mk (Kd.R_below (by (with_reducible repeat (first | apply Kd.R_alloc | apply Kd.R_drewN | apply Kd.R_drew)); exact HO_7.out) hb); have n1_ := Aside0.mk (Kd.R_below (by (with_reducible repeat (first | apply Kd.R_alloc | apply Kd.R_drewN | apply Kd.R_drew)); exact HO200.out) hb); have n2_ := Aside0.mk (below_step (by repeat (first | (with_reducible first | exact HB.out | apply below_alloc | apply pw_below_drewN | apply below_drew1) | exact HB.out)) hb); have n3_ := Aside0.mk (hbox); have n4_ := Aside0.mk ((by rw [hg]; exact (below_size (by repeat (first | (with_reducible first | exact HB.out | apply below_alloc | apply pw_below_drewN | apply below_drew1) | exact HB.out))) : w.heap.size ≤ gb203)); have n5_ := Aside0.mk ((by rw [hg]; exact (below_size (by repeat (first | (with_reducible first | exact HB.out | apply below_alloc | apply pw_below_drewN | apply below_drew1) | exact HB.out))) : w.heap.size ≤ gb203)); clear HO_7; clear HO200; clear HB; have HO_7 := n0_; have HO200 := n1_; have HB := n2_; have BK203 := n3_; have GW203 := n4_; have GE203 := n5_; clear n0_ n1_ n2_ n3_ n4_ n5_; clear hb hbox hg; have hcz98_0 : w97.cell? ⟨gb203, 0, none⟩ = some (.int .i64 0) := (blk_cell BK203.out 0).trans rfl; have hcz98_1 : w97.cell? ⟨gb203, 1, none⟩ = some (.slice none 0 0) := (blk_cell BK203.out 1).trans rfl; have hfz98_0 := blk_frozen BK203.out 0; have hfz98_1 := blk_frozen BK203.out 1; obtain ⟨Ao99, co99, eo99⟩ := Kd.R_slice HO200.out; subst eo99) | ((with_reducible refine gate_callee (f := 17) rfl ?_); refine goesL_ (some 63) rfl rfl Try.func17 (by kernel_rfl) rfl #[.slice A0 l0.length c0, .int .i64 t197] rfl (by (try simp only [List.map_toArray, List.map_cons, List.map_nil]); first | done | rfl | (simp only [List.length_drop, List.length_take]; rfl)) ?_; (with_reducible refine (post_Find.calls kj5 _ _ l0 t197 t205 _ ?side1 ?side2 A14.out).mono ?_); (case side1 => exact Kd.C_below HR0.out (by repeat (first | (with_reducible first | exact HB.out | apply below_alloc | apply pw_below_drewN | apply below_drew1 | refine below_set ?_ GE203.out) | exact HB.out))); (case side2 => exact HC0.out); rintro e w100 ⟨rfl, hb⟩; refine ⟨_, rfl, ?_⟩; have n0_ := Aside0.mk (Kd.R_below (by (with_reducible repeat (first | apply Kd.R_alloc | apply Kd.R_drewN | apply Kd.R_drew)); exact (Kd.R_mono (Kd.R_far (p := ⟨gb203, 1, none⟩) (Kd.R_far (p := ⟨gb203, 0, none⟩) (Kd.R_types HO_7.out BK203.out (by decide)) (fun _ hk => hk.2) (.int .i64 t197)) (fun _ hk => hk.2) (.slice Ao99 t198.length co99)) (fun _ h_ => h_.1))) hb); have n1_ := Aside0.mk (Kd.R_below (by (with_reducible repeat (first | apply Kd.R_alloc | apply Kd.R_drewN | apply Kd.R_drew)); exact (Kd.R_mono (Kd.R_far (p := ⟨gb203, 1, none⟩) (Kd.R_far (p := ⟨gb203, 0, none⟩) (Kd.R_types HO200.out BK203.out (by decide)) (fun _ hk => hk.2) (.int .i64 t197)) (fun _ hk => hk.2) (.slice Ao99 t198.length co99)) (fun _ h_ => h_.1))) hb); have n2_ := Aside0.mk (blk_below (g := gb203) (o := .cells #[.int .i64 t197, .slice Ao99 t198.length co99] 39 (0, 0)) (by (with_reducible repeat (first | refine blk_drewN ?_ _ | refine blk_drew ?_ | refine blk_alloc ?_ _)); refine blk_put (cs := #[.int .i64 t197, .slice none 0 0]) ?_ 1 _ rfl; (with_reducible repeat (first | refine blk_drewN ?_ _ | refine blk_drew ?_ | refine blk_alloc ?_ _)); refine blk_put (cs := #[.int .i64 0, .slice none 0 0]) ?_ 0 _ rfl; (with_reducible repeat (first | refine blk_drewN ?_ _ | refine blk_drew ?_ | refine blk_alloc ?_ _)); exact BK203.out) hb); have n3_ := Aside0.mk (below_step (by repeat (first | (with_reducible first | exact HB.out | apply below_alloc | apply pw_below_drewN | apply below_drew1 | refine below_set ?_ GE203.out) | exact HB.out)) hb); clear HO_7; clear HO200; clear BK203; clear HB; have HO_7 := n0_; have HO200 := n1_; have BK203 := n2_; have HB := n3_; clear n0_ n1_ n2_ n3_; (try clear hb); (try clear hb2); (try clear hk); (try clear hi); have hcz101_0 : w100.cell? ⟨gb203, 0, none⟩ = some (.int .i64 t197) := (blk_cell BK203.out 0).trans rfl; have hcz101_1 : w100.cell? ⟨gb203, 1, none⟩ = some (.slice Ao99 t198.length co99) := (blk_cell BK203.out 1).trans rfl; have hfz101_0 := blk_frozen BK203.out 0; have hfz101_1 := blk_frozen BK203.out 1))
             have n0_ := Aside0.mk (Kd.R_drew HO_7.out)
             have n1_ := Aside0.mk (Kd.R_drew HO200.out)
             have n2_ := Aside0.mk (blk_drew BK203.out)
             have n3_ := Aside0.mk (below_drew1 HB.out)
             clear HO_7
             clear HO200
             clear BK203
             clear HB
             have HO_7 := n0_
             have HO200 := n1_
             have BK203 := n2_
             have HB := n3_
             clear n0_ n1_ n2_ n3_
             have q103 : ((wrap64 (t205 + 1)) : Int) ≤ ((l0.length : Int) : Int) := of_decide_eq_true (by first | (with_reducible assumption) | assumption)
             obtain ⟨i0103, hi0103, _, hsz103, _⟩ := info_parts info39
             have hroom103 : l0.length ≤ c0 := HC0.out
             have hC103 : Kd.C k39 _ A0 l0.length l0 := HR0.out
             have ql103 : (t205 : Int) ≤ ((wrap64 (t205 + 1)) : Int) := of_decide_eq_true (by first | (with_reducible assumption) | assumption)
             have q0103 : (0 : Int) ≤ (t205 : Int) := of_decide_eq_true (by first | (with_reducible assumption) | assumption)
             have hcut103 := cut_mid (P := Try.prog) 22 39 .i64 .i64 Try.underlying22 hi0103 2 hsz103 A0 l0.length c0 t205 (wrap64 (t205 + 1)) q0103 ql103 q103 hroom103
             have hr103 := Kd.C_mid (lo := (t205 : Int).toNat) (hi := ((wrap64 (t205 + 1)) : Int).toNat) (c := c0) hC103 (by omega) (by omega) hroom103
             obtain ⟨A103, hA103⟩ : ∃ A1, A1 = (if c0 = (t205 : Int).toNat then A0 else (A0 : Option Addr).map (·.add ((t205 : Int).toNat * 2))) := ⟨_, rfl⟩
             obtain ⟨c103, hc103⟩ : ∃ c1, c1 = c0 - (t205 : Int).toNat := ⟨_, rfl⟩
             have hy103 : y218.length = ((wrap64 (t205 + 1)) : Int).toNat - (t205 : Int).toNat := (by rw [Ny218.out, List.length_drop, List.length_take] <;> omega)
             rw [show ((l0).take ((wrap64 (t205 + 1)) : Int).toNat).drop (t205 : Int).toNat = y218 from Ny218.out.symm] at hr103
             replace hr103 : Kd.C k39 _ A103 y218.length y218 := (by rw [hA103]; exact hr103)
             rw [← hy103, ← hA103, ← hc103] at hcut103
             have HR221 := Aside0.mk hr103
             have HC221 := Aside0.mk (show y218.length ≤ c103 from by rw [hy103, hc103]; exact Nat.sub_le_sub_right (Nat.le_trans (by omega) hroom103) _)
             clear hr103 hC103 hroom103 hi0103 hsz103 hc103
             have KY103 := Aside0.mk hy103
             have KA103 := Aside0.mk hA103
             clear hy103 hA103
             replace q103 := eq_true q103
             refine start_ (n := 9) (S := fun w' => w'.cell? ⟨gb203, 0, none⟩ = some (.int .i64 t197) ∧ w'.cell? ⟨gb203, 1, none⟩ = some (.slice Ao99 t198.length co99)) (ds := []) #[false, false, false, false, false, false, false, false, false] (by kernel_rfl) rfl rfl ⟨(blk_cell BK203.out 0).trans rfl, (blk_cell BK203.out 1).trans rfl⟩ (fun hHeld => ?_); refine with_tabW catchwordlaw06_PostFirst.tab12 catchwordlaw06_PostFirst.bits12 (fun HT_ HW_ => ?_)
             generalize w100.drew = w102 at HO_7 HO200 BK203 HB HR221 hHeld ⊢
             refine pure_ (i := 2) (N := some 94) (v := ?_) (a' := ?_) #[false, false, true, false, false, false, false, false, false] rfl rfl (any_of HT_.out (by kernel_rfl)) (fun _ _ _ h => h) (Or.inl ⟨by rfl, ?_⟩) ?_ ?_
             rotate_left
             ·intro w'
              go_simp
              with_reducible rfl
             rotate_left
             ·simp only [Act.put, List.setIfInBounds_toArray, List.set_cons_zero, List.set_cons_succ, i64_w, i32_w]
              rfl
             refine pure_ (i := 3) (N := some 95) (v := ?_) (a' := ?_) #[false, false, true, true, false, false, false, false, false] rfl rfl (any_of HT_.out (by kernel_rfl)) (fun _ _ _ h => h) (Or.inl ⟨by rfl, ?_⟩) ?_ ?_
             rotate_left
             ·intro w'
              go_simp
              with_reducible rfl
             rotate_left
             ·simp only [Act.put, List.setIfInBounds_toArray, List.set_cons_zero, List.set_cons_succ, i64_w, i32_w]
              rfl
             refine pure_ (i := 4) (N := some 96) (v := ?_) (a' := ?_) #[false, false, true, true, true, false, false, false, false] rfl rfl (any_of HT_.out (by kernel_rfl)) (fun _ _ _ h => h) (Or.inl ⟨by rfl, ?_⟩) ?_ ?_
             rotate_left
             ·intro w'
              go_simp
              with_reducible rfl
             rotate_left
             ·simp only [Act.put, List.setIfInBounds_toArray, List.set_cons_zero, List.set_cons_succ, i64_w, i32_w]
              rfl
             refine pure_ (i := 5) (N := some 97) (v := ?_) (a' := ?_) #[false, false, true, true, true, true, false, false, false] rfl rfl (any_of HT_.out (by kernel_rfl)) (fun _ _ _ h => h) (Or.inl ⟨by rfl, ?_⟩) ?_ ?_
             rotate_left
             ·intro w'
              go_simp
              with_reducible rfl
             rotate_left
             ·simp only [Act.put, List.setIfInBounds_toArray, List.set_cons_zero, List.set_cons_succ, i64_w, i32_w]
              rfl
             refine pure_ (i := 6) (N := some 98) (v := ?_) (a' := ?_) #[false, false, true, true, true, true, true, false, false] rfl rfl (any_of HT_.out (by kernel_rfl)) (fun _ _ _ h => h) (Or.inl ⟨by rfl, ?_⟩) ?_ ?_
             rotate_left
             ·intro w'
              go_simp
              with_reducible rfl
             rotate_left
             ·simp only [Act.put, List.setIfInBounds_toArray, List.set_cons_zero, List.set_cons_succ, i64_w, i32_w]
              rfl
             refine take_ (i := 0) (N := some 92) (v := ?_) (a' := ?_) #[true, false, true, true, true, true, true, false, false] rfl rfl (take_ofW HT_.out HW_.out (by kernel_rfl)) (fun _ _ _ h => h) (Or.inl ⟨by rfl, ?_⟩) hHeld ?_ ?_
             rotate_left
             ·rintro w' ⟨s0, s1⟩
              go_simp
              with_reducible rfl
             rotate_left
             ·simp only [Act.put, List.setIfInBounds_toArray, List.set_cons_zero, List.set_cons_succ, i64_w, i32_w]
              rfl
             refine one_ (i := 1) (N := some 93) #[true, true, true, true, true, true, true, false, false] rfl rfl (one_of HT_.out (by kernel_rfl)) (by decide) (fun K hK => ?_)
             refine Kd.N_lit_step k39 _ 39 ?hg (N' := 93) ?hd (xs := ([(⟨t197, t198⟩ : S39)] : List (S39))) (inner := [.int .i64 t197, .slice Ao99 t198.length co99]) (ok := (fun k_ => some k_ ≠ (.slice Ao95 t193.length co95 : Value).ownBlock ∧ k_ ≠ gb203)) (okp := (fun k_ => some k_ ≠ (.slice Ao95 t193.length co95 : Value).ownBlock ∧ k_ ≠ gb203)) ?hr ?hp (fun _ hk => hk) ((show ∀ k_, w102.heap.size ≤ k_ → (fun k_ => some k_ ≠ (.slice Ao95 t193.length co95 : Value).ownBlock ∧ k_ ≠ gb203) k_ from fun k_ hk => ⟨Kd.fresh' (Kd.R_lt (by (with_reducible repeat (first | apply Kd.R_alloc | apply Kd.R_drewN | apply Kd.R_drew)); exact HO_7.out)) k_ hk, Kd.freshB (g := gb203) (o := .cells #[.int .i64 t197, .slice Ao99 t198.length co99] 39 (0, 0)) (by (with_reducible repeat (first | refine blk_drewN ?_ _ | refine blk_drew ?_ | refine blk_alloc ?_ _)); exact BK203.out) k_ hk⟩) _ (Nat.le_refl _)) (Below.refl _ _) (Nat.le_refl _) (by simp) ?_; (case hd => rfl); (case hg => rfl); (case hr => first | (go_simp; done) | (go_simp; rfl)); (case hp => exact (Reps.c2 (show Kd.FK k39 _ _ (⟨t197, t198⟩ : S39) [.int .i64 t197, .slice Ao99 t198.length co99] from (k39_mkF _ _ (⟨t197, t198⟩ : S39) (Kd.R_reads' (Kd.R_mono (ok' := (fun k_ => some k_ ≠ (.slice Ao95 t193.length co95 : Value).ownBlock ∧ k_ ≠ gb203)) (Kd.R_types (Kd.R_apart' (HO200.out) (Kd.R_typed HO_7.out) (by decide)) BK203.out (by decide)) (fun k_ hk => ⟨hk.1.2, hk.2⟩))).2.1 (Kd.R_F (Kd.R_mono (ok' := (fun k_ => some k_ ≠ (.slice Ao95 t193.length co95 : Value).ownBlock ∧ k_ ≠ gb203)) (Kd.R_types (Kd.R_apart' (HO200.out) (Kd.R_typed HO_7.out) (by decide)) BK203.out (by decide)) (fun k_ hk => ⟨hk.1.2, hk.2⟩))))) (Reps.none _ _)))
             intro v216 w104 ho105 hb hg_ hnew_
             clear hg_ hnew_
             (first | rw [← Ny215.out] at ho105 | (simp only [Int.reduceToNat] at ho105; rw [← Ny215.out] at ho105))
             have n0_ := Aside0.mk (Kd.R_below (by (with_reducible repeat (first | apply Kd.R_alloc | apply Kd.R_drewN | apply Kd.R_drew)); exact HO_7.out) hb)
             have n1_ := Aside0.mk (Kd.N_lower ho105 (below_size (by repeat (first | (with_reducible first | exact HB.out | apply below_alloc | apply pw_below_drewN | apply below_drew1 | refine below_set ?_ GE203.out) | exact HB.out))))
             have n2_ := Aside0.mk (blk_below (g := gb203) (o := .cells #[.int .i64 t197, .slice Ao99 t198.length co99] 39 (0, 0)) (by (with_reducible repeat (first | refine blk_drewN ?_ _ | refine blk_drew ?_ | refine blk_alloc ?_ _)); exact BK203.out) hb)
             have n3_ := Aside0.mk (below_step (by repeat (first | (with_reducible first | exact HB.out | apply below_alloc | apply pw_below_drewN | apply below_drew1 | refine below_set ?_ GE203.out) | exact HB.out)) hb)
             clear HO_7
             clear BK203
             clear HB
             clear HO200
             have HO_7 := n0_
             have HO217 := n1_
             have BK203 := n2_
             have HB := n3_
             clear n0_ n1_ n2_ n3_
             clear hb ho105
             obtain ⟨Ao106, co106, eo106⟩ := Kd.N_slice HO217.out
             (first | subst eo106 | (injection eo106 with f1_ f2_ f3_; have f4_ := f1_.symm; have f5_ := f3_.symm; clear f1_ f2_ f3_; subst f4_; subst f5_))
             refine hK.out _ _ ⟨(blk_cell BK203.out 0).trans rfl, (blk_cell BK203.out 1).trans rfl⟩ (fun hHeld => ?_)
             clear hK K
             refine norm_ (a' := ?_) ?_ ?_
             rotate_left
             ·show Act.put _ (some 93) _ = _
              simp only [Act.put, List.setIfInBounds_toArray, List.set_cons_zero, List.set_cons_succ, i64_w, i32_w]
              rfl
             refine one_ (i := 7) (N := some 99) #[true, true, true, true, true, true, true, true, false] rfl rfl (one_of HT_.out (by kernel_rfl)) (by decide) (fun K hK => ?_)
             refine goes_ Try.func14 (by kernel_rfl) rfl #[.slice Ao106 y215.length co106, .slice A103 y218.length c103] (by rfl) rfl rfl (by (try simp only [List.map_toArray, List.map_cons, List.map_nil]); first | done | rfl | (simp only [List.length_drop, List.length_take]; rfl)) ?_
             with_reducible refine (catchwordref06_Same.calls kj5 _ _ y215 _ _ y218 false _ ?side1 ?side2 ?side3 ?side4 A81.out).mono ?_
             (case side1 => repeat (first | exact (Kd.N_reads' HO217.out).2.2 | (with_reducible refine Kd.C_alloc ?_ _) | (with_reducible refine Kd.C_drewN ?_ _) | (with_reducible refine Kd.C_drew ?_)))
             (case side2 => exact (Kd.N_reads' HO217.out).2.1)
             (case side3 => repeat (first | exact (Kd.C_below HR221.out HB.out) | (with_reducible refine Kd.C_alloc ?_ _) | (with_reducible refine Kd.C_drewN ?_ _) | (with_reducible refine Kd.C_drew ?_)))
             (case side4 => exact HC221.out)
             rintro e w' ⟨rfl, ⟨nd, rfl⟩⟩
             refine ⟨_, rfl, ?_⟩
             refine hK.out _ _ ⟨(blk_cell BK203.out 0).trans rfl, (blk_cell BK203.out 1).trans rfl⟩ (fun hHeld => ?_)
             clear hK K
             refine norm_ (a' := ?_) ?_ ?_
             rotate_left
             ·show Act.put _ (some 99) _ = _
              simp only [Act.put, List.setIfInBounds_toArray, List.set_cons_zero, List.set_cons_succ, i64_w, i32_w]
              rfl
             refine pure_ (i := 8) (N := some 13) (v := ?_) (a' := ?_) #[true, true, true, true, true, true, true, true, true] rfl rfl (any_of HT_.out (by kernel_rfl)) (fun _ _ _ h => h) (Or.inl ⟨by rfl, ?_⟩) ?_ ?_
             rotate_left
             ·intro w'
              go_simp
              with_reducible rfl
             rotate_left
             ·simp only [Act.put, List.setIfInBounds_toArray, List.set_cons_zero, List.set_cons_succ, i64_w, i32_w]
              rfl
             refine done_ (done_of HT_.out (by kernel_rfl)) ?_
             try go_wp2
             go_ret
             exact ⟨by first | rfl | (simp [errW_none, errW_some] <;> rfl) | (simp [*, errW_none, errW_some] <;> rfl), by repeat (first | (with_reducible first | exact HB.out | apply below_alloc | apply pw_below_drewN | apply below_drew1 | refine below_set ?_ GE203.out) | exact HB.out)⟩
           ·rw [if_neg c80] at H
            exact absurd H (by simp)
          ·rw [if_neg c79] at H
           exact absurd H (by simp)
         ·rw [if_neg c78] at H
          exact absurd H (by simp)
    ·rw [if_neg c13] at H
     have c13b0 : (t202 == 0) = false := beq_eq_false_iff_ne.mpr c13
     have c13b1 : (t202 != 0) = true := bne_iff_ne.mpr c13
     by_cases c107 : t202 = 2
     ·rw [if_pos c107] at H
      have c107b0 : (t202 == 2) = true := beq_iff_eq.mpr c107
      have c107b1 : (t202 != 2) = false := bne_eq_false_iff_eq.mpr c107
      clear c107
      by_cases c108 : (l0.length : Int) = 0
      ·rw [if_pos c108] at H
       have c108b0 : ((l0.length : Int) == 0) = true := beq_iff_eq.mpr c108
       have c108b1 : ((l0.length : Int) != 0) = false := bne_eq_false_iff_eq.mpr c108
       clear c108
       obtain rfl := Option.some.inj H
       obtain ⟨Ao109, co109, eo109⟩ := Kd.R_slice HO_7.out
       subst eo109
       go_wp2_with (first | ((with_reducible refine gate_callee (f := 25) rfl ?_); refine goesL_ (some 36) rfl rfl Try.func25 (by kernel_rfl) rfl #[.slice Ao109 t193.length co109, .int .i64 a1] rfl (by (try simp only [List.map_toArray, List.map_cons, List.map_nil]); first | done | rfl | (simp only [List.length_drop, List.length_take]; rfl)) ?_; (with_reducible refine (post_Seek.calls _ _ t193 a1 t197 t198 t201 t202 _ ?side1 ?side2 A12.out).mono ?_); (case side1 => repeat (first | exact (Kd.R_reads' HO_7.out).2.2 | (with_reducible refine Kd.C_alloc ?_ _) | (with_reducible refine Kd.C_drewN ?_ _) | (with_reducible refine Kd.C_drew ?_))); (case side2 => exact (Kd.R_reads' HO_7.out).2.1); rintro e w110 ⟨v199, rfl, ho0, hb⟩; refine ⟨_, rfl, ?_⟩; have n0_ := Aside0.mk (Kd.R_below (by (with_reducible repeat (first | apply Kd.R_alloc | apply Kd.R_drewN | apply Kd.R_drew)); exact HO_7.out) hb); have n1_ := Aside0.mk (Kd.R_lower ho0 (below_size (by repeat (first | (with_reducible first | exact HB.out | apply below_alloc | apply pw_below_drewN | apply below_drew1) | exact HB.out)))); have n2_ := Aside0.mk (below_step (by repeat (first | (with_reducible first | exact HB.out | apply below_alloc | apply pw_below_drewN | apply below_drew1) | exact HB.out)) hb); clear HO_7; clear HB; have HO_7 := n0_; have HO200 := n1_; have HB := n2_; clear n0_ n1_ n2_; (try clear hb); (try clear hb2); (try clear hk); (try clear hi); (try clear ho0)) | ((with_reducible refine gate_dst (N := 9) rfl ?_); (try (refine gate_guard (by rfl) ?_; dsimp only)); refine box_event ?hg (N := 9) ?hd (cs := #[.int .i64 0, .slice none 0 0]) (t := 39) ?hr ?_; (case hd => rfl); (case hg => rfl); (case hr => first | (go_simp; done) | (go_simp; rfl)); intro gb203 hg w111 hbox hb; have n0_ := Aside0.mk (Kd.R_below (by (with_reducible repeat (first | apply Kd.R_alloc | apply Kd.R_drewN | apply Kd.R_drew)); exact HO_7.out) hb); have n1_ := Aside0.mk (Kd.R_below (by (with_reducible repeat (first | apply Kd.R_alloc | apply Kd.R_drewN | apply Kd.R_drew)); exact HO200.out) hb); have n2_ := Aside0.mk (below_step (by repeat (first | (with_reducible first | exact HB.out | apply below_alloc | apply pw_below_drewN | apply below_drew1) | exact HB.out)) hb); have n3_ := Aside0.mk (hbox); have n4_ := Aside0.mk ((by rw [hg]; exact (below_size (by repeat (first | (with_reducible first | exact HB.out | apply below_alloc | apply pw_below_drewN | apply below_drew1) | exact HB.out))) : w.heap.size ≤ gb203)); have n5_ := Aside0.mk ((by rw [hg]; exact (below_size (by repeat (first | (with_reducible first | exact HB.out | apply below_alloc | apply pw_below_drewN | apply below_drew1) | exact HB.out))) : w.heap.size ≤ gb203)); clear HO_7; clear HO200; clear HB; have HO_7 := n0_; have HO200 := n1_; have HB := n2_; have BK203 := n3_; have GW203 := n4_; have GE203 := n5_; clear n0_ n1_ n2_ n3_ n4_ n5_; clear hb hbox hg; have hcz112_0 : w111.cell? ⟨gb203, 0, none⟩ = some (.int .i64 0) := (blk_cell BK203.out 0).trans rfl; have hcz112_1 : w111.cell? ⟨gb203, 1, none⟩ = some (.slice none 0 0) := (blk_cell BK203.out 1).trans rfl; have hfz112_0 := blk_frozen BK203.out 0; have hfz112_1 := blk_frozen BK203.out 1; obtain ⟨Ao113, co113, eo113⟩ := Kd.R_slice HO200.out; subst eo113))
       go_ret
       exact ⟨by first | rfl | (simp [errW_none, errW_some] <;> rfl) | (simp [*, errW_none, errW_some] <;> rfl), by repeat (first | (with_reducible first | exact HB.out | apply below_alloc | apply pw_below_drewN | apply below_drew1 | refine below_set ?_ GE203.out) | exact HB.out)⟩
      ·rw [if_neg c108] at H
       have c108b0 : ((l0.length : Int) == 0) = false := beq_eq_false_iff_ne.mpr c108
       have c108b1 : ((l0.length : Int) != 0) = true := bne_iff_ne.mpr c108
       have c108b2 : ¬ (l0 = []) := fun h_ => c108 (by rw [h_]; rfl)
       obtain ⟨ji114, hji114⟩ : ∃ j_ : Int, (wrap64 ((l0.length : Int) - 1)) = j_ := ⟨_, rfl⟩
       replace H : (if 0 ≤ (ji114) then (if (ji114) < (l0.length : Int) then (some (decide (((rd_T39 l0 (ji114)).f0) < a1))) else (none)) else (none)) = some r := by first | (rw [hji114] at H; exact H) | (simp only [hji114] at H ⊢; exact H)
       (try rw [hji114] at A12)
       have hji114w : (IntKind.i64.wrap ((l0.length : Int) - 1)) = ji114 := (i64_w _).trans hji114
       by_cases c115 : 0 ≤ (ji114)
       ·rw [if_pos c115] at H
        have c115b0 : decide (0 ≤ (ji114)) = true := decide_eq_true c115
        clear c115
        by_cases c116 : (ji114) < (l0.length : Int)
        ·rw [if_pos c116] at H
         have c116b0 : decide ((ji114) < (l0.length : Int)) = true := decide_eq_true c116
         clear c116
         obtain rfl := Option.some.inj H
         obtain ⟨Ao117, co117, eo117⟩ := Kd.R_slice HO_7.out
         subst eo117
         go_wp2_with (first | ((with_reducible refine gate_callee (f := 25) rfl ?_); refine goesL_ (some 36) rfl rfl Try.func25 (by kernel_rfl) rfl #[.slice Ao117 t193.length co117, .int .i64 a1] rfl (by (try simp only [List.map_toArray, List.map_cons, List.map_nil]); first | done | rfl | (simp only [List.length_drop, List.length_take]; rfl)) ?_; (with_reducible refine (post_Seek.calls _ _ t193 a1 t197 t198 t201 t202 _ ?side1 ?side2 A12.out).mono ?_); (case side1 => repeat (first | exact (Kd.R_reads' HO_7.out).2.2 | (with_reducible refine Kd.C_alloc ?_ _) | (with_reducible refine Kd.C_drewN ?_ _) | (with_reducible refine Kd.C_drew ?_))); (case side2 => exact (Kd.R_reads' HO_7.out).2.1); rintro e w118 ⟨v199, rfl, ho0, hb⟩; refine ⟨_, rfl, ?_⟩; have n0_ := Aside0.mk (Kd.R_below (by (with_reducible repeat (first | apply Kd.R_alloc | apply Kd.R_drewN | apply Kd.R_drew)); exact HO_7.out) hb); have n1_ := Aside0.mk (Kd.R_lower ho0 (below_size (by repeat (first | (with_reducible first | exact HB.out | apply below_alloc | apply pw_below_drewN | apply below_drew1) | exact HB.out)))); have n2_ := Aside0.mk (below_step (by repeat (first | (with_reducible first | exact HB.out | apply below_alloc | apply pw_below_drewN | apply below_drew1) | exact HB.out)) hb); clear HO_7; clear HB; have HO_7 := n0_; have HO200 := n1_; have HB := n2_; clear n0_ n1_ n2_; (try clear hb); (try clear hb2); (try clear hk); (try clear hi); (try clear ho0)) | ((with_reducible refine gate_dst (N := 9) rfl ?_); (try (refine gate_guard (by rfl) ?_; dsimp only)); refine box_event ?hg (N := 9) ?hd (cs := #[.int .i64 0, .slice none 0 0]) (t := 39) ?hr ?_; (case hd => rfl); (case hg => rfl); (case hr => first | (go_simp; done) | (go_simp; rfl)); intro gb203 hg w119 hbox hb; have n0_ := Aside0.mk (Kd.R_below (by (with_reducible repeat (first | apply Kd.R_alloc | apply Kd.R_drewN | apply Kd.R_drew)); exact HO_7.out) hb); have n1_ := Aside0.mk (Kd.R_below (by (with_reducible repeat (first | apply Kd.R_alloc | apply Kd.R_drewN | apply Kd.R_drew)); exact HO200.out) hb); have n2_ := Aside0.mk (below_step (by repeat (first | (with_reducible first | exact HB.out | apply below_alloc | apply pw_below_drewN | apply below_drew1) | exact HB.out)) hb); have n3_ := Aside0.mk (hbox); have n4_ := Aside0.mk ((by rw [hg]; exact (below_size (by repeat (first | (with_reducible first | exact HB.out | apply below_alloc | apply pw_below_drewN | apply below_drew1) | exact HB.out))) : w.heap.size ≤ gb203)); have n5_ := Aside0.mk ((by rw [hg]; exact (below_size (by repeat (first | (with_reducible first | exact HB.out | apply below_alloc | apply pw_below_drewN | apply below_drew1) | exact HB.out))) : w.heap.size ≤ gb203)); clear HO_7; clear HO200; clear HB; have HO_7 := n0_; have HO200 := n1_; have HB := n2_; have BK203 := n3_; have GW203 := n4_; have GE203 := n5_; clear n0_ n1_ n2_ n3_ n4_ n5_; clear hb hbox hg; have hcz120_0 : w119.cell? ⟨gb203, 0, none⟩ = some (.int .i64 0) := (blk_cell BK203.out 0).trans rfl; have hcz120_1 : w119.cell? ⟨gb203, 1, none⟩ = some (.slice none 0 0) := (blk_cell BK203.out 1).trans rfl; have hfz120_0 := blk_frozen BK203.out 0; have hfz120_1 := blk_frozen BK203.out 1; obtain ⟨Ao121, co121, eo121⟩ := Kd.R_slice HO200.out; subst eo121; have p204 : 0 ≤ ((ji114) : Int) := of_decide_eq_true (by first | (with_reducible assumption) | assumption); have q204 : (ji114) < (l0.length : Int) := of_decide_eq_true (by first | (with_reducible assumption) | assumption); obtain ⟨ad204, A204_1, c204_1, e204, hx204_0, hx204_1, hl204_1, hi204_1⟩ := at_T39 HR0.out (ji114) p204 q204; cases e204; have hn204_0 : ad204.block ≠ gb203 := Nat.ne_of_lt (Nat.lt_of_lt_of_le (by have := World.block_lt_of_cell? _ _ hx204_0; first | rwa [add_block] at this | exact this) GW203.out); have hn204_1 : ad204.block ≠ gb203 := Nat.ne_of_lt (Nat.lt_of_lt_of_le (by have := World.block_lt_of_cell? _ _ hx204_0; first | rwa [add_block] at this | exact this) GW203.out); replace hx204_0 := (HB.out.cell (World.block_lt_of_cell? w _ hx204_0)).trans hx204_0; replace hx204_1 := (HB.out.cell (World.block_lt_of_cell? w _ hx204_1)).trans hx204_1; have HR204_1 := Aside0.mk hi204_1; have HC204_1 := Aside0.mk hl204_1; clear hi204_1 hl204_1; replace hx204_0 := (cell_far (p := ⟨gb203, 0, none⟩) (by first | (rw [add_block]; exact hn204_0) | (show (Addr.add _ _).block ≠ _; rw [add_block]; exact hn204_0) | exact hn204_0) (.int .i64 t197)).trans hx204_0; replace hx204_1 := (cell_far (p := ⟨gb203, 0, none⟩) (by first | (rw [add_block]; exact hn204_0) | (show (Addr.add _ _).block ≠ _; rw [add_block]; exact hn204_0) | exact hn204_0) (.int .i64 t197)).trans hx204_1; replace hx204_0 := (cell_far (p := ⟨gb203, 1, none⟩) (by first | (rw [add_block]; exact hn204_1) | (show (Addr.add _ _).block ≠ _; rw [add_block]; exact hn204_1) | exact hn204_1) (.slice Ao121 t198.length co121)).trans hx204_0; replace hx204_1 := (cell_far (p := ⟨gb203, 1, none⟩) (by first | (rw [add_block]; exact hn204_1) | (show (Addr.add _ _).block ≠ _; rw [add_block]; exact hn204_1) | exact hn204_1) (.slice Ao121 t198.length co121)).trans hx204_1; clear hn204_0; clear hn204_1; replace p204 := eq_true p204; replace q204 := eq_true q204))
         go_ret
         exact ⟨by first | rfl | (simp [errW_none, errW_some] <;> rfl) | (simp only [← hji114]; first | rfl | (simp [errW_none, errW_some] <;> rfl)) | (simp [*, errW_none, errW_some] <;> rfl), by repeat (first | (with_reducible first | exact HB.out | apply below_alloc | apply pw_below_drewN | apply below_drew1 | refine below_set ?_ GE203.out) | exact HB.out)⟩
        ·rw [if_neg c116] at H
         exact absurd H (by simp)
       ·rw [if_neg c115] at H
        exact absurd H (by simp)
     ·rw [if_neg c107] at H
      have c107b0 : (t202 == 2) = false := beq_eq_false_iff_ne.mpr c107
      have c107b1 : (t202 != 2) = true := bne_iff_ne.mpr c107
      obtain rfl := Option.some.inj H
      obtain ⟨Ao122, co122, eo122⟩ := Kd.R_slice HO_7.out
      subst eo122
      go_wp2_with (first | ((with_reducible refine gate_callee (f := 25) rfl ?_); refine goesL_ (some 36) rfl rfl Try.func25 (by kernel_rfl) rfl #[.slice Ao122 t193.length co122, .int .i64 a1] rfl (by (try simp only [List.map_toArray, List.map_cons, List.map_nil]); first | done | rfl | (simp only [List.length_drop, List.length_take]; rfl)) ?_; (with_reducible refine (post_Seek.calls _ _ t193 a1 t197 t198 t201 t202 _ ?side1 ?side2 A12.out).mono ?_); (case side1 => repeat (first | exact (Kd.R_reads' HO_7.out).2.2 | (with_reducible refine Kd.C_alloc ?_ _) | (with_reducible refine Kd.C_drewN ?_ _) | (with_reducible refine Kd.C_drew ?_))); (case side2 => exact (Kd.R_reads' HO_7.out).2.1); rintro e w123 ⟨v199, rfl, ho0, hb⟩; refine ⟨_, rfl, ?_⟩; have n0_ := Aside0.mk (Kd.R_below (by (with_reducible repeat (first | apply Kd.R_alloc | apply Kd.R_drewN | apply Kd.R_drew)); exact HO_7.out) hb); have n1_ := Aside0.mk (Kd.R_lower ho0 (below_size (by repeat (first | (with_reducible first | exact HB.out | apply below_alloc | apply pw_below_drewN | apply below_drew1) | exact HB.out)))); have n2_ := Aside0.mk (below_step (by repeat (first | (with_reducible first | exact HB.out | apply below_alloc | apply pw_below_drewN | apply below_drew1) | exact HB.out)) hb); clear HO_7; clear HB; have HO_7 := n0_; have HO200 := n1_; have HB := n2_; clear n0_ n1_ n2_; (try clear hb); (try clear hb2); (try clear hk); (try clear hi); (try clear ho0)) | ((with_reducible refine gate_dst (N := 9) rfl ?_); (try (refine gate_guard (by rfl) ?_; dsimp only)); refine box_event ?hg (N := 9) ?hd (cs := #[.int .i64 0, .slice none 0 0]) (t := 39) ?hr ?_; (case hd => rfl); (case hg => rfl); (case hr => first | (go_simp; done) | (go_simp; rfl)); intro gb203 hg w124 hbox hb; have n0_ := Aside0.mk (Kd.R_below (by (with_reducible repeat (first | apply Kd.R_alloc | apply Kd.R_drewN | apply Kd.R_drew)); exact HO_7.out) hb); have n1_ := Aside0.mk (Kd.R_below (by (with_reducible repeat (first | apply Kd.R_alloc | apply Kd.R_drewN | apply Kd.R_drew)); exact HO200.out) hb); have n2_ := Aside0.mk (below_step (by repeat (first | (with_reducible first | exact HB.out | apply below_alloc | apply pw_below_drewN | apply below_drew1) | exact HB.out)) hb); have n3_ := Aside0.mk (hbox); have n4_ := Aside0.mk ((by rw [hg]; exact (below_size (by repeat (first | (with_reducible first | exact HB.out | apply below_alloc | apply pw_below_drewN | apply below_drew1) | exact HB.out))) : w.heap.size ≤ gb203)); have n5_ := Aside0.mk ((by rw [hg]; exact (below_size (by repeat (first | (with_reducible first | exact HB.out | apply below_alloc | apply pw_below_drewN | apply below_drew1) | exact HB.out))) : w.heap.size ≤ gb203)); clear HO_7; clear HO200; clear HB; have HO_7 := n0_; have HO200 := n1_; have HB := n2_; have BK203 := n3_; have GW203 := n4_; have GE203 := n5_; clear n0_ n1_ n2_ n3_ n4_ n5_; clear hb hbox hg; have hcz125_0 : w124.cell? ⟨gb203, 0, none⟩ = some (.int .i64 0) := (blk_cell BK203.out 0).trans rfl; have hcz125_1 : w124.cell? ⟨gb203, 1, none⟩ = some (.slice none 0 0) := (blk_cell BK203.out 1).trans rfl; have hfz125_0 := blk_frozen BK203.out 0; have hfz125_1 := blk_frozen BK203.out 1; obtain ⟨Ao126, co126, eo126⟩ := Kd.R_slice HO200.out; subst eo126))
      go_ret
      exact ⟨by first | rfl | (simp [errW_none, errW_some] <;> rfl) | (simp [*, errW_none, errW_some] <;> rfl), by repeat (first | (with_reducible first | exact HB.out | apply below_alloc | apply pw_below_drewN | apply below_drew1 | refine below_set ?_ GE203.out) | exact HB.out)⟩

/-- THE ONE PURE STATEMENT of catchwordlaw06_PostFirst. -/
def catchwordlaw06_PostFirst.Pure : Prop := ∀ (l0 : List (S39)) (a1 : Int), (l0.length * 32 ≤ 140737488351232 ∧ ∀ y0 ∈ l0, ((Lit.int .i64 y0.f0).wf = true ∧ (y0.f1.length * 8 ≤ 140737488351232 ∧ ∀ y1 ∈ y0.f1, (Lit.int .i64 y1).wf = true))) → (Lit.int .i64 a1).wf = true → ∃ k, catchwordlaw06_PostFirst.f k l0 a1 = some true

end Go.Proofs.Ytepmcdcncjimeaa.PPostFirst
