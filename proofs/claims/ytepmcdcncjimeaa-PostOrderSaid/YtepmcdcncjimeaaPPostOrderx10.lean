-- LAID BY this session's own printer (wip/pr): Lean checks it
import Derived.Test.YtepmcdcncjimeaaPPostOrderx0
import Derived.Test.YtepmcdcncjimeaaPPostOrderx1
import Derived.Test.YtepmcdcncjimeaaPPostOrderx3
import Derived.Test.YtepmcdcncjimeaaPPostOrderx4
import Derived.Test.YtepmcdcncjimeaaPPostOrderx5
import Derived.Test.YtepmcdcncjimeaaPPostOrderx9
import Derived.Deep.RegionLaw
import Derived.Deep.RegionWith
import Derived.RangeFuncNested
import Derived.RangeFuncBound
import Derived.RangeFuncCalls
import Derived.RangeFuncLeaves
import Derived.RangeFuncFrom
import Derived.RangeFuncWrites
import Derived.RangeFuncBox
import Derived.Sort.LoopGhostIn
import Derived.OrdersIn
import Derived.TacticsInMore
import Derived.Shelf.Spec.SlicesInsert
import Derived.Shelf.Spec.SlicesInsertGrow
import Derived.Shelf.Abstract
import Derived.Test.YtepmcdcncjimeaaVList
namespace Go.Proofs.Ytepmcdcncjimeaa.PPostOrder
open Go.RowKit Go.Proofs.YtepmcdcncjimeaaW.PrintWords Go.Proofs.YtepmcdcncjimeaaW.PrintLast Go.Proofs.YtepmcdcncjimeaaW.PrintMore
attribute [local go_sem] max2_int min2_int max_two min_two max_three min_three max_four min_four   -- for this text's walks alone
set_option linter.unusedVariables false
set_option linter.unusedSimpArgs false

/-! ### catchwordlaw06_PostOrder: function 7 -/
mutual
def catchwordlaw06_PostOrder.j0 : Nat → List (S39) → Int → Int → Int → Int → Bool → Bool → Option (Bool)
 | 0, _, _, _, _, _, _, _ => none
 | k + 1, x0, x1, x2, x3, x4, x11, x31 => if x31 = true then (some x11) else ((post_Put.f x0 x1 x2).bind fun bt193 => ((post_Put.f x0 x3 x4).bind fun bt197 => (if bt193.2 = 0 then (catchwordlaw06_PostOrder.j1 k x0 x1 x2 x3 x4 bt193.1 bt193.2 bt197.1 bt197.2 (bt197.2 != 0)) else (catchwordlaw06_PostOrder.j1 k x0 x1 x2 x3 x4 bt193.1 bt193.2 bt197.1 bt197.2 true))))
def catchwordlaw06_PostOrder.j1 : Nat → List (S39) → Int → Int → Int → Int → List (S39) → Int → List (S39) → Int → Bool → Option (Bool)
 | 0, _, _, _, _, _, _, _, _, _, _ => none
 | k + 1, x0, x1, x2, x3, x4, x13, x14, x15, x16, x52 => if x52 = true then (if x14 = 0 then (if x16 = 0 then (some true) else ((post_Same.f k x15 x0).bind fun t201 => (some t201))) else ((post_Same.f k x13 x0).bind fun t202 => (if t202 = true then (if x16 = 0 then (some true) else ((post_Same.f k x15 x0).bind fun t203 => (some t203))) else (some false)))) else ((post_Put.f x13 x1 x2).bind fun bt204 => (if bt204.2 = 3 then ((post_May.f k x13).bind fun t208 => (if t208 = true then ((post_Find.f k x13 x1).bind fun t209 => (catchwordlaw06_PostOrder.j2 k x1 x2 x3 x4 x13 x15 (decide (t209 < 0)))) else (catchwordlaw06_PostOrder.j2 k x1 x2 x3 x4 x13 x15 true))) else (catchwordlaw06_PostOrder.j2 k x1 x2 x3 x4 x13 x15 true)))
def catchwordlaw06_PostOrder.j2 : Nat → Int → Int → Int → Int → List (S39) → List (S39) → Bool → Option (Bool)
 | 0, _, _, _, _, _, _, _ => none
 | k + 1, x1, x2, x3, x4, x13, x15, x88 => if x88 = true then (some false) else ((post_Put.f x13 x3 x4).bind fun bt210 => ((post_Put.f x15 x1 x2).bind fun bt214 => (if x1 = x3 then (catchwordlaw06_PostOrder.j3 k x13 x15 bt210.1 bt210.2 bt214.1 bt214.2 (x2 == x4)) else (catchwordlaw06_PostOrder.j3 k x13 x15 bt210.1 bt210.2 bt214.1 bt214.2 false))))
def catchwordlaw06_PostOrder.j3 : Nat → List (S39) → List (S39) → List (S39) → Int → List (S39) → Int → Bool → Option (Bool)
 | 0, _, _, _, _, _, _, _ => none
 | k + 1, x13, x15, x19, x20, x21, x22, x110 => if x110 = true then (if x20 = 3 then (if x22 = 3 then ((post_Same.f k x13 x15).bind fun t218 => (some t218)) else (some false)) else (some false)) else (if x20 = 0 then (if x22 = 0 then ((post_Same.f k x19 x21).bind fun t219 => (some t219)) else (some false)) else (some false))
end
def catchwordlaw06_PostOrder.f (k : Nat) (l0 : List (S39)) (a1 : Int) (a2 : Int) (a3 : Int) (a4 : Int) : Option (Bool) := (catchwordlaw06_awake.f).bind fun t191 => ((catchwordlaw06_Few.f k l0).bind fun t192 => (if t191 = true then (catchwordlaw06_PostOrder.j0 k l0 a1 a2 a3 a4 t191 (!t192)) else (catchwordlaw06_PostOrder.j0 k l0 a1 a2 a3 a4 t191 true)))
theorem catchwordlaw06_PostOrder.mono_l : ∀ k, (∀ y0 y1 y2 y3 y4 y5 y6, LeO (catchwordlaw06_PostOrder.j0 k y0 y1 y2 y3 y4 y5 y6) (catchwordlaw06_PostOrder.j0 (k + 1) y0 y1 y2 y3 y4 y5 y6)) ∧ (∀ y0 y1 y2 y3 y4 y5 y6 y7 y8 y9, LeO (catchwordlaw06_PostOrder.j1 k y0 y1 y2 y3 y4 y5 y6 y7 y8 y9) (catchwordlaw06_PostOrder.j1 (k + 1) y0 y1 y2 y3 y4 y5 y6 y7 y8 y9)) ∧ (∀ y0 y1 y2 y3 y4 y5 y6, LeO (catchwordlaw06_PostOrder.j2 k y0 y1 y2 y3 y4 y5 y6) (catchwordlaw06_PostOrder.j2 (k + 1) y0 y1 y2 y3 y4 y5 y6)) ∧ (∀ y0 y1 y2 y3 y4 y5 y6, LeO (catchwordlaw06_PostOrder.j3 k y0 y1 y2 y3 y4 y5 y6) (catchwordlaw06_PostOrder.j3 (k + 1) y0 y1 y2 y3 y4 y5 y6))
 | 0 => ⟨fun _ _ _ _ _ _ _ r h => by simp [catchwordlaw06_PostOrder.j0] at h, fun _ _ _ _ _ _ _ _ _ _ r h => by simp [catchwordlaw06_PostOrder.j1] at h, fun _ _ _ _ _ _ _ r h => by simp [catchwordlaw06_PostOrder.j2] at h, fun _ _ _ _ _ _ _ r h => by simp [catchwordlaw06_PostOrder.j3] at h⟩
 | k + 1 => by
  obtain ⟨ih0, ih1, ih2, ih3⟩ := catchwordlaw06_PostOrder.mono_l k
  refine ⟨?_, ?_, ?_, ?_⟩
  ·intro y0 y1 y2 y3 y4 y5 y6
   unfold catchwordlaw06_PostOrder.j0
   repeat' first
   | (with_reducible exact ih0 _ _ _ _ _ _ _)
   | (with_reducible exact ih1 _ _ _ _ _ _ _ _ _ _)
   | (with_reducible exact ih2 _ _ _ _ _ _ _)
   | (with_reducible exact ih3 _ _ _ _ _ _ _)
   | (with_reducible exact catchwordlaw06_Few.mono _ _)
   | (with_reducible exact post_Find.mono _ _ _)
   | (with_reducible exact post_May.mono _ _)
   | (with_reducible exact post_Same.mono _ _ _)
   | (with_reducible exact LeO.refl _)
   | (with_reducible exact LeO.none _)
   | (with_reducible refine LeO.ite ?_ ?_)
   | (with_reducible refine LeO.bind ?_ (fun _ => ?_))
   | exact ih0 _ _ _ _ _ _ _
   | exact ih1 _ _ _ _ _ _ _ _ _ _
   | exact ih2 _ _ _ _ _ _ _
   | exact ih3 _ _ _ _ _ _ _
   | exact catchwordlaw06_Few.mono _ _
   | exact post_Find.mono _ _ _
   | exact post_May.mono _ _
   | exact post_Same.mono _ _ _
   | exact LeO.none _
   | refine LeO.ite ?_ ?_
   | refine LeO.bind ?_ (fun _ => ?_)
  ·intro y0 y1 y2 y3 y4 y5 y6 y7 y8 y9
   unfold catchwordlaw06_PostOrder.j1
   repeat' first
   | (with_reducible exact ih0 _ _ _ _ _ _ _)
   | (with_reducible exact ih1 _ _ _ _ _ _ _ _ _ _)
   | (with_reducible exact ih2 _ _ _ _ _ _ _)
   | (with_reducible exact ih3 _ _ _ _ _ _ _)
   | (with_reducible exact catchwordlaw06_Few.mono _ _)
   | (with_reducible exact post_Find.mono _ _ _)
   | (with_reducible exact post_May.mono _ _)
   | (with_reducible exact post_Same.mono _ _ _)
   | (with_reducible exact LeO.refl _)
   | (with_reducible exact LeO.none _)
   | (with_reducible refine LeO.ite ?_ ?_)
   | (with_reducible refine LeO.bind ?_ (fun _ => ?_))
   | exact ih0 _ _ _ _ _ _ _
   | exact ih1 _ _ _ _ _ _ _ _ _ _
   | exact ih2 _ _ _ _ _ _ _
   | exact ih3 _ _ _ _ _ _ _
   | exact catchwordlaw06_Few.mono _ _
   | exact post_Find.mono _ _ _
   | exact post_May.mono _ _
   | exact post_Same.mono _ _ _
   | exact LeO.none _
   | refine LeO.ite ?_ ?_
   | refine LeO.bind ?_ (fun _ => ?_)
  ·intro y0 y1 y2 y3 y4 y5 y6
   unfold catchwordlaw06_PostOrder.j2
   repeat' first
   | (with_reducible exact ih0 _ _ _ _ _ _ _)
   | (with_reducible exact ih1 _ _ _ _ _ _ _ _ _ _)
   | (with_reducible exact ih2 _ _ _ _ _ _ _)
   | (with_reducible exact ih3 _ _ _ _ _ _ _)
   | (with_reducible exact catchwordlaw06_Few.mono _ _)
   | (with_reducible exact post_Find.mono _ _ _)
   | (with_reducible exact post_May.mono _ _)
   | (with_reducible exact post_Same.mono _ _ _)
   | (with_reducible exact LeO.refl _)
   | (with_reducible exact LeO.none _)
   | (with_reducible refine LeO.ite ?_ ?_)
   | (with_reducible refine LeO.bind ?_ (fun _ => ?_))
   | exact ih0 _ _ _ _ _ _ _
   | exact ih1 _ _ _ _ _ _ _ _ _ _
   | exact ih2 _ _ _ _ _ _ _
   | exact ih3 _ _ _ _ _ _ _
   | exact catchwordlaw06_Few.mono _ _
   | exact post_Find.mono _ _ _
   | exact post_May.mono _ _
   | exact post_Same.mono _ _ _
   | exact LeO.none _
   | refine LeO.ite ?_ ?_
   | refine LeO.bind ?_ (fun _ => ?_)
  ·intro y0 y1 y2 y3 y4 y5 y6
   unfold catchwordlaw06_PostOrder.j3
   repeat' first
   | (with_reducible exact ih0 _ _ _ _ _ _ _)
   | (with_reducible exact ih1 _ _ _ _ _ _ _ _ _ _)
   | (with_reducible exact ih2 _ _ _ _ _ _ _)
   | (with_reducible exact ih3 _ _ _ _ _ _ _)
   | (with_reducible exact catchwordlaw06_Few.mono _ _)
   | (with_reducible exact post_Find.mono _ _ _)
   | (with_reducible exact post_May.mono _ _)
   | (with_reducible exact post_Same.mono _ _ _)
   | (with_reducible exact LeO.refl _)
   | (with_reducible exact LeO.none _)
   | (with_reducible refine LeO.ite ?_ ?_)
   | (with_reducible refine LeO.bind ?_ (fun _ => ?_))
   | exact ih0 _ _ _ _ _ _ _
   | exact ih1 _ _ _ _ _ _ _ _ _ _
   | exact ih2 _ _ _ _ _ _ _
   | exact ih3 _ _ _ _ _ _ _
   | exact catchwordlaw06_Few.mono _ _
   | exact post_Find.mono _ _ _
   | exact post_May.mono _ _
   | exact post_Same.mono _ _ _
   | exact LeO.none _
   | refine LeO.ite ?_ ?_
   | refine LeO.bind ?_ (fun _ => ?_)
theorem catchwordlaw06_PostOrder.mono : ∀ a0 a1 a2 a3 a4 k, LeO (catchwordlaw06_PostOrder.f k a0 a1 a2 a3 a4) (catchwordlaw06_PostOrder.f (k + 1) a0 a1 a2 a3 a4) := by
 intro a0 a1 a2 a3 a4 k
 obtain ⟨ih0, ih1, ih2, ih3⟩ := catchwordlaw06_PostOrder.mono_l k
 unfold catchwordlaw06_PostOrder.f
 repeat' first
   | (with_reducible exact ih0 _ _ _ _ _ _ _)
   | (with_reducible exact ih1 _ _ _ _ _ _ _ _ _ _)
   | (with_reducible exact ih2 _ _ _ _ _ _ _)
   | (with_reducible exact ih3 _ _ _ _ _ _ _)
   | (with_reducible exact catchwordlaw06_Few.mono _ _)
   | (with_reducible exact post_Find.mono _ _ _)
   | (with_reducible exact post_May.mono _ _)
   | (with_reducible exact post_Same.mono _ _ _)
   | (with_reducible exact LeO.refl _)
   | (with_reducible exact LeO.none _)
   | (with_reducible refine LeO.ite ?_ ?_)
   | (with_reducible refine LeO.bind ?_ (fun _ => ?_))
   | exact ih0 _ _ _ _ _ _ _
   | exact ih1 _ _ _ _ _ _ _ _ _ _
   | exact ih2 _ _ _ _ _ _ _
   | exact ih3 _ _ _ _ _ _ _
   | exact catchwordlaw06_Few.mono _ _
   | exact post_Find.mono _ _ _
   | exact post_May.mono _ _
   | exact post_Same.mono _ _ _
   | exact LeO.none _
   | refine LeO.ite ?_ ?_
   | refine LeO.bind ?_ (fun _ => ?_)
set_option maxHeartbeats 8000000 in
set_option maxRecDepth 100000 in
theorem catchwordlaw06_PostOrder.calls (k : Nat) (A0 : Option Addr) (c0 : Nat) (l0 : List (S39)) (a1 : Int) (a2 : Int) (a3 : Int) (a4 : Int) (r : Bool) (w : World) (hr0 : Kd.C k39 w A0 l0.length l0) (hc0 : l0.length ≤ c0) (h : catchwordlaw06_PostOrder.f k l0 a1 a2 a3 a4 = some r) :
  Calls Try.prog 7 #[.slice A0 l0.length c0, .int .i64 a1, .int .i64 a2, .int .i64 a3, .int .i64 a4] w fun e w' => e = .returned (.bool r) ∧ Below w.heap.size w w' := by
 have HR0 := Aside0.mk hr0
 have HC0 := Aside0.mk hc0
 clear hr0 hc0
 have HB := Aside0.mk (Below.refl w.heap.size w)
 have H : ((catchwordlaw06_awake.f).bind fun t191 => ((catchwordlaw06_Few.f k l0).bind fun t192 => (if t191 = true then (catchwordlaw06_PostOrder.j0 k l0 a1 a2 a3 a4 t191 (!t192)) else (catchwordlaw06_PostOrder.j0 k l0 a1 a2 a3 a4 t191 true)))) = some r := h
 clear h
 replace H := Option.bind_eq_some_iff.mp H
 obtain ⟨t191, A60, H⟩ := H
 replace H : ((catchwordlaw06_Few.f k l0).bind fun t192 => (if t191 = true then (catchwordlaw06_PostOrder.j0 k l0 a1 a2 a3 a4 t191 (!t192)) else (catchwordlaw06_PostOrder.j0 k l0 a1 a2 a3 a4 t191 true))) = some r := H
 have A6 := Aside0.mk A60
 clear A60
 replace H := Option.bind_eq_some_iff.mp H
 obtain ⟨t192, A70, H⟩ := H
 replace H : (if t191 = true then (catchwordlaw06_PostOrder.j0 k l0 a1 a2 a3 a4 t191 (!t192)) else (catchwordlaw06_PostOrder.j0 k l0 a1 a2 a3 a4 t191 true)) = some r := H
 have A7 := Aside0.mk A70
 clear A70
 have HC8 := Aside0.mk H
 clear H
 go_enter Try.func7, Try.ntmps7
 go_upto_region 3 with (first | ((with_reducible refine gate_callee (f := 10) rfl ?_); refine goesL_ (some 23) rfl rfl Try.func10 (by kernel_rfl) rfl #[] rfl (by (try simp only [List.map_toArray, List.map_cons, List.map_nil]); first | done | rfl | (simp only [List.length_drop, List.length_take]; rfl)) ?_; (with_reducible refine (catchwordlaw06_awake.calls  t191 _ A6.out).mono ?_); rintro e w9 ⟨rfl, hb⟩; refine ⟨_, rfl, ?_⟩; have n0_ := Aside0.mk (below_step (by repeat (first | (with_reducible first | exact HB.out | apply below_alloc | apply pw_below_drewN | apply below_drew1) | exact HB.out)) hb); clear HB; have HB := n0_; clear n0_; (try clear hb); (try clear hb2); (try clear hk); (try clear hi)) | ((with_reducible refine gate_callee (f := 11) rfl ?_); refine goesL_ (some 25) rfl rfl Try.func11 (by kernel_rfl) rfl #[.slice A0 l0.length c0] rfl (by (try simp only [List.map_toArray, List.map_cons, List.map_nil]); first | done | rfl | (simp only [List.length_drop, List.length_take]; rfl)) ?_; (with_reducible refine (catchwordlaw06_Few.calls k _ _ l0 t192 _ ?side1 ?side2 A7.out).mono ?_); (case side1 => repeat (first | exact (Kd.C_below HR0.out HB.out) | (with_reducible refine Kd.C_alloc ?_ _) | (with_reducible refine Kd.C_drewN ?_ _) | (with_reducible refine Kd.C_drew ?_))); (case side2 => exact HC0.out); rintro e w' ⟨rfl, ⟨nd, rfl⟩⟩; refine ⟨_, rfl, ?_⟩))
 (try simp only [Act.put, List.setIfInBounds_toArray, List.set_cons_zero, List.set_cons_succ])
 go_cut [31] (fun v31 wc => ∃ (kq : Nat) (x31_7 : Bool), v31 = .bool x31_7 ∧ Aside0 (catchwordlaw06_PostOrder.j0 kq l0 a1 a2 a3 a4 t191 x31_7 = some r) ∧ Aside0 (kq ≤ k) ∧ Aside0 (Below w.heap.size w wc))
 case first =>
  have H := HC8.out
  clear HC8
  by_cases c10 : t191 = true
  ·subst c10
   have H1 : (catchwordlaw06_PostOrder.j0 k l0 a1 a2 a3 a4 true (!t192)) = some r := by rw [if_pos rfl] at H; exact H
   clear H
   have H := H1
   clear H1
   have H' := Aside0.mk H
   clear H
   go_wp2
   go_meet
   case rel => exact ⟨_, (!t192), (by first | rfl | (simp; done) | (simp [*]; done)), H', ⟨by first | omega | exact Nat.le_refl _⟩, ⟨by repeat (first | (with_reducible first | exact HB.out | apply below_alloc | apply pw_below_drewN | apply below_drew1) | exact HB.out)⟩⟩
  ·replace c10 := Bool.eq_false_iff.mpr c10
   subst c10
   have H1 : (catchwordlaw06_PostOrder.j0 k l0 a1 a2 a3 a4 false true) = some r := by rw [if_neg (show ¬ (false = true) by decide)] at H; exact H
   clear H
   have H := H1
   clear H1
   have H' := Aside0.mk H
   clear H
   go_wp2
   go_meet
   case rel => exact ⟨_, (true), (by first | rfl | (simp; done) | (simp [*]; done)), H', ⟨by first | omega | exact Nat.le_refl _⟩, ⟨by repeat (first | (with_reducible first | exact HB.out | apply below_alloc | apply pw_below_drewN | apply below_drew1) | exact HB.out)⟩⟩
 case rest =>
  clear HC8
  try clear c1
  try clear p2
  try clear c7
  try clear c10
  obtain ⟨kq, x31_7, rfl, HA, HJ7, HB⟩ := hcut
  cases kq with
  | zero => exact absurd HA.out (by simp [catchwordlaw06_PostOrder.j0])
  | succ kj7 =>
   have H := HA.out
   clear HA
   simp only [catchwordlaw06_PostOrder.j0] at H
   by_cases c11 : x31_7 = true
   ·subst c11
    have H1 : (some t191) = some r := by rw [if_pos rfl] at H; exact H
    clear H
    have H := H1
    clear H1
    obtain rfl := Option.some.inj H
    go_wp2
    go_ret
    exact ⟨by first | rfl | (simp [errW_none, errW_some] <;> rfl) | (simp [*, errW_none, errW_some] <;> rfl), by repeat (first | (with_reducible first | exact HB.out | apply below_alloc | apply pw_below_drewN | apply below_drew1) | exact HB.out)⟩
   ·replace c11 := Bool.eq_false_iff.mpr c11
    subst c11
    have H1 : ((post_Put.f l0 a1 a2).bind fun bt193 => ((post_Put.f l0 a3 a4).bind fun bt197 => (if bt193.2 = 0 then (catchwordlaw06_PostOrder.j1 kj7 l0 a1 a2 a3 a4 bt193.1 bt193.2 bt197.1 bt197.2 (bt197.2 != 0)) else (catchwordlaw06_PostOrder.j1 kj7 l0 a1 a2 a3 a4 bt193.1 bt193.2 bt197.1 bt197.2 true)))) = some r := by rw [if_neg (show ¬ (false = true) by decide)] at H; exact H
    clear H
    have H := H1
    clear H1
    replace H := Option.bind_eq_some_iff.mp H
    obtain ⟨⟨t193, t194⟩, A120, H⟩ := H
    replace H : ((post_Put.f l0 a3 a4).bind fun bt197 => (if t194 = 0 then (catchwordlaw06_PostOrder.j1 kj7 l0 a1 a2 a3 a4 t193 t194 bt197.1 bt197.2 (bt197.2 != 0)) else (catchwordlaw06_PostOrder.j1 kj7 l0 a1 a2 a3 a4 t193 t194 bt197.1 bt197.2 true))) = some r := H
    have A12 := Aside0.mk A120
    clear A120
    replace H := Option.bind_eq_some_iff.mp H
    obtain ⟨⟨t197, t198⟩, A130, H⟩ := H
    replace H : (if t194 = 0 then (catchwordlaw06_PostOrder.j1 kj7 l0 a1 a2 a3 a4 t193 t194 t197 t198 (t198 != 0)) else (catchwordlaw06_PostOrder.j1 kj7 l0 a1 a2 a3 a4 t193 t194 t197 t198 true)) = some r := H
    have A13 := Aside0.mk A130
    clear A130
    have HC14 := Aside0.mk H
    clear H
    go_upto_region 7 with (first | ((with_reducible refine gate_callee (f := 12) rfl ?_); refine goesL_ (some 37) rfl rfl Try.func12 (by kernel_rfl) rfl #[.slice A0 l0.length c0, .int .i64 a1, .int .i64 a2] rfl (by (try simp only [List.map_toArray, List.map_cons, List.map_nil]); first | done | rfl | (simp only [List.length_drop, List.length_take]; rfl)) ?_; (with_reducible refine (post_Put.calls _ _ l0 a1 a2 t193 t194 _ ?side1 ?side2 A12.out).mono ?_); (case side1 => repeat (first | exact (Kd.C_below HR0.out HB.out) | (with_reducible refine Kd.C_alloc ?_ _) | (with_reducible refine Kd.C_drewN ?_ _) | (with_reducible refine Kd.C_drew ?_))); (case side2 => exact HC0.out); rintro e w15 ⟨v195, rfl, ho0, hb⟩; refine ⟨_, rfl, ?_⟩; have n0_ := Aside0.mk (Kd.S_lower ho0 (below_size (by repeat (first | (with_reducible first | exact HB.out | apply below_alloc | apply pw_below_drewN | apply below_drew1) | exact HB.out)))); have n1_ := Aside0.mk (below_step (by repeat (first | (with_reducible first | exact HB.out | apply below_alloc | apply pw_below_drewN | apply below_drew1) | exact HB.out)) hb); clear HB; have HO196 := n0_; have HB := n1_; clear n0_ n1_; (try clear hb); (try clear hb2); (try clear hk); (try clear hi); (try clear ho0)) | ((with_reducible refine gate_callee (f := 12) rfl ?_); refine goesL_ (some 44) rfl rfl Try.func12 (by kernel_rfl) rfl #[.slice A0 l0.length c0, .int .i64 a3, .int .i64 a4] rfl (by (try simp only [List.map_toArray, List.map_cons, List.map_nil]); first | done | rfl | (simp only [List.length_drop, List.length_take]; rfl)) ?_; (with_reducible refine (post_Put.calls _ _ l0 a3 a4 t197 t198 _ ?side1 ?side2 A13.out).mono ?_); (case side1 => repeat (first | exact (Kd.C_below HR0.out HB.out) | (with_reducible refine Kd.C_alloc ?_ _) | (with_reducible refine Kd.C_drewN ?_ _) | (with_reducible refine Kd.C_drew ?_))); (case side2 => exact HC0.out); rintro e w16 ⟨v199, rfl, ho0, hb⟩; refine ⟨_, rfl, ?_⟩; have n0_ := Aside0.mk (Kd.S_elder' (by (with_reducible repeat (first | apply Kd.S_alloc | apply Kd.S_drewN | apply Kd.S_drew)); exact HO196.out) (Kd.S_base ho0) hb); have n1_ := Aside0.mk (Kd.S_lower (Kd.S_new' ho0 (Kd.S_lt (by (with_reducible repeat (first | apply Kd.S_alloc | apply Kd.S_drewN | apply Kd.S_drew)); exact HO196.out))) (below_size (by repeat (first | (with_reducible first | exact HB.out | apply below_alloc | apply pw_below_drewN | apply below_drew1) | exact HB.out)))); have n2_ := Aside0.mk (below_step (by repeat (first | (with_reducible first | exact HB.out | apply below_alloc | apply pw_below_drewN | apply below_drew1) | exact HB.out)) hb); clear HO196; clear HB; have HO196 := n0_; have HO200 := n1_; have HB := n2_; clear n0_ n1_ n2_; (try clear hb); (try clear hb2); (try clear hk); (try clear hi); (try clear ho0)))
    (try simp only [Act.put, List.setIfInBounds_toArray, List.set_cons_zero, List.set_cons_succ])
    go_cut [52] (fun v52 wc => ∃ (kq : Nat) (x52_13 : Bool), v52 = .bool x52_13 ∧ Aside0 (catchwordlaw06_PostOrder.j1 kq l0 a1 a2 a3 a4 t193 t194 t197 t198 x52_13 = some r) ∧ Aside0 (kq ≤ kj7) ∧ Aside0 (Kd.S k39 39 wc w.heap.size (fun k_ => some k_ ≠ (v199 : Value).ownBlock) v195 t193) ∧ Aside0 (Kd.S k39 39 wc w.heap.size (fun k_ => some k_ ≠ (v195 : Value).ownBlock) v199 t197) ∧ Aside0 (Below w.heap.size w wc))
    case first =>
     have H := HC14.out
     clear HC14
     by_cases c17 : t194 = 0
     ·rw [if_pos c17] at H
      have c17b0 : (t194 == 0) = true := beq_iff_eq.mpr c17
      have c17b1 : (t194 != 0) = false := bne_eq_false_iff_eq.mpr c17
      clear c17
      (first | rw [c17b0] | (simp only [i64_w, i32_w]; rw [c17b0]) | skip)
      have H' := Aside0.mk H
      clear H
      go_wp2
      go_meet
      case rel => exact ⟨_, ((t198 != 0)), (by first | rfl | (simp; done) | (simp [*]; done)), H', ⟨by have := HJ7.out; first | omega | exact Nat.le_refl _⟩, ⟨by (with_reducible repeat (first | apply Kd.S_alloc | apply Kd.S_drewN | apply Kd.S_drew)); exact Kd.S_mono HO196.out (fun _ hk => hk.2)⟩, ⟨by (with_reducible repeat (first | apply Kd.S_alloc | apply Kd.S_drewN | apply Kd.S_drew)); exact Kd.S_mono HO200.out (fun _ hk => hk.2)⟩, ⟨by repeat (first | (with_reducible first | exact HB.out | apply below_alloc | apply pw_below_drewN | apply below_drew1) | exact HB.out)⟩⟩
     ·rw [if_neg c17] at H
      have c17b0 : (t194 == 0) = false := beq_eq_false_iff_ne.mpr c17
      have c17b1 : (t194 != 0) = true := bne_iff_ne.mpr c17
      (first | rw [c17b0] | (simp only [i64_w, i32_w]; rw [c17b0]) | skip)
      have H' := Aside0.mk H
      clear H
      go_wp2
      go_meet
      case rel => exact ⟨_, (true), (by first | rfl | (simp; done) | (simp [*]; done)), H', ⟨by have := HJ7.out; first | omega | exact Nat.le_refl _⟩, ⟨by (with_reducible repeat (first | apply Kd.S_alloc | apply Kd.S_drewN | apply Kd.S_drew)); exact Kd.S_mono HO196.out (fun _ hk => hk.2)⟩, ⟨by (with_reducible repeat (first | apply Kd.S_alloc | apply Kd.S_drewN | apply Kd.S_drew)); exact Kd.S_mono HO200.out (fun _ hk => hk.2)⟩, ⟨by repeat (first | (with_reducible first | exact HB.out | apply below_alloc | apply pw_below_drewN | apply below_drew1) | exact HB.out)⟩⟩
    case rest =>
     clear HC14
     try clear c1
     try clear p2
     try clear c7
     try clear c10
     try clear c11
     try clear c12
     try clear c17
     try clear c17b0
     try clear c17b1
     try clear p2
     obtain ⟨kq, x52_13, rfl, HA, HJ13, HO_13, HO_15, HB⟩ := hcut
     cases kq with
     | zero => exact absurd HA.out (by simp [catchwordlaw06_PostOrder.j1])
     | succ kj13 =>
      have H := HA.out
      clear HA
      simp only [catchwordlaw06_PostOrder.j1] at H
      by_cases c18 : x52_13 = true
      ·subst c18
       have H1 : (if t194 = 0 then (if t198 = 0 then (some true) else ((post_Same.f kj13 t197 l0).bind fun t201 => (some t201))) else ((post_Same.f kj13 t193 l0).bind fun t202 => (if t202 = true then (if t198 = 0 then (some true) else ((post_Same.f kj13 t197 l0).bind fun t203 => (some t203))) else (some false)))) = some r := by rw [if_pos rfl] at H; exact H
       clear H
       have H := H1
       clear H1
       by_cases c19 : t194 = 0
       ·rw [if_pos c19] at H
        have c19b0 : (t194 == 0) = true := beq_iff_eq.mpr c19
        have c19b1 : (t194 != 0) = false := bne_eq_false_iff_eq.mpr c19
        clear c19
        by_cases c20 : t198 = 0
        ·rw [if_pos c20] at H
         have c20b0 : (t198 == 0) = true := beq_iff_eq.mpr c20
         have c20b1 : (t198 != 0) = false := bne_eq_false_iff_eq.mpr c20
         clear c20
         obtain rfl := Option.some.inj H
         go_wp2
         go_ret
         exact ⟨by first | rfl | (simp [errW_none, errW_some] <;> rfl) | (simp [*, errW_none, errW_some] <;> rfl), by repeat (first | (with_reducible first | exact HB.out | apply below_alloc | apply pw_below_drewN | apply below_drew1) | exact HB.out)⟩
        ·rw [if_neg c20] at H
         have c20b0 : (t198 == 0) = false := beq_eq_false_iff_ne.mpr c20
         have c20b1 : (t198 != 0) = true := bne_iff_ne.mpr c20
         replace H := Option.bind_eq_some_iff.mp H
         obtain ⟨t201, A210, H⟩ := H
         replace H : (some t201) = some r := H
         have A21 := Aside0.mk A210
         clear A210
         obtain rfl := Option.some.inj H
         obtain ⟨Ao22, co22, eo22⟩ := Kd.S_slice HO_15.out
         subst eo22
         go_wp2_with (first | (go_at_call 19; (with_reducible refine (post_Same.calls kj13 _ _ t197 _ _ l0 t201 _ ?side1 ?side2 ?side3 ?side4 A21.out).mono ?_); (case side1 => repeat (first | exact (Kd.S_reads' HO_15.out).2.2 | (with_reducible refine Kd.C_alloc ?_ _) | (with_reducible refine Kd.C_drewN ?_ _) | (with_reducible refine Kd.C_drew ?_))); (case side2 => exact (Kd.S_reads' HO_15.out).2.1); (case side3 => repeat (first | exact (Kd.C_below HR0.out HB.out) | (with_reducible refine Kd.C_alloc ?_ _) | (with_reducible refine Kd.C_drewN ?_ _) | (with_reducible refine Kd.C_drew ?_))); (case side4 => exact HC0.out); rintro e w23 ⟨rfl, hb⟩; have n0_ := Aside0.mk (Kd.S_below (by (with_reducible repeat (first | apply Kd.S_alloc | apply Kd.S_drewN | apply Kd.S_drew)); exact HO_13.out) hb); have n1_ := Aside0.mk (Kd.S_below (by (with_reducible repeat (first | apply Kd.S_alloc | apply Kd.S_drewN | apply Kd.S_drew)); exact HO_15.out) hb); have n2_ := Aside0.mk (below_step (by repeat (first | (with_reducible first | exact HB.out | apply below_alloc | apply pw_below_drewN | apply below_drew1) | exact HB.out)) hb); clear HO_13; clear HO_15; clear HB; have HO_13 := n0_; have HO_15 := n1_; have HB := n2_; clear n0_ n1_ n2_; (try clear hb); (try clear hb2); (try clear hk); (try clear hi)))
         go_ret
         exact ⟨by first | rfl | (simp [errW_none, errW_some] <;> rfl) | (simp [*, errW_none, errW_some] <;> rfl), by repeat (first | (with_reducible first | exact HB.out | apply below_alloc | apply pw_below_drewN | apply below_drew1) | exact HB.out)⟩
       ·rw [if_neg c19] at H
        have c19b0 : (t194 == 0) = false := beq_eq_false_iff_ne.mpr c19
        have c19b1 : (t194 != 0) = true := bne_iff_ne.mpr c19
        replace H := Option.bind_eq_some_iff.mp H
        obtain ⟨t202, A240, H⟩ := H
        replace H : (if t202 = true then (if t198 = 0 then (some true) else ((post_Same.f kj13 t197 l0).bind fun t203 => (some t203))) else (some false)) = some r := H
        have A24 := Aside0.mk A240
        clear A240
        by_cases c25 : t202 = true
        ·subst c25
         have H1 : (if t198 = 0 then (some true) else ((post_Same.f kj13 t197 l0).bind fun t203 => (some t203))) = some r := by rw [if_pos rfl] at H; exact H
         clear H
         have H := H1
         clear H1
         by_cases c26 : t198 = 0
         ·rw [if_pos c26] at H
          have c26b0 : (t198 == 0) = true := beq_iff_eq.mpr c26
          have c26b1 : (t198 != 0) = false := bne_eq_false_iff_eq.mpr c26
          clear c26
          obtain rfl := Option.some.inj H
          obtain ⟨Ao27, co27, eo27⟩ := Kd.S_slice HO_13.out
          subst eo27
          go_wp2_with (first | (go_at_call 19; (with_reducible refine (post_Same.calls kj13 _ _ t193 _ _ l0 true _ ?side1 ?side2 ?side3 ?side4 A24.out).mono ?_); (case side1 => repeat (first | exact (Kd.S_reads' HO_13.out).2.2 | (with_reducible refine Kd.C_alloc ?_ _) | (with_reducible refine Kd.C_drewN ?_ _) | (with_reducible refine Kd.C_drew ?_))); (case side2 => exact (Kd.S_reads' HO_13.out).2.1); (case side3 => repeat (first | exact (Kd.C_below HR0.out HB.out) | (with_reducible refine Kd.C_alloc ?_ _) | (with_reducible refine Kd.C_drewN ?_ _) | (with_reducible refine Kd.C_drew ?_))); (case side4 => exact HC0.out); rintro e w28 ⟨rfl, hb⟩; have n0_ := Aside0.mk (Kd.S_below (by (with_reducible repeat (first | apply Kd.S_alloc | apply Kd.S_drewN | apply Kd.S_drew)); exact HO_13.out) hb); have n1_ := Aside0.mk (Kd.S_below (by (with_reducible repeat (first | apply Kd.S_alloc | apply Kd.S_drewN | apply Kd.S_drew)); exact HO_15.out) hb); have n2_ := Aside0.mk (below_step (by repeat (first | (with_reducible first | exact HB.out | apply below_alloc | apply pw_below_drewN | apply below_drew1) | exact HB.out)) hb); clear HO_13; clear HO_15; clear HB; have HO_13 := n0_; have HO_15 := n1_; have HB := n2_; clear n0_ n1_ n2_; (try clear hb); (try clear hb2); (try clear hk); (try clear hi)))
          go_ret
          exact ⟨by first | rfl | (simp [errW_none, errW_some] <;> rfl) | (simp [*, errW_none, errW_some] <;> rfl), by repeat (first | (with_reducible first | exact HB.out | apply below_alloc | apply pw_below_drewN | apply below_drew1) | exact HB.out)⟩
         ·rw [if_neg c26] at H
          have c26b0 : (t198 == 0) = false := beq_eq_false_iff_ne.mpr c26
          have c26b1 : (t198 != 0) = true := bne_iff_ne.mpr c26
          replace H := Option.bind_eq_some_iff.mp H
          obtain ⟨t203, A290, H⟩ := H
          replace H : (some t203) = some r := H
          have A29 := Aside0.mk A290
          clear A290
          obtain rfl := Option.some.inj H
          obtain ⟨Ao30, co30, eo30⟩ := Kd.S_slice HO_13.out
          subst eo30
          go_wp2_with (first | (go_at_call 19; (with_reducible refine (post_Same.calls kj13 _ _ t193 _ _ l0 true _ ?side1 ?side2 ?side3 ?side4 A24.out).mono ?_); (case side1 => repeat (first | exact (Kd.S_reads' HO_13.out).2.2 | (with_reducible refine Kd.C_alloc ?_ _) | (with_reducible refine Kd.C_drewN ?_ _) | (with_reducible refine Kd.C_drew ?_))); (case side2 => exact (Kd.S_reads' HO_13.out).2.1); (case side3 => repeat (first | exact (Kd.C_below HR0.out HB.out) | (with_reducible refine Kd.C_alloc ?_ _) | (with_reducible refine Kd.C_drewN ?_ _) | (with_reducible refine Kd.C_drew ?_))); (case side4 => exact HC0.out); rintro e w31 ⟨rfl, hb⟩; have n0_ := Aside0.mk (Kd.S_below (by (with_reducible repeat (first | apply Kd.S_alloc | apply Kd.S_drewN | apply Kd.S_drew)); exact HO_13.out) hb); have n1_ := Aside0.mk (Kd.S_below (by (with_reducible repeat (first | apply Kd.S_alloc | apply Kd.S_drewN | apply Kd.S_drew)); exact HO_15.out) hb); have n2_ := Aside0.mk (below_step (by repeat (first | (with_reducible first | exact HB.out | apply below_alloc | apply pw_below_drewN | apply below_drew1) | exact HB.out)) hb); clear HO_13; clear HO_15; clear HB; have HO_13 := n0_; have HO_15 := n1_; have HB := n2_; clear n0_ n1_ n2_; (try clear hb); (try clear hb2); (try clear hk); (try clear hi); obtain ⟨Ao32, co32, eo32⟩ := Kd.S_slice HO_15.out; subst eo32) | (go_at_call 19; (with_reducible refine (post_Same.calls kj13 _ _ t197 _ _ l0 t203 _ ?side1 ?side2 ?side3 ?side4 A29.out).mono ?_); (case side1 => repeat (first | exact (Kd.S_reads' HO_15.out).2.2 | (with_reducible refine Kd.C_alloc ?_ _) | (with_reducible refine Kd.C_drewN ?_ _) | (with_reducible refine Kd.C_drew ?_))); (case side2 => exact (Kd.S_reads' HO_15.out).2.1); (case side3 => repeat (first | exact (Kd.C_below HR0.out HB.out) | (with_reducible refine Kd.C_alloc ?_ _) | (with_reducible refine Kd.C_drewN ?_ _) | (with_reducible refine Kd.C_drew ?_))); (case side4 => exact HC0.out); rintro e w33 ⟨rfl, hb⟩; have n0_ := Aside0.mk (Kd.S_below (by (with_reducible repeat (first | apply Kd.S_alloc | apply Kd.S_drewN | apply Kd.S_drew)); exact HO_13.out) hb); have n1_ := Aside0.mk (Kd.S_below (by (with_reducible repeat (first | apply Kd.S_alloc | apply Kd.S_drewN | apply Kd.S_drew)); exact HO_15.out) hb); have n2_ := Aside0.mk (below_step (by repeat (first | (with_reducible first | exact HB.out | apply below_alloc | apply pw_below_drewN | apply below_drew1) | exact HB.out)) hb); clear HO_13; clear HO_15; clear HB; have HO_13 := n0_; have HO_15 := n1_; have HB := n2_; clear n0_ n1_ n2_; (try clear hb); (try clear hb2); (try clear hk); (try clear hi)))
          go_ret
          exact ⟨by first | rfl | (simp [errW_none, errW_some] <;> rfl) | (simp [*, errW_none, errW_some] <;> rfl), by repeat (first | (with_reducible first | exact HB.out | apply below_alloc | apply pw_below_drewN | apply below_drew1) | exact HB.out)⟩
        ·replace c25 := Bool.eq_false_iff.mpr c25
         subst c25
         have H1 : (some false) = some r := by rw [if_neg (show ¬ (false = true) by decide)] at H; exact H
         clear H
         have H := H1
         clear H1
         obtain rfl := Option.some.inj H
         obtain ⟨Ao34, co34, eo34⟩ := Kd.S_slice HO_13.out
         subst eo34
         go_wp2_with (first | (go_at_call 19; (with_reducible refine (post_Same.calls kj13 _ _ t193 _ _ l0 false _ ?side1 ?side2 ?side3 ?side4 A24.out).mono ?_); (case side1 => repeat (first | exact (Kd.S_reads' HO_13.out).2.2 | (with_reducible refine Kd.C_alloc ?_ _) | (with_reducible refine Kd.C_drewN ?_ _) | (with_reducible refine Kd.C_drew ?_))); (case side2 => exact (Kd.S_reads' HO_13.out).2.1); (case side3 => repeat (first | exact (Kd.C_below HR0.out HB.out) | (with_reducible refine Kd.C_alloc ?_ _) | (with_reducible refine Kd.C_drewN ?_ _) | (with_reducible refine Kd.C_drew ?_))); (case side4 => exact HC0.out); rintro e w35 ⟨rfl, hb⟩; have n0_ := Aside0.mk (Kd.S_below (by (with_reducible repeat (first | apply Kd.S_alloc | apply Kd.S_drewN | apply Kd.S_drew)); exact HO_13.out) hb); have n1_ := Aside0.mk (Kd.S_below (by (with_reducible repeat (first | apply Kd.S_alloc | apply Kd.S_drewN | apply Kd.S_drew)); exact HO_15.out) hb); have n2_ := Aside0.mk (below_step (by repeat (first | (with_reducible first | exact HB.out | apply below_alloc | apply pw_below_drewN | apply below_drew1) | exact HB.out)) hb); clear HO_13; clear HO_15; clear HB; have HO_13 := n0_; have HO_15 := n1_; have HB := n2_; clear n0_ n1_ n2_; (try clear hb); (try clear hb2); (try clear hk); (try clear hi)))
         go_ret
         exact ⟨by first | rfl | (simp [errW_none, errW_some] <;> rfl) | (simp [*, errW_none, errW_some] <;> rfl), by repeat (first | (with_reducible first | exact HB.out | apply below_alloc | apply pw_below_drewN | apply below_drew1) | exact HB.out)⟩
      ·replace c18 := Bool.eq_false_iff.mpr c18
       subst c18
       have H1 : ((post_Put.f t193 a1 a2).bind fun bt204 => (if bt204.2 = 3 then ((post_May.f kj13 t193).bind fun t208 => (if t208 = true then ((post_Find.f kj13 t193 a1).bind fun t209 => (catchwordlaw06_PostOrder.j2 kj13 a1 a2 a3 a4 t193 t197 (decide (t209 < 0)))) else (catchwordlaw06_PostOrder.j2 kj13 a1 a2 a3 a4 t193 t197 true))) else (catchwordlaw06_PostOrder.j2 kj13 a1 a2 a3 a4 t193 t197 true))) = some r := by rw [if_neg (show ¬ (false = true) by decide)] at H; exact H
       clear H
       have H := H1
       clear H1
       replace H := Option.bind_eq_some_iff.mp H
       obtain ⟨⟨t204, t205⟩, A360, H⟩ := H
       replace H : (if t205 = 3 then ((post_May.f kj13 t193).bind fun t208 => (if t208 = true then ((post_Find.f kj13 t193 a1).bind fun t209 => (catchwordlaw06_PostOrder.j2 kj13 a1 a2 a3 a4 t193 t197 (decide (t209 < 0)))) else (catchwordlaw06_PostOrder.j2 kj13 a1 a2 a3 a4 t193 t197 true))) else (catchwordlaw06_PostOrder.j2 kj13 a1 a2 a3 a4 t193 t197 true)) = some r := H
       have A36 := Aside0.mk A360
       clear A360
       have HC37 := Aside0.mk H
       clear H
       obtain ⟨Ao38, co38, eo38⟩ := Kd.S_slice HO_13.out
       subst eo38
       go_upto_region 10 with (first | ((with_reducible refine gate_callee (f := 12) rfl ?_); refine goesL_ (some 73) rfl rfl Try.func12 (by kernel_rfl) rfl #[.slice Ao38 t193.length co38, .int .i64 a1, .int .i64 a2] rfl (by (try simp only [List.map_toArray, List.map_cons, List.map_nil]); first | done | rfl | (simp only [List.length_drop, List.length_take]; rfl)) ?_; (with_reducible refine (post_Put.calls _ _ t193 a1 a2 t204 t205 _ ?side1 ?side2 A36.out).mono ?_); (case side1 => repeat (first | exact (Kd.S_reads' HO_13.out).2.2 | (with_reducible refine Kd.C_alloc ?_ _) | (with_reducible refine Kd.C_drewN ?_ _) | (with_reducible refine Kd.C_drew ?_))); (case side2 => exact (Kd.S_reads' HO_13.out).2.1); rintro e w39 ⟨v206, rfl, ho0, hb⟩; refine ⟨_, rfl, ?_⟩; have n0_ := Aside0.mk (Kd.S_elder' (by (with_reducible repeat (first | apply Kd.S_alloc | apply Kd.S_drewN | apply Kd.S_drew)); exact HO_13.out) (Kd.S_base ho0) hb); have n1_ := Aside0.mk (Kd.S_elder' (by (with_reducible repeat (first | apply Kd.S_alloc | apply Kd.S_drewN | apply Kd.S_drew)); exact HO_15.out) (Kd.S_base ho0) hb); have n2_ := Aside0.mk (Kd.S_lower (Kd.S_new' (Kd.S_new' ho0 (Kd.S_lt (by (with_reducible repeat (first | apply Kd.S_alloc | apply Kd.S_drewN | apply Kd.S_drew)); exact HO_13.out))) (Kd.S_lt (by (with_reducible repeat (first | apply Kd.S_alloc | apply Kd.S_drewN | apply Kd.S_drew)); exact HO_15.out))) (below_size (by repeat (first | (with_reducible first | exact HB.out | apply below_alloc | apply pw_below_drewN | apply below_drew1) | exact HB.out)))); have n3_ := Aside0.mk (below_step (by repeat (first | (with_reducible first | exact HB.out | apply below_alloc | apply pw_below_drewN | apply below_drew1) | exact HB.out)) hb); clear HO_13; clear HO_15; clear HB; have HO_13 := n0_; have HO_15 := n1_; have HO207 := n2_; have HB := n3_; clear n0_ n1_ n2_ n3_; (try clear hb); (try clear hb2); (try clear hk); (try clear hi); (try clear ho0)))
       (try simp only [Act.put, List.setIfInBounds_toArray, List.set_cons_zero, List.set_cons_succ])
       go_cut [88] (fun v88 wc => ∃ (kq : Nat) (x88_36 : Bool), v88 = .bool x88_36 ∧ Aside0 (catchwordlaw06_PostOrder.j2 kq a1 a2 a3 a4 t193 t197 x88_36 = some r) ∧ Aside0 (kq ≤ kj13) ∧ Aside0 (Kd.S k39 39 wc w.heap.size (fun k_ => some k_ ≠ (v199 : Value).ownBlock) (.slice Ao38 t193.length co38) t193) ∧ Aside0 (Kd.S k39 39 wc w.heap.size (fun k_ => some k_ ≠ ((.slice Ao38 t193.length co38) : Value).ownBlock) v199 t197) ∧ Aside0 (Below w.heap.size w wc))
       case first =>
        have H := HC37.out
        clear HC37
        by_cases c40 : t205 = 3
        ·rw [if_pos c40] at H
         have c40b0 : (t205 == 3) = true := beq_iff_eq.mpr c40
         have c40b1 : (t205 != 3) = false := bne_eq_false_iff_eq.mpr c40
         clear c40
         (first | rw [c40b0] | (simp only [i64_w, i32_w]; rw [c40b0]) | skip)
         replace H := Option.bind_eq_some_iff.mp H
         obtain ⟨t208, A410, H⟩ := H
         replace H : (if t208 = true then ((post_Find.f kj13 t193 a1).bind fun t209 => (catchwordlaw06_PostOrder.j2 kj13 a1 a2 a3 a4 t193 t197 (decide (t209 < 0)))) else (catchwordlaw06_PostOrder.j2 kj13 a1 a2 a3 a4 t193 t197 true)) = some r := H
         have A41 := Aside0.mk A410
         clear A410
         by_cases c42 : t208 = true
         ·subst c42
          have H1 : ((post_Find.f kj13 t193 a1).bind fun t209 => (catchwordlaw06_PostOrder.j2 kj13 a1 a2 a3 a4 t193 t197 (decide (t209 < 0)))) = some r := by rw [if_pos rfl] at H; exact H
          clear H
          have H := H1
          clear H1
          replace H := Option.bind_eq_some_iff.mp H
          obtain ⟨t209, A430, H⟩ := H
          replace H : (catchwordlaw06_PostOrder.j2 kj13 a1 a2 a3 a4 t193 t197 (decide (t209 < 0))) = some r := H
          have A43 := Aside0.mk A430
          clear A430
          have H' := Aside0.mk H
          clear H
          go_wp2_with (first | (go_at_call 15; (with_reducible refine (post_May.calls kj13 _ _ t193 true _ ?side1 ?side2 A41.out).mono ?_); (case side1 => repeat (first | exact (Kd.S_reads' HO_13.out).2.2 | (with_reducible refine Kd.C_alloc ?_ _) | (with_reducible refine Kd.C_drewN ?_ _) | (with_reducible refine Kd.C_drew ?_))); (case side2 => exact (Kd.S_reads' HO_13.out).2.1); rintro e w44 ⟨rfl, hb⟩; have n0_ := Aside0.mk (Kd.S_below (by (with_reducible repeat (first | apply Kd.S_alloc | apply Kd.S_drewN | apply Kd.S_drew)); exact HO_13.out) hb); have n1_ := Aside0.mk (Kd.S_below (by (with_reducible repeat (first | apply Kd.S_alloc | apply Kd.S_drewN | apply Kd.S_drew)); exact HO_15.out) hb); have n2_ := Aside0.mk (Kd.S_below (by (with_reducible repeat (first | apply Kd.S_alloc | apply Kd.S_drewN | apply Kd.S_drew)); exact HO207.out) hb); have n3_ := Aside0.mk (below_step (by repeat (first | (with_reducible first | exact HB.out | apply below_alloc | apply pw_below_drewN | apply below_drew1) | exact HB.out)) hb); clear HO_13; clear HO_15; clear HO207; clear HB; have HO_13 := n0_; have HO_15 := n1_; have HO207 := n2_; have HB := n3_; clear n0_ n1_ n2_ n3_; (try clear hb); (try clear hb2); (try clear hk); (try clear hi)) | (go_at_call 17; (with_reducible refine (post_Find.calls kj13 _ _ t193 a1 t209 _ ?side1 ?side2 A43.out).mono ?_); (case side1 => repeat (first | exact (Kd.S_reads' HO_13.out).2.2 | (with_reducible refine Kd.C_alloc ?_ _) | (with_reducible refine Kd.C_drewN ?_ _) | (with_reducible refine Kd.C_drew ?_))); (case side2 => exact (Kd.S_reads' HO_13.out).2.1); rintro e w45 ⟨rfl, hb⟩; have n0_ := Aside0.mk (Kd.S_below (by (with_reducible repeat (first | apply Kd.S_alloc | apply Kd.S_drewN | apply Kd.S_drew)); exact HO_13.out) hb); have n1_ := Aside0.mk (Kd.S_below (by (with_reducible repeat (first | apply Kd.S_alloc | apply Kd.S_drewN | apply Kd.S_drew)); exact HO_15.out) hb); have n2_ := Aside0.mk (Kd.S_below (by (with_reducible repeat (first | apply Kd.S_alloc | apply Kd.S_drewN | apply Kd.S_drew)); exact HO207.out) hb); have n3_ := Aside0.mk (below_step (by repeat (first | (with_reducible first | exact HB.out | apply below_alloc | apply pw_below_drewN | apply below_drew1) | exact HB.out)) hb); clear HO_13; clear HO_15; clear HO207; clear HB; have HO_13 := n0_; have HO_15 := n1_; have HO207 := n2_; have HB := n3_; clear n0_ n1_ n2_ n3_; (try clear hb); (try clear hb2); (try clear hk); (try clear hi)))
          go_meet
          case rel => exact ⟨_, (decide (t209 < 0)), (by first | rfl | (simp; done) | (simp [*]; done)), H', ⟨by have := HJ7.out; have := HJ13.out; first | omega | exact Nat.le_refl _⟩, ⟨by (with_reducible repeat (first | apply Kd.S_alloc | apply Kd.S_drewN | apply Kd.S_drew)); exact Kd.S_mono HO_13.out (fun _ hk => hk.1)⟩, ⟨by (with_reducible repeat (first | apply Kd.S_alloc | apply Kd.S_drewN | apply Kd.S_drew)); exact Kd.S_mono HO_15.out (fun _ hk => hk.1)⟩, ⟨by repeat (first | (with_reducible first | exact HB.out | apply below_alloc | apply pw_below_drewN | apply below_drew1) | exact HB.out)⟩⟩
         ·replace c42 := Bool.eq_false_iff.mpr c42
          subst c42
          have H1 : (catchwordlaw06_PostOrder.j2 kj13 a1 a2 a3 a4 t193 t197 true) = some r := by rw [if_neg (show ¬ (false = true) by decide)] at H; exact H
          clear H
          have H := H1
          clear H1
          have H' := Aside0.mk H
          clear H
          go_wp2_with (first | (go_at_call 15; (with_reducible refine (post_May.calls kj13 _ _ t193 false _ ?side1 ?side2 A41.out).mono ?_); (case side1 => repeat (first | exact (Kd.S_reads' HO_13.out).2.2 | (with_reducible refine Kd.C_alloc ?_ _) | (with_reducible refine Kd.C_drewN ?_ _) | (with_reducible refine Kd.C_drew ?_))); (case side2 => exact (Kd.S_reads' HO_13.out).2.1); rintro e w46 ⟨rfl, hb⟩; have n0_ := Aside0.mk (Kd.S_below (by (with_reducible repeat (first | apply Kd.S_alloc | apply Kd.S_drewN | apply Kd.S_drew)); exact HO_13.out) hb); have n1_ := Aside0.mk (Kd.S_below (by (with_reducible repeat (first | apply Kd.S_alloc | apply Kd.S_drewN | apply Kd.S_drew)); exact HO_15.out) hb); have n2_ := Aside0.mk (Kd.S_below (by (with_reducible repeat (first | apply Kd.S_alloc | apply Kd.S_drewN | apply Kd.S_drew)); exact HO207.out) hb); have n3_ := Aside0.mk (below_step (by repeat (first | (with_reducible first | exact HB.out | apply below_alloc | apply pw_below_drewN | apply below_drew1) | exact HB.out)) hb); clear HO_13; clear HO_15; clear HO207; clear HB; have HO_13 := n0_; have HO_15 := n1_; have HO207 := n2_; have HB := n3_; clear n0_ n1_ n2_ n3_; (try clear hb); (try clear hb2); (try clear hk); (try clear hi)))
          go_meet
          case rel => exact ⟨_, (true), (by first | rfl | (simp; done) | (simp [*]; done)), H', ⟨by have := HJ7.out; have := HJ13.out; first | omega | exact Nat.le_refl _⟩, ⟨by (with_reducible repeat (first | apply Kd.S_alloc | apply Kd.S_drewN | apply Kd.S_drew)); exact Kd.S_mono HO_13.out (fun _ hk => hk.1)⟩, ⟨by (with_reducible repeat (first | apply Kd.S_alloc | apply Kd.S_drewN | apply Kd.S_drew)); exact Kd.S_mono HO_15.out (fun _ hk => hk.1)⟩, ⟨by repeat (first | (with_reducible first | exact HB.out | apply below_alloc | apply pw_below_drewN | apply below_drew1) | exact HB.out)⟩⟩
        ·rw [if_neg c40] at H
         have c40b0 : (t205 == 3) = false := beq_eq_false_iff_ne.mpr c40
         have c40b1 : (t205 != 3) = true := bne_iff_ne.mpr c40
         (first | rw [c40b0] | (simp only [i64_w, i32_w]; rw [c40b0]) | skip)
         have H' := Aside0.mk H
         clear H
         go_wp2
         go_meet
         case rel => exact ⟨_, (true), (by first | rfl | (simp; done) | (simp [*]; done)), H', ⟨by have := HJ7.out; have := HJ13.out; first | omega | exact Nat.le_refl _⟩, ⟨by (with_reducible repeat (first | apply Kd.S_alloc | apply Kd.S_drewN | apply Kd.S_drew)); exact Kd.S_mono HO_13.out (fun _ hk => hk.1)⟩, ⟨by (with_reducible repeat (first | apply Kd.S_alloc | apply Kd.S_drewN | apply Kd.S_drew)); exact Kd.S_mono HO_15.out (fun _ hk => hk.1)⟩, ⟨by repeat (first | (with_reducible first | exact HB.out | apply below_alloc | apply pw_below_drewN | apply below_drew1) | exact HB.out)⟩⟩
       case rest =>
        clear HC37
        try clear c1
        try clear c2
        try clear p2
        try clear c4
        try clear c7
        try clear c10
        try clear c11
        try clear c12
        try clear c17
        try clear c17b0
        try clear c17b1
        try clear c18
        try clear c19
        try clear c19b0
        try clear c19b1
        try clear c20
        try clear c20b0
        try clear c20b1
        try clear c25
        try clear c26
        try clear c26b0
        try clear c26b1
        try clear c40
        try clear c40b0
        try clear c40b1
        try clear c42
        try clear p2
        obtain ⟨kq, x88_36, rfl, HA, HJ36, HO_13, HO_15, HB⟩ := hcut
        cases kq with
        | zero => exact absurd HA.out (by simp [catchwordlaw06_PostOrder.j2])
        | succ kj36 =>
         have H := HA.out
         clear HA
         simp only [catchwordlaw06_PostOrder.j2] at H
         by_cases c47 : x88_36 = true
         ·subst c47
          have H1 : (some false) = some r := by rw [if_pos rfl] at H; exact H
          clear H
          have H := H1
          clear H1
          obtain rfl := Option.some.inj H
          go_wp2
          go_ret
          exact ⟨by first | rfl | (simp [errW_none, errW_some] <;> rfl) | (simp [*, errW_none, errW_some] <;> rfl), by repeat (first | (with_reducible first | exact HB.out | apply below_alloc | apply pw_below_drewN | apply below_drew1) | exact HB.out)⟩
         ·replace c47 := Bool.eq_false_iff.mpr c47
          subst c47
          have H1 : ((post_Put.f t193 a3 a4).bind fun bt210 => ((post_Put.f t197 a1 a2).bind fun bt214 => (if a1 = a3 then (catchwordlaw06_PostOrder.j3 kj36 t193 t197 bt210.1 bt210.2 bt214.1 bt214.2 (a2 == a4)) else (catchwordlaw06_PostOrder.j3 kj36 t193 t197 bt210.1 bt210.2 bt214.1 bt214.2 false)))) = some r := by rw [if_neg (show ¬ (false = true) by decide)] at H; exact H
          clear H
          have H := H1
          clear H1
          replace H := Option.bind_eq_some_iff.mp H
          obtain ⟨⟨t210, t211⟩, A480, H⟩ := H
          replace H : ((post_Put.f t197 a1 a2).bind fun bt214 => (if a1 = a3 then (catchwordlaw06_PostOrder.j3 kj36 t193 t197 t210 t211 bt214.1 bt214.2 (a2 == a4)) else (catchwordlaw06_PostOrder.j3 kj36 t193 t197 t210 t211 bt214.1 bt214.2 false))) = some r := H
          have A48 := Aside0.mk A480
          clear A480
          replace H := Option.bind_eq_some_iff.mp H
          obtain ⟨⟨t214, t215⟩, A490, H⟩ := H
          replace H : (if a1 = a3 then (catchwordlaw06_PostOrder.j3 kj36 t193 t197 t210 t211 t214 t215 (a2 == a4)) else (catchwordlaw06_PostOrder.j3 kj36 t193 t197 t210 t211 t214 t215 false)) = some r := H
          have A49 := Aside0.mk A490
          clear A490
          have HC50 := Aside0.mk H
          clear H
          go_upto_region 14 with (first | ((with_reducible refine gate_callee (f := 12) rfl ?_); refine goesL_ (some 93) rfl rfl Try.func12 (by kernel_rfl) rfl #[.slice Ao38 t193.length co38, .int .i64 a3, .int .i64 a4] rfl (by (try simp only [List.map_toArray, List.map_cons, List.map_nil]); first | done | rfl | (simp only [List.length_drop, List.length_take]; rfl)) ?_; (with_reducible refine (post_Put.calls _ _ t193 a3 a4 t210 t211 _ ?side1 ?side2 A48.out).mono ?_); (case side1 => repeat (first | exact (Kd.S_reads' HO_13.out).2.2 | (with_reducible refine Kd.C_alloc ?_ _) | (with_reducible refine Kd.C_drewN ?_ _) | (with_reducible refine Kd.C_drew ?_))); (case side2 => exact (Kd.S_reads' HO_13.out).2.1); rintro e w51 ⟨v212, rfl, ho0, hb⟩; refine ⟨_, rfl, ?_⟩; have n0_ := Aside0.mk (Kd.S_elder' (by (with_reducible repeat (first | apply Kd.S_alloc | apply Kd.S_drewN | apply Kd.S_drew)); exact HO_13.out) (Kd.S_base ho0) hb); have n1_ := Aside0.mk (Kd.S_elder' (by (with_reducible repeat (first | apply Kd.S_alloc | apply Kd.S_drewN | apply Kd.S_drew)); exact HO_15.out) (Kd.S_base ho0) hb); have n2_ := Aside0.mk (Kd.S_lower (Kd.S_new' (Kd.S_new' ho0 (Kd.S_lt (by (with_reducible repeat (first | apply Kd.S_alloc | apply Kd.S_drewN | apply Kd.S_drew)); exact HO_13.out))) (Kd.S_lt (by (with_reducible repeat (first | apply Kd.S_alloc | apply Kd.S_drewN | apply Kd.S_drew)); exact HO_15.out))) (below_size (by repeat (first | (with_reducible first | exact HB.out | apply below_alloc | apply pw_below_drewN | apply below_drew1) | exact HB.out)))); have n3_ := Aside0.mk (below_step (by repeat (first | (with_reducible first | exact HB.out | apply below_alloc | apply pw_below_drewN | apply below_drew1) | exact HB.out)) hb); clear HO_13; clear HO_15; clear HB; have HO_13 := n0_; have HO_15 := n1_; have HO213 := n2_; have HB := n3_; clear n0_ n1_ n2_ n3_; (try clear hb); (try clear hb2); (try clear hk); (try clear hi); (try clear ho0); obtain ⟨Ao52, co52, eo52⟩ := Kd.S_slice HO_15.out; subst eo52) | ((with_reducible refine gate_callee (f := 12) rfl ?_); refine goesL_ (some 100) rfl rfl Try.func12 (by kernel_rfl) rfl #[.slice Ao52 t197.length co52, .int .i64 a1, .int .i64 a2] rfl (by (try simp only [List.map_toArray, List.map_cons, List.map_nil]); first | done | rfl | (simp only [List.length_drop, List.length_take]; rfl)) ?_; (with_reducible refine (post_Put.calls _ _ t197 a1 a2 t214 t215 _ ?side1 ?side2 A49.out).mono ?_); (case side1 => repeat (first | exact (Kd.S_reads' HO_15.out).2.2 | (with_reducible refine Kd.C_alloc ?_ _) | (with_reducible refine Kd.C_drewN ?_ _) | (with_reducible refine Kd.C_drew ?_))); (case side2 => exact (Kd.S_reads' HO_15.out).2.1); rintro e w53 ⟨v216, rfl, ho0, hb⟩; refine ⟨_, rfl, ?_⟩; have n0_ := Aside0.mk (Kd.S_elder' (by (with_reducible repeat (first | apply Kd.S_alloc | apply Kd.S_drewN | apply Kd.S_drew)); exact HO_13.out) (Kd.S_base ho0) hb); have n1_ := Aside0.mk (Kd.S_elder' (by (with_reducible repeat (first | apply Kd.S_alloc | apply Kd.S_drewN | apply Kd.S_drew)); exact HO_15.out) (Kd.S_base ho0) hb); have n2_ := Aside0.mk (Kd.S_elder' (by (with_reducible repeat (first | apply Kd.S_alloc | apply Kd.S_drewN | apply Kd.S_drew)); exact HO213.out) (Kd.S_base ho0) hb); have n3_ := Aside0.mk (Kd.S_lower (Kd.S_new' (Kd.S_new' (Kd.S_new' ho0 (Kd.S_lt (by (with_reducible repeat (first | apply Kd.S_alloc | apply Kd.S_drewN | apply Kd.S_drew)); exact HO_13.out))) (Kd.S_lt (by (with_reducible repeat (first | apply Kd.S_alloc | apply Kd.S_drewN | apply Kd.S_drew)); exact HO_15.out))) (Kd.S_lt (by (with_reducible repeat (first | apply Kd.S_alloc | apply Kd.S_drewN | apply Kd.S_drew)); exact HO213.out))) (below_size (by repeat (first | (with_reducible first | exact HB.out | apply below_alloc | apply pw_below_drewN | apply below_drew1) | exact HB.out)))); have n4_ := Aside0.mk (below_step (by repeat (first | (with_reducible first | exact HB.out | apply below_alloc | apply pw_below_drewN | apply below_drew1) | exact HB.out)) hb); clear HO_13; clear HO_15; clear HO213; clear HB; have HO_13 := n0_; have HO_15 := n1_; have HO213 := n2_; have HO217 := n3_; have HB := n4_; clear n0_ n1_ n2_ n3_ n4_; (try clear hb); (try clear hb2); (try clear hk); (try clear hi); (try clear ho0)))
          (try simp only [Act.put, List.setIfInBounds_toArray, List.set_cons_zero, List.set_cons_succ])
          go_cut [110] (fun v110 wc => ∃ (kq : Nat) (x110_49 : Bool), v110 = .bool x110_49 ∧ Aside0 (catchwordlaw06_PostOrder.j3 kq t193 t197 t210 t211 t214 t215 x110_49 = some r) ∧ Aside0 (kq ≤ kj36) ∧ Aside0 (Kd.S k39 39 wc w.heap.size (fun k_ => some k_ ≠ ((.slice Ao52 t197.length co52) : Value).ownBlock ∧ some k_ ≠ (v212 : Value).ownBlock ∧ some k_ ≠ (v216 : Value).ownBlock) (.slice Ao38 t193.length co38) t193) ∧ Aside0 (Kd.S k39 39 wc w.heap.size (fun k_ => some k_ ≠ ((.slice Ao38 t193.length co38) : Value).ownBlock ∧ some k_ ≠ (v212 : Value).ownBlock ∧ some k_ ≠ (v216 : Value).ownBlock) (.slice Ao52 t197.length co52) t197) ∧ Aside0 (Kd.S k39 39 wc w.heap.size (fun k_ => some k_ ≠ ((.slice Ao38 t193.length co38) : Value).ownBlock ∧ some k_ ≠ ((.slice Ao52 t197.length co52) : Value).ownBlock ∧ some k_ ≠ (v216 : Value).ownBlock) v212 t210) ∧ Aside0 (Kd.S k39 39 wc w.heap.size (fun k_ => some k_ ≠ ((.slice Ao38 t193.length co38) : Value).ownBlock ∧ some k_ ≠ ((.slice Ao52 t197.length co52) : Value).ownBlock ∧ some k_ ≠ (v212 : Value).ownBlock) v216 t214) ∧ Aside0 (Below w.heap.size w wc))
          case first =>
           have H := HC50.out
           clear HC50
           by_cases c54 : a1 = a3
           ·rw [if_pos c54] at H
            have c54b0 : (a1 == a3) = true := beq_iff_eq.mpr c54
            have c54b1 : (a1 != a3) = false := bne_eq_false_iff_eq.mpr c54
            clear c54
            (first | rw [c54b0] | (simp only [i64_w, i32_w]; rw [c54b0]) | skip)
            have H' := Aside0.mk H
            clear H
            go_wp2
            go_meet
            case rel => exact ⟨_, ((a2 == a4)), (by first | rfl | (simp; done) | (simp [*]; done)), H', ⟨by have := HJ7.out; have := HJ13.out; have := HJ36.out; first | omega | exact Nat.le_refl _⟩, ⟨by (with_reducible repeat (first | apply Kd.S_alloc | apply Kd.S_drewN | apply Kd.S_drew)); exact Kd.S_mono HO_13.out (fun _ hk => ⟨hk.1.1, ⟨hk.1.2, hk.2⟩⟩)⟩, ⟨by (with_reducible repeat (first | apply Kd.S_alloc | apply Kd.S_drewN | apply Kd.S_drew)); exact Kd.S_mono HO_15.out (fun _ hk => ⟨hk.1.1, ⟨hk.1.2, hk.2⟩⟩)⟩, ⟨by (with_reducible repeat (first | apply Kd.S_alloc | apply Kd.S_drewN | apply Kd.S_drew)); exact Kd.S_mono HO213.out (fun _ hk => ⟨hk.1.1.2, ⟨hk.1.2, hk.2⟩⟩)⟩, ⟨by (with_reducible repeat (first | apply Kd.S_alloc | apply Kd.S_drewN | apply Kd.S_drew)); exact Kd.S_mono HO217.out (fun _ hk => ⟨hk.1.1.2, ⟨hk.1.2, hk.2⟩⟩)⟩, ⟨by repeat (first | (with_reducible first | exact HB.out | apply below_alloc | apply pw_below_drewN | apply below_drew1) | exact HB.out)⟩⟩
           ·rw [if_neg c54] at H
            have c54b0 : (a1 == a3) = false := beq_eq_false_iff_ne.mpr c54
            have c54b1 : (a1 != a3) = true := bne_iff_ne.mpr c54
            (first | rw [c54b0] | (simp only [i64_w, i32_w]; rw [c54b0]) | skip)
            have H' := Aside0.mk H
            clear H
            go_wp2
            go_meet
            case rel => exact ⟨_, (false), (by first | rfl | (simp; done) | (simp [*]; done)), H', ⟨by have := HJ7.out; have := HJ13.out; have := HJ36.out; first | omega | exact Nat.le_refl _⟩, ⟨by (with_reducible repeat (first | apply Kd.S_alloc | apply Kd.S_drewN | apply Kd.S_drew)); exact Kd.S_mono HO_13.out (fun _ hk => ⟨hk.1.1, ⟨hk.1.2, hk.2⟩⟩)⟩, ⟨by (with_reducible repeat (first | apply Kd.S_alloc | apply Kd.S_drewN | apply Kd.S_drew)); exact Kd.S_mono HO_15.out (fun _ hk => ⟨hk.1.1, ⟨hk.1.2, hk.2⟩⟩)⟩, ⟨by (with_reducible repeat (first | apply Kd.S_alloc | apply Kd.S_drewN | apply Kd.S_drew)); exact Kd.S_mono HO213.out (fun _ hk => ⟨hk.1.1.2, ⟨hk.1.2, hk.2⟩⟩)⟩, ⟨by (with_reducible repeat (first | apply Kd.S_alloc | apply Kd.S_drewN | apply Kd.S_drew)); exact Kd.S_mono HO217.out (fun _ hk => ⟨hk.1.1.2, ⟨hk.1.2, hk.2⟩⟩)⟩, ⟨by repeat (first | (with_reducible first | exact HB.out | apply below_alloc | apply pw_below_drewN | apply below_drew1) | exact HB.out)⟩⟩
          case rest =>
           clear HC50
           try clear c1
           try clear c2
           try clear p2
           try clear c4
           try clear c5
           try clear c7
           try clear c10
           try clear c11
           try clear c12
           try clear c17
           try clear c17b0
           try clear c17b1
           try clear c18
           try clear c19
           try clear c19b0
           try clear c19b1
           try clear c20
           try clear c20b0
           try clear c20b1
           try clear c25
           try clear c26
           try clear c26b0
           try clear c26b1
           try clear c40
           try clear c40b0
           try clear c40b1
           try clear c42
           try clear c47
           try clear c54
           try clear c54b0
           try clear c54b1
           try clear p2
           obtain ⟨kq, x110_49, rfl, HA, HJ49, HO_13, HO_15, HO_19, HO_21, HB⟩ := hcut
           cases kq with
           | zero => exact absurd HA.out (by simp [catchwordlaw06_PostOrder.j3])
           | succ kj49 =>
            have H := HA.out
            clear HA
            simp only [catchwordlaw06_PostOrder.j3] at H
            by_cases c55 : x110_49 = true
            ·subst c55
             have H1 : (if t211 = 3 then (if t215 = 3 then ((post_Same.f kj49 t193 t197).bind fun t218 => (some t218)) else (some false)) else (some false)) = some r := by rw [if_pos rfl] at H; exact H
             clear H
             have H := H1
             clear H1
             by_cases c56 : t211 = 3
             ·rw [if_pos c56] at H
              have c56b0 : (t211 == 3) = true := beq_iff_eq.mpr c56
              have c56b1 : (t211 != 3) = false := bne_eq_false_iff_eq.mpr c56
              clear c56
              by_cases c57 : t215 = 3
              ·rw [if_pos c57] at H
               have c57b0 : (t215 == 3) = true := beq_iff_eq.mpr c57
               have c57b1 : (t215 != 3) = false := bne_eq_false_iff_eq.mpr c57
               clear c57
               replace H := Option.bind_eq_some_iff.mp H
               obtain ⟨t218, A580, H⟩ := H
               replace H : (some t218) = some r := H
               have A58 := Aside0.mk A580
               clear A580
               obtain rfl := Option.some.inj H
               go_wp2_with (first | (go_at_call 19; (with_reducible refine (post_Same.calls kj49 _ _ t193 _ _ t197 t218 _ ?side1 ?side2 ?side3 ?side4 A58.out).mono ?_); (case side1 => repeat (first | exact (Kd.S_reads' HO_13.out).2.2 | (with_reducible refine Kd.C_alloc ?_ _) | (with_reducible refine Kd.C_drewN ?_ _) | (with_reducible refine Kd.C_drew ?_))); (case side2 => exact (Kd.S_reads' HO_13.out).2.1); (case side3 => repeat (first | exact (Kd.S_reads' HO_15.out).2.2 | (with_reducible refine Kd.C_alloc ?_ _) | (with_reducible refine Kd.C_drewN ?_ _) | (with_reducible refine Kd.C_drew ?_))); (case side4 => exact (Kd.S_reads' HO_15.out).2.1); rintro e w59 ⟨rfl, hb⟩; have n0_ := Aside0.mk (Kd.S_below (by (with_reducible repeat (first | apply Kd.S_alloc | apply Kd.S_drewN | apply Kd.S_drew)); exact HO_13.out) hb); have n1_ := Aside0.mk (Kd.S_below (by (with_reducible repeat (first | apply Kd.S_alloc | apply Kd.S_drewN | apply Kd.S_drew)); exact HO_15.out) hb); have n2_ := Aside0.mk (Kd.S_below (by (with_reducible repeat (first | apply Kd.S_alloc | apply Kd.S_drewN | apply Kd.S_drew)); exact HO_19.out) hb); have n3_ := Aside0.mk (Kd.S_below (by (with_reducible repeat (first | apply Kd.S_alloc | apply Kd.S_drewN | apply Kd.S_drew)); exact HO_21.out) hb); have n4_ := Aside0.mk (below_step (by repeat (first | (with_reducible first | exact HB.out | apply below_alloc | apply pw_below_drewN | apply below_drew1) | exact HB.out)) hb); clear HO_13; clear HO_15; clear HO_19; clear HO_21; clear HB; have HO_13 := n0_; have HO_15 := n1_; have HO_19 := n2_; have HO_21 := n3_; have HB := n4_; clear n0_ n1_ n2_ n3_ n4_; (try clear hb); (try clear hb2); (try clear hk); (try clear hi)))
               go_ret
               exact ⟨by first | rfl | (simp [errW_none, errW_some] <;> rfl) | (simp [*, errW_none, errW_some] <;> rfl), by repeat (first | (with_reducible first | exact HB.out | apply below_alloc | apply pw_below_drewN | apply below_drew1) | exact HB.out)⟩
              ·rw [if_neg c57] at H
               have c57b0 : (t215 == 3) = false := beq_eq_false_iff_ne.mpr c57
               have c57b1 : (t215 != 3) = true := bne_iff_ne.mpr c57
               obtain rfl := Option.some.inj H
               go_wp2
               go_ret
               exact ⟨by first | rfl | (simp [errW_none, errW_some] <;> rfl) | (simp [*, errW_none, errW_some] <;> rfl), by repeat (first | (with_reducible first | exact HB.out | apply below_alloc | apply pw_below_drewN | apply below_drew1) | exact HB.out)⟩
             ·rw [if_neg c56] at H
              have c56b0 : (t211 == 3) = false := beq_eq_false_iff_ne.mpr c56
              have c56b1 : (t211 != 3) = true := bne_iff_ne.mpr c56
              obtain rfl := Option.some.inj H
              go_wp2
              go_ret
              exact ⟨by first | rfl | (simp [errW_none, errW_some] <;> rfl) | (simp [*, errW_none, errW_some] <;> rfl), by repeat (first | (with_reducible first | exact HB.out | apply below_alloc | apply pw_below_drewN | apply below_drew1) | exact HB.out)⟩
            ·replace c55 := Bool.eq_false_iff.mpr c55
             subst c55
             have H1 : (if t211 = 0 then (if t215 = 0 then ((post_Same.f kj49 t210 t214).bind fun t219 => (some t219)) else (some false)) else (some false)) = some r := by rw [if_neg (show ¬ (false = true) by decide)] at H; exact H
             clear H
             have H := H1
             clear H1
             by_cases c60 : t211 = 0
             ·rw [if_pos c60] at H
              have c60b0 : (t211 == 0) = true := beq_iff_eq.mpr c60
              have c60b1 : (t211 != 0) = false := bne_eq_false_iff_eq.mpr c60
              clear c60
              by_cases c61 : t215 = 0
              ·rw [if_pos c61] at H
               have c61b0 : (t215 == 0) = true := beq_iff_eq.mpr c61
               have c61b1 : (t215 != 0) = false := bne_eq_false_iff_eq.mpr c61
               clear c61
               replace H := Option.bind_eq_some_iff.mp H
               obtain ⟨t219, A620, H⟩ := H
               replace H : (some t219) = some r := H
               have A62 := Aside0.mk A620
               clear A620
               obtain rfl := Option.some.inj H
               obtain ⟨Ao63, co63, eo63⟩ := Kd.S_slice HO_19.out
               subst eo63
               obtain ⟨Ao64, co64, eo64⟩ := Kd.S_slice HO_21.out
               subst eo64
               go_wp2_with (first | (go_at_call 19; (with_reducible refine (post_Same.calls kj49 _ _ t210 _ _ t214 t219 _ ?side1 ?side2 ?side3 ?side4 A62.out).mono ?_); (case side1 => repeat (first | exact (Kd.S_reads' HO_19.out).2.2 | (with_reducible refine Kd.C_alloc ?_ _) | (with_reducible refine Kd.C_drewN ?_ _) | (with_reducible refine Kd.C_drew ?_))); (case side2 => exact (Kd.S_reads' HO_19.out).2.1); (case side3 => repeat (first | exact (Kd.S_reads' HO_21.out).2.2 | (with_reducible refine Kd.C_alloc ?_ _) | (with_reducible refine Kd.C_drewN ?_ _) | (with_reducible refine Kd.C_drew ?_))); (case side4 => exact (Kd.S_reads' HO_21.out).2.1); rintro e w65 ⟨rfl, hb⟩; have n0_ := Aside0.mk (Kd.S_below (by (with_reducible repeat (first | apply Kd.S_alloc | apply Kd.S_drewN | apply Kd.S_drew)); exact HO_13.out) hb); have n1_ := Aside0.mk (Kd.S_below (by (with_reducible repeat (first | apply Kd.S_alloc | apply Kd.S_drewN | apply Kd.S_drew)); exact HO_15.out) hb); have n2_ := Aside0.mk (Kd.S_below (by (with_reducible repeat (first | apply Kd.S_alloc | apply Kd.S_drewN | apply Kd.S_drew)); exact HO_19.out) hb); have n3_ := Aside0.mk (Kd.S_below (by (with_reducible repeat (first | apply Kd.S_alloc | apply Kd.S_drewN | apply Kd.S_drew)); exact HO_21.out) hb); have n4_ := Aside0.mk (below_step (by repeat (first | (with_reducible first | exact HB.out | apply below_alloc | apply pw_below_drewN | apply below_drew1) | exact HB.out)) hb); clear HO_13; clear HO_15; clear HO_19; clear HO_21; clear HB; have HO_13 := n0_; have HO_15 := n1_; have HO_19 := n2_; have HO_21 := n3_; have HB := n4_; clear n0_ n1_ n2_ n3_ n4_; (try clear hb); (try clear hb2); (try clear hk); (try clear hi)))
               go_ret
               exact ⟨by first | rfl | (simp [errW_none, errW_some] <;> rfl) | (simp [*, errW_none, errW_some] <;> rfl), by repeat (first | (with_reducible first | exact HB.out | apply below_alloc | apply pw_below_drewN | apply below_drew1) | exact HB.out)⟩
              ·rw [if_neg c61] at H
               have c61b0 : (t215 == 0) = false := beq_eq_false_iff_ne.mpr c61
               have c61b1 : (t215 != 0) = true := bne_iff_ne.mpr c61
               obtain rfl := Option.some.inj H
               go_wp2
               go_ret
               exact ⟨by first | rfl | (simp [errW_none, errW_some] <;> rfl) | (simp [*, errW_none, errW_some] <;> rfl), by repeat (first | (with_reducible first | exact HB.out | apply below_alloc | apply pw_below_drewN | apply below_drew1) | exact HB.out)⟩
             ·rw [if_neg c60] at H
              have c60b0 : (t211 == 0) = false := beq_eq_false_iff_ne.mpr c60
              have c60b1 : (t211 != 0) = true := bne_iff_ne.mpr c60
              obtain rfl := Option.some.inj H
              go_wp2
              go_ret
              exact ⟨by first | rfl | (simp [errW_none, errW_some] <;> rfl) | (simp [*, errW_none, errW_some] <;> rfl), by repeat (first | (with_reducible first | exact HB.out | apply below_alloc | apply pw_below_drewN | apply below_drew1) | exact HB.out)⟩

/-- THE ONE PURE STATEMENT of catchwordlaw06_PostOrder. -/
def catchwordlaw06_PostOrder.Pure : Prop := ∀ (l0 : List (S39)) (a1 : Int) (a2 : Int) (a3 : Int) (a4 : Int), (l0.length * 32 ≤ 140737488351232 ∧ ∀ y0 ∈ l0, ((Lit.int .i64 y0.f0).wf = true ∧ (y0.f1.length * 8 ≤ 140737488351232 ∧ ∀ y1 ∈ y0.f1, (Lit.int .i64 y1).wf = true))) → (Lit.int .i64 a1).wf = true → (Lit.int .i64 a2).wf = true → (Lit.int .i64 a3).wf = true → (Lit.int .i64 a4).wf = true → ∃ k, catchwordlaw06_PostOrder.f k l0 a1 a2 a3 a4 = some true

end Go.Proofs.Ytepmcdcncjimeaa.PPostOrder
