-- LAID BY this session's own printer (wip/pr): Lean checks it
import Derived.Test.YtepmcdcncjimeaaPPostSeeksx0
import Derived.Test.YtepmcdcncjimeaaPPostSeeksx4
import Derived.Test.YtepmcdcncjimeaaPPostSeeksx8
import Derived.Test.YtepmcdcncjimeaaPPostSeeksx9
import Derived.Test.YtepmcdcncjimeaaPPostSeeksx11
import Derived.Test.YtepmcdcncjimeaaPPostSeeksx12
import Derived.Deep.RegionLaw
import Derived.Deep.RegionWith
import Derived.RangeFuncNested
import Derived.RangeFuncBound
import Derived.RangeFuncCalls
import Derived.RangeFuncLeaves
import Derived.RangeFuncFrom
import Derived.RangeFuncWrites
import Derived.RangeFuncBox
import Derived.Sort.LoopGhostIn
import Derived.OrdersIn
import Derived.TacticsInMore
import Derived.Shelf.Spec.SlicesInsert
import Derived.Shelf.Spec.SlicesInsertGrow
import Derived.Shelf.Abstract
import Derived.Test.YtepmcdcncjimeaaVListPostSeeksU
namespace Go.Proofs.Ytepmcdcncjimeaa.PPostSeeks
open Go.RowKit Go.Proofs.YtepmcdcncjimeaaW.PrintWords Go.Proofs.YtepmcdcncjimeaaW.PrintLast Go.Proofs.YtepmcdcncjimeaaW.PrintMore
attribute [local go_sem] max2_int min2_int max_two min_two max_three min_three max_four min_four   -- for this text's walks alone
set_option linter.unusedVariables false
set_option linter.unusedSimpArgs false

/-! ### catchwordref06_read: function 49 -/
mutual
def catchwordref06_read.l0 : Nat → List Int → Int → Int → Int → List (S39) → Int → Int → Option ((List (S39)) × Bool)
 | 0, _, _, _, _, _, _, _ => none
 | k + 1, x0, x4, x5, x6, x7, x8, x9 => if x9 < x4 then (catchwordref06_read.j1 k x0 x4 x5 x6 x7 x8 x9 (x6 == 0)) else (catchwordref06_read.j1 k x0 x4 x5 x6 x7 x8 x9 false)
def catchwordref06_read.j1 : Nat → List Int → Int → Int → Int → List (S39) → Int → Int → Bool → Option ((List (S39)) × Bool)
 | 0, _, _, _, _, _, _, _, _ => none
 | k + 1, x0, x4, x5, x6, x7, x8, x9, x34 => if x34 = true then (if x9 ≥ 64 then (some (([] : List (S39)), false)) else (if (Int.tmod x9 4) = 0 then ((catchwordref01_Get.f k x0 x5).bind fun bt304 => ((catchwordref01_Get.f k x0 bt304.2.1).bind fun bt307 => (if bt304.2.2 = 0 then (if bt307.2.2 = 0 then (catchwordref06_read.j2 k x0 x4 bt307.2.1 x6 x7 x8 x9) else (some (([] : List (S39)), false))) else (some (([] : List (S39)), false))))) else (catchwordref06_read.j2 k x0 x4 x5 x6 x7 x8 x9))) else (some (x7, (x6 == 0)))
def catchwordref06_read.j2 : Nat → List Int → Int → Int → Int → List (S39) → Int → Int → Option ((List (S39)) × Bool)
 | 0, _, _, _, _, _, _, _ => none
 | k + 1, x0, x4, x5, x6, x7, x8, x9 => (catchwordref01_Get.f k x0 x5).bind fun bt310 => ((catchwordref01_Read.f k x0 bt310.2.1).bind fun bt313 => (if bt310.2.2 = 0 then (if bt313.2.2 = 0 then (if x7.length < 4398046511104 then (catchwordref06_read.l0 k x0 x4 bt313.2.1 x6 (x7 ++ [(⟨wrap64 ((wrap64 (x8 + 1)) + bt310.1), bt313.1⟩ : S39)]) (wrap64 ((wrap64 (x8 + 1)) + bt310.1)) (wrap64 (x9 + 1))) else (none)) else (some (([] : List (S39)), false))) else (some (([] : List (S39)), false))))
end
def catchwordref06_read.f (k : Nat) (l0 : List Int) : Option ((List (S39)) × Bool) := (catchwordref01_Get.f k l0 0).bind fun bt301 => (catchwordref06_read.l0 k l0 bt301.1 bt301.2.1 bt301.2.2 ([] : List (S39)) (-1) 0)
theorem catchwordref06_read.mono_l : ∀ k, (∀ y0 y1 y2 y3 y4 y5 y6, LeO (catchwordref06_read.l0 k y0 y1 y2 y3 y4 y5 y6) (catchwordref06_read.l0 (k + 1) y0 y1 y2 y3 y4 y5 y6)) ∧ (∀ y0 y1 y2 y3 y4 y5 y6 y7, LeO (catchwordref06_read.j1 k y0 y1 y2 y3 y4 y5 y6 y7) (catchwordref06_read.j1 (k + 1) y0 y1 y2 y3 y4 y5 y6 y7)) ∧ (∀ y0 y1 y2 y3 y4 y5 y6, LeO (catchwordref06_read.j2 k y0 y1 y2 y3 y4 y5 y6) (catchwordref06_read.j2 (k + 1) y0 y1 y2 y3 y4 y5 y6))
 | 0 => ⟨fun _ _ _ _ _ _ _ r h => by simp [catchwordref06_read.l0] at h, fun _ _ _ _ _ _ _ _ r h => by simp [catchwordref06_read.j1] at h, fun _ _ _ _ _ _ _ r h => by simp [catchwordref06_read.j2] at h⟩
 | k + 1 => by
  obtain ⟨ih0, ih1, ih2⟩ := catchwordref06_read.mono_l k
  refine ⟨?_, ?_, ?_⟩
  ·intro y0 y1 y2 y3 y4 y5 y6
   unfold catchwordref06_read.l0
   repeat' first
   | (with_reducible exact ih0 _ _ _ _ _ _ _)
   | (with_reducible exact ih1 _ _ _ _ _ _ _ _)
   | (with_reducible exact ih2 _ _ _ _ _ _ _)
   | (with_reducible exact catchwordref01_Get.mono _ _ _)
   | (with_reducible exact catchwordref01_Read.mono _ _ _)
   | (with_reducible exact LeO.refl _)
   | (with_reducible exact LeO.none _)
   | (with_reducible refine LeO.ite ?_ ?_)
   | (with_reducible refine LeO.bind ?_ (fun _ => ?_))
   | exact ih0 _ _ _ _ _ _ _
   | exact ih1 _ _ _ _ _ _ _ _
   | exact ih2 _ _ _ _ _ _ _
   | exact catchwordref01_Get.mono _ _ _
   | exact catchwordref01_Read.mono _ _ _
   | exact LeO.none _
   | refine LeO.ite ?_ ?_
   | refine LeO.bind ?_ (fun _ => ?_)
  ·intro y0 y1 y2 y3 y4 y5 y6 y7
   unfold catchwordref06_read.j1
   repeat' first
   | (with_reducible exact ih0 _ _ _ _ _ _ _)
   | (with_reducible exact ih1 _ _ _ _ _ _ _ _)
   | (with_reducible exact ih2 _ _ _ _ _ _ _)
   | (with_reducible exact catchwordref01_Get.mono _ _ _)
   | (with_reducible exact catchwordref01_Read.mono _ _ _)
   | (with_reducible exact LeO.refl _)
   | (with_reducible exact LeO.none _)
   | (with_reducible refine LeO.ite ?_ ?_)
   | (with_reducible refine LeO.bind ?_ (fun _ => ?_))
   | exact ih0 _ _ _ _ _ _ _
   | exact ih1 _ _ _ _ _ _ _ _
   | exact ih2 _ _ _ _ _ _ _
   | exact catchwordref01_Get.mono _ _ _
   | exact catchwordref01_Read.mono _ _ _
   | exact LeO.none _
   | refine LeO.ite ?_ ?_
   | refine LeO.bind ?_ (fun _ => ?_)
  ·intro y0 y1 y2 y3 y4 y5 y6
   unfold catchwordref06_read.j2
   repeat' first
   | (with_reducible exact ih0 _ _ _ _ _ _ _)
   | (with_reducible exact ih1 _ _ _ _ _ _ _ _)
   | (with_reducible exact ih2 _ _ _ _ _ _ _)
   | (with_reducible exact catchwordref01_Get.mono _ _ _)
   | (with_reducible exact catchwordref01_Read.mono _ _ _)
   | (with_reducible exact LeO.refl _)
   | (with_reducible exact LeO.none _)
   | (with_reducible refine LeO.ite ?_ ?_)
   | (with_reducible refine LeO.bind ?_ (fun _ => ?_))
   | exact ih0 _ _ _ _ _ _ _
   | exact ih1 _ _ _ _ _ _ _ _
   | exact ih2 _ _ _ _ _ _ _
   | exact catchwordref01_Get.mono _ _ _
   | exact catchwordref01_Read.mono _ _ _
   | exact LeO.none _
   | refine LeO.ite ?_ ?_
   | refine LeO.bind ?_ (fun _ => ?_)
theorem catchwordref06_read.mono : ∀ a0 k, LeO (catchwordref06_read.f k a0) (catchwordref06_read.f (k + 1) a0) := by
 intro a0 k
 obtain ⟨ih0, ih1, ih2⟩ := catchwordref06_read.mono_l k
 unfold catchwordref06_read.f
 repeat' first
   | (with_reducible exact ih0 _ _ _ _ _ _ _)
   | (with_reducible exact ih1 _ _ _ _ _ _ _ _)
   | (with_reducible exact ih2 _ _ _ _ _ _ _)
   | (with_reducible exact catchwordref01_Get.mono _ _ _)
   | (with_reducible exact catchwordref01_Read.mono _ _ _)
   | (with_reducible exact LeO.refl _)
   | (with_reducible exact LeO.none _)
   | (with_reducible refine LeO.ite ?_ ?_)
   | (with_reducible refine LeO.bind ?_ (fun _ => ?_))
   | exact ih0 _ _ _ _ _ _ _
   | exact ih1 _ _ _ _ _ _ _ _
   | exact ih2 _ _ _ _ _ _ _
   | exact catchwordref01_Get.mono _ _ _
   | exact catchwordref01_Read.mono _ _ _
   | exact LeO.none _
   | refine LeO.ite ?_ ?_
   | refine LeO.bind ?_ (fun _ => ?_)
set_option maxHeartbeats 8000000 in
set_option maxRecDepth 100000 in
theorem catchwordref06_read.calls (k : Nat) (A0 : Option Addr) (c0 : Nat) (l0 : List Int) (r1 : List (S39)) (r2 : Bool) (w : World) (hr0 : Kd.C (Kd.int .u8) w A0 l0.length l0) (hc0 : l0.length ≤ c0) (h : catchwordref06_read.f k l0 = some (r1, r2)) :
  Calls Try.prog 49 #[.slice A0 l0.length c0] w fun e w' => ∃ v0_ : Value, e = .returned (.tuple #[v0_, .bool r2]) ∧ Kd.S k39 39 w' w.heap.size (fun _ => True) v0_ r1 ∧ Below w.heap.size w w' := by
 have hu39 := Try.underlying39
 have HR0 := Aside0.mk hr0
 have HC0 := Aside0.mk hc0
 clear hr0 hc0
 have HB := Aside0.mk (Below.refl w.heap.size w)
 have H : ((catchwordref01_Get.f k l0 0).bind fun bt301 => (catchwordref06_read.l0 k l0 bt301.1 bt301.2.1 bt301.2.2 ([] : List (S39)) (-1) 0)) = some (r1, r2) := h
 clear h
 replace H := Option.bind_eq_some_iff.mp H
 obtain ⟨⟨t301, t302, t303⟩, A20, H⟩ := H
 replace H : (catchwordref06_read.l0 k l0 t301 t302 t303 ([] : List (S39)) (-1) 0) = some (r1, r2) := H
 have A2 := Aside0.mk A20
 clear A20
 have H' := Aside0.mk H
 clear H
 go_enter Try.func49, Try.ntmps49
 go_wp2_with (first | ((with_reducible refine gate_callee (f := 67) rfl ?_); refine goesL_ (some 24) rfl rfl Try.func67 (by kernel_rfl) rfl #[.slice A0 l0.length c0, .int .i64 0] rfl (by (try simp only [List.map_toArray, List.map_cons, List.map_nil]); first | done | rfl | (simp only [List.length_drop, List.length_take]; rfl)) ?_; (with_reducible refine (catchwordref01_Get.calls k _ _ l0 0 t301 t302 t303 _ ?side1 ?side2 A2.out).mono ?_); (case side1 => repeat (first | exact HR0.out | (with_reducible refine Kd.C_alloc ?_ _) | (with_reducible refine Kd.C_drewN ?_ _) | (with_reducible refine Kd.C_drew ?_))); (case side2 => exact HC0.out); rintro e w3 ⟨rfl, hb⟩; refine ⟨_, rfl, ?_⟩; have n0_ := Aside0.mk (below_step (by repeat (first | (with_reducible first | exact HB.out | apply below_alloc | apply pw_below_drewN | apply below_drew1) | exact HB.out)) hb); clear HB; have HB := n0_; clear n0_; (try clear hb); (try clear hb2); (try clear hk); (try clear hi)))
 go_loopg [5, 7, 8, 9] k (fun kq v5 v7 v8 v9 w' => ∃ (x5_1 : Int) (x7_1 : List (S39)) (x8_1 : Int) (x9_1 : Int), v5 = .int .i64 x5_1 ∧ v8 = .int .i64 x8_1 ∧ v9 = .int .i64 x9_1 ∧ Aside0 (catchwordref06_read.l0 kq l0 t301 x5_1 t303 x7_1 x8_1 x9_1 = some (r1, r2)) ∧ Aside0 (kq ≤ k) ∧ Aside0 (Kd.S k39 39 w' w.heap.size (fun _ => True) v7 x7_1) ∧ Aside0 (Below w.heap.size w w'))
 case atStart => exact ⟨(t302), (([] : List (S39))), ((-1)), (0), (by first | rfl | (simp; done) | (simp [*]; done)), (by first | rfl | (simp; done) | (simp [*]; done)), (by first | rfl | (simp; done) | (simp [*]; done)), H', ⟨Nat.le_refl _⟩, ⟨by first | exact Kd.S_nil _ _ _ _ _ | exact Kd.N_nil _ _ _ _ _ | exact Kd.V_nil _ _ _ _ _ | exact Kd.Q_nil _ _ _ _ _ | exact Kd.R_nil _ _ _ _ _⟩, ⟨by repeat (first | (with_reducible first | exact HB.out | apply below_alloc | apply pw_below_drewN | apply below_drew1) | exact HB.out)⟩⟩
 case round =>
  clear H'
  try clear p2
  obtain ⟨x5_1, x7_1, x8_1, x9_1, rfl, rfl, rfl, HA, HK1, HO_7, HB⟩ := hrel
  cases gk with
  | zero => exact absurd HA.out (by simp [catchwordref06_read.l0])
  | succ k1 =>
   have H := HA.out
   clear HA
   simp only [catchwordref06_read.l0] at H
   have HC4 := Aside0.mk H
   clear H
   go_upto_region 5 with (fail)
   go_cut [34] (fun v34 wc => ∃ (kq : Nat) (x34_3 : Bool), v34 = .bool x34_3 ∧ Aside0 (catchwordref06_read.j1 kq l0 t301 x5_1 t303 x7_1 x8_1 x9_1 x34_3 = some (r1, r2)) ∧ Aside0 (kq ≤ k1) ∧ Aside0 (Kd.S k39 39 wc w.heap.size (fun _ => True) u7 x7_1) ∧ Aside0 (Below w.heap.size w wc))
   case first =>
    have H := HC4.out
    clear HC4
    by_cases c5 : x9_1 < t301
    ·rw [if_pos c5] at H
     have c5b0 : decide (x9_1 < t301) = true := decide_eq_true c5
     clear c5
     (first | rw [c5b0] | (simp only [i64_w, i32_w]; rw [c5b0]) | skip)
     have H' := Aside0.mk H
     clear H
     go_wp2
     go_meet
     case rel => exact ⟨_, ((t303 == 0)), (by first | rfl | (simp; done) | (simp [*]; done)), H', ⟨by have := HK1.out; first | omega | exact Nat.le_refl _⟩, ⟨by (with_reducible repeat (first | apply Kd.S_alloc | apply Kd.S_drewN | apply Kd.S_drew)); exact HO_7.out⟩, ⟨by repeat (first | (with_reducible first | exact HB.out | apply below_alloc | apply pw_below_drewN | apply below_drew1) | exact HB.out)⟩⟩
    ·rw [if_neg c5] at H
     have c5b0 : decide (x9_1 < t301) = false := decide_eq_false c5
     clear c5
     (first | rw [c5b0] | (simp only [i64_w, i32_w]; rw [c5b0]) | skip)
     have H' := Aside0.mk H
     clear H
     go_wp2
     go_meet
     case rel => exact ⟨_, (false), (by first | rfl | (simp; done) | (simp [*]; done)), H', ⟨by have := HK1.out; first | omega | exact Nat.le_refl _⟩, ⟨by (with_reducible repeat (first | apply Kd.S_alloc | apply Kd.S_drewN | apply Kd.S_drew)); exact HO_7.out⟩, ⟨by repeat (first | (with_reducible first | exact HB.out | apply below_alloc | apply pw_below_drewN | apply below_drew1) | exact HB.out)⟩⟩
   case rest =>
    clear HC4
    try clear p2
    try clear c4
    try clear c5
    try clear c5b0
    try clear p2
    obtain ⟨kq, x34_3, rfl, HA, HJ3, HO_7, HB⟩ := hcut
    cases kq with
    | zero => exact absurd HA.out (by simp [catchwordref06_read.j1])
    | succ kj3 =>
     have H := HA.out
     clear HA
     simp only [catchwordref06_read.j1] at H
     by_cases c6 : x34_3 = true
     ·subst c6
      have H1 : (if x9_1 ≥ 64 then (some (([] : List (S39)), false)) else (if (Int.tmod x9_1 4) = 0 then ((catchwordref01_Get.f kj3 l0 x5_1).bind fun bt304 => ((catchwordref01_Get.f kj3 l0 bt304.2.1).bind fun bt307 => (if bt304.2.2 = 0 then (if bt307.2.2 = 0 then (catchwordref06_read.j2 kj3 l0 t301 bt307.2.1 t303 x7_1 x8_1 x9_1) else (some (([] : List (S39)), false))) else (some (([] : List (S39)), false))))) else (catchwordref06_read.j2 kj3 l0 t301 x5_1 t303 x7_1 x8_1 x9_1))) = some (r1, r2) := by rw [if_pos rfl] at H; exact H
      clear H
      have H := H1
      clear H1
      by_cases c7 : x9_1 ≥ 64
      ·rw [if_pos c7] at H
       have c7b0 : decide (64 ≤ x9_1) = true := decide_eq_true c7
       clear c7
       simp only [Option.some.injEq, Prod.mk.injEq] at H
       obtain ⟨rfl, rfl⟩ := H
       go_wp2
       go_ret2
       exact ⟨_, by first | rfl | (simp [errW_none, errW_some] <;> rfl) | (simp [*, errW_none, errW_some] <;> rfl), by first | exact Kd.S_nil _ _ _ _ _ | exact Kd.N_nil _ _ _ _ _ | exact Kd.V_nil _ _ _ _ _ | exact Kd.Q_nil _ _ _ _ _ | exact Kd.R_nil _ _ _ _ _, by repeat (first | (with_reducible first | exact HB.out | apply below_alloc | apply pw_below_drewN | apply below_drew1) | exact HB.out)⟩
      ·rw [if_neg c7] at H
       have c7b0 : decide (64 ≤ x9_1) = false := decide_eq_false c7
       clear c7
       have HC8 := Aside0.mk H
       clear H
       go_upto_if 41 with (fail)
       go_cut [5] (fun v5 wc => ∃ (kq : Nat) (x5_7 : Int), v5 = .int .i64 x5_7 ∧ Aside0 (catchwordref06_read.j2 kq l0 t301 x5_7 t303 x7_1 x8_1 x9_1 = some (r1, r2)) ∧ Aside0 (kq ≤ kj3) ∧ Aside0 (Kd.S k39 39 wc w.heap.size (fun _ => True) u7 x7_1) ∧ Aside0 (Below w.heap.size w wc))
       case first =>
        have H := HC8.out
        clear HC8
        by_cases c9 : (Int.tmod x9_1 4) = 0
        ·rw [if_pos c9] at H
         have c9b0 : ((Int.tmod x9_1 4) == 0) = true := beq_iff_eq.mpr c9
         have c9b1 : ((Int.tmod x9_1 4) != 0) = false := bne_eq_false_iff_eq.mpr c9
         clear c9
         (first | rw [c9b0] | (simp only [i64_w, i32_w]; rw [c9b0]) | skip)
         replace H := Option.bind_eq_some_iff.mp H
         obtain ⟨⟨t304, t305, t306⟩, A100, H⟩ := H
         replace H : ((catchwordref01_Get.f kj3 l0 t305).bind fun bt307 => (if t306 = 0 then (if bt307.2.2 = 0 then (catchwordref06_read.j2 kj3 l0 t301 bt307.2.1 t303 x7_1 x8_1 x9_1) else (some (([] : List (S39)), false))) else (some (([] : List (S39)), false)))) = some (r1, r2) := H
         have A10 := Aside0.mk A100
         clear A100
         replace H := Option.bind_eq_some_iff.mp H
         obtain ⟨⟨t307, t308, t309⟩, A110, H⟩ := H
         replace H : (if t306 = 0 then (if t309 = 0 then (catchwordref06_read.j2 kj3 l0 t301 t308 t303 x7_1 x8_1 x9_1) else (some (([] : List (S39)), false))) else (some (([] : List (S39)), false))) = some (r1, r2) := H
         have A11 := Aside0.mk A110
         clear A110
         by_cases c12 : t306 = 0
         ·rw [if_pos c12] at H
          have c12b0 : (t306 == 0) = true := beq_iff_eq.mpr c12
          have c12b1 : (t306 != 0) = false := bne_eq_false_iff_eq.mpr c12
          clear c12
          by_cases c13 : t309 = 0
          ·rw [if_pos c13] at H
           have c13b0 : (t309 == 0) = true := beq_iff_eq.mpr c13
           have c13b1 : (t309 != 0) = false := bne_eq_false_iff_eq.mpr c13
           clear c13
           have H' := Aside0.mk H
           clear H
           go_wp2_with (first | ((with_reducible refine gate_callee (f := 67) rfl ?_); refine goesL_ (some 45) rfl rfl Try.func67 (by kernel_rfl) rfl #[.slice A0 l0.length c0, .int .i64 x5_1] rfl (by (try simp only [List.map_toArray, List.map_cons, List.map_nil]); first | done | rfl | (simp only [List.length_drop, List.length_take]; rfl)) ?_; (with_reducible refine (catchwordref01_Get.calls kj3 _ _ l0 x5_1 t304 t305 t306 _ ?side1 ?side2 A10.out).mono ?_); (case side1 => repeat (first | exact (Kd.C_below HR0.out HB.out) | (with_reducible refine Kd.C_alloc ?_ _) | (with_reducible refine Kd.C_drewN ?_ _) | (with_reducible refine Kd.C_drew ?_))); (case side2 => exact HC0.out); rintro e w14 ⟨rfl, hb⟩; refine ⟨_, rfl, ?_⟩; have n0_ := Aside0.mk (Kd.S_below (by (with_reducible repeat (first | apply Kd.S_alloc | apply Kd.S_drewN | apply Kd.S_drew)); exact HO_7.out) hb); have n1_ := Aside0.mk (below_step (by repeat (first | (with_reducible first | exact HB.out | apply below_alloc | apply pw_below_drewN | apply below_drew1) | exact HB.out)) hb); clear HO_7; clear HB; have HO_7 := n0_; have HB := n1_; clear n0_ n1_; (try clear hb); (try clear hb2); (try clear hk); (try clear hi)) | ((with_reducible refine gate_callee (f := 67) rfl ?_); refine goesL_ (some 52) rfl rfl Try.func67 (by kernel_rfl) rfl #[.slice A0 l0.length c0, .int .i64 t305] rfl (by (try simp only [List.map_toArray, List.map_cons, List.map_nil]); first | done | rfl | (simp only [List.length_drop, List.length_take]; rfl)) ?_; (with_reducible refine (catchwordref01_Get.calls kj3 _ _ l0 t305 t307 t308 t309 _ ?side1 ?side2 A11.out).mono ?_); (case side1 => repeat (first | exact (Kd.C_below HR0.out HB.out) | (with_reducible refine Kd.C_alloc ?_ _) | (with_reducible refine Kd.C_drewN ?_ _) | (with_reducible refine Kd.C_drew ?_))); (case side2 => exact HC0.out); rintro e w15 ⟨rfl, hb⟩; refine ⟨_, rfl, ?_⟩; have n0_ := Aside0.mk (Kd.S_below (by (with_reducible repeat (first | apply Kd.S_alloc | apply Kd.S_drewN | apply Kd.S_drew)); exact HO_7.out) hb); have n1_ := Aside0.mk (below_step (by repeat (first | (with_reducible first | exact HB.out | apply below_alloc | apply pw_below_drewN | apply below_drew1) | exact HB.out)) hb); clear HO_7; clear HB; have HO_7 := n0_; have HB := n1_; clear n0_ n1_; (try clear hb); (try clear hb2); (try clear hk); (try clear hi)))
           go_meet
           case rel => exact ⟨_, (t308), (by first | rfl | (simp; done) | (simp [*]; done)), H', ⟨by have := HK1.out; have := HJ3.out; first | omega | exact Nat.le_refl _⟩, ⟨by (with_reducible repeat (first | apply Kd.S_alloc | apply Kd.S_drewN | apply Kd.S_drew)); exact HO_7.out⟩, ⟨by repeat (first | (with_reducible first | exact HB.out | apply below_alloc | apply pw_below_drewN | apply below_drew1) | exact HB.out)⟩⟩
          ·rw [if_neg c13] at H
           have c13b0 : (t309 == 0) = false := beq_eq_false_iff_ne.mpr c13
           have c13b1 : (t309 != 0) = true := bne_iff_ne.mpr c13
           simp only [Option.some.injEq, Prod.mk.injEq] at H
           obtain ⟨rfl, rfl⟩ := H
           go_wp2_with (first | ((with_reducible refine gate_callee (f := 67) rfl ?_); refine goesL_ (some 45) rfl rfl Try.func67 (by kernel_rfl) rfl #[.slice A0 l0.length c0, .int .i64 x5_1] rfl (by (try simp only [List.map_toArray, List.map_cons, List.map_nil]); first | done | rfl | (simp only [List.length_drop, List.length_take]; rfl)) ?_; (with_reducible refine (catchwordref01_Get.calls kj3 _ _ l0 x5_1 t304 t305 t306 _ ?side1 ?side2 A10.out).mono ?_); (case side1 => repeat (first | exact (Kd.C_below HR0.out HB.out) | (with_reducible refine Kd.C_alloc ?_ _) | (with_reducible refine Kd.C_drewN ?_ _) | (with_reducible refine Kd.C_drew ?_))); (case side2 => exact HC0.out); rintro e w16 ⟨rfl, hb⟩; refine ⟨_, rfl, ?_⟩; have n0_ := Aside0.mk (Kd.S_below (by (with_reducible repeat (first | apply Kd.S_alloc | apply Kd.S_drewN | apply Kd.S_drew)); exact HO_7.out) hb); have n1_ := Aside0.mk (below_step (by repeat (first | (with_reducible first | exact HB.out | apply below_alloc | apply pw_below_drewN | apply below_drew1) | exact HB.out)) hb); clear HO_7; clear HB; have HO_7 := n0_; have HB := n1_; clear n0_ n1_; (try clear hb); (try clear hb2); (try clear hk); (try clear hi)) | ((with_reducible refine gate_callee (f := 67) rfl ?_); refine goesL_ (some 52) rfl rfl Try.func67 (by kernel_rfl) rfl #[.slice A0 l0.length c0, .int .i64 t305] rfl (by (try simp only [List.map_toArray, List.map_cons, List.map_nil]); first | done | rfl | (simp only [List.length_drop, List.length_take]; rfl)) ?_; (with_reducible refine (catchwordref01_Get.calls kj3 _ _ l0 t305 t307 t308 t309 _ ?side1 ?side2 A11.out).mono ?_); (case side1 => repeat (first | exact (Kd.C_below HR0.out HB.out) | (with_reducible refine Kd.C_alloc ?_ _) | (with_reducible refine Kd.C_drewN ?_ _) | (with_reducible refine Kd.C_drew ?_))); (case side2 => exact HC0.out); rintro e w17 ⟨rfl, hb⟩; refine ⟨_, rfl, ?_⟩; have n0_ := Aside0.mk (Kd.S_below (by (with_reducible repeat (first | apply Kd.S_alloc | apply Kd.S_drewN | apply Kd.S_drew)); exact HO_7.out) hb); have n1_ := Aside0.mk (below_step (by repeat (first | (with_reducible first | exact HB.out | apply below_alloc | apply pw_below_drewN | apply below_drew1) | exact HB.out)) hb); clear HO_7; clear HB; have HO_7 := n0_; have HB := n1_; clear n0_ n1_; (try clear hb); (try clear hb2); (try clear hk); (try clear hi)))
           go_ret2
           exact ⟨_, by first | rfl | (simp [errW_none, errW_some] <;> rfl) | (simp [*, errW_none, errW_some] <;> rfl), by first | exact Kd.S_nil _ _ _ _ _ | exact Kd.N_nil _ _ _ _ _ | exact Kd.V_nil _ _ _ _ _ | exact Kd.Q_nil _ _ _ _ _ | exact Kd.R_nil _ _ _ _ _, by repeat (first | (with_reducible first | exact HB.out | apply below_alloc | apply pw_below_drewN | apply below_drew1) | exact HB.out)⟩
         ·rw [if_neg c12] at H
          have c12b0 : (t306 == 0) = false := beq_eq_false_iff_ne.mpr c12
          have c12b1 : (t306 != 0) = true := bne_iff_ne.mpr c12
          simp only [Option.some.injEq, Prod.mk.injEq] at H
          obtain ⟨rfl, rfl⟩ := H
          go_wp2_with (first | ((with_reducible refine gate_callee (f := 67) rfl ?_); refine goesL_ (some 45) rfl rfl Try.func67 (by kernel_rfl) rfl #[.slice A0 l0.length c0, .int .i64 x5_1] rfl (by (try simp only [List.map_toArray, List.map_cons, List.map_nil]); first | done | rfl | (simp only [List.length_drop, List.length_take]; rfl)) ?_; (with_reducible refine (catchwordref01_Get.calls kj3 _ _ l0 x5_1 t304 t305 t306 _ ?side1 ?side2 A10.out).mono ?_); (case side1 => repeat (first | exact (Kd.C_below HR0.out HB.out) | (with_reducible refine Kd.C_alloc ?_ _) | (with_reducible refine Kd.C_drewN ?_ _) | (with_reducible refine Kd.C_drew ?_))); (case side2 => exact HC0.out); rintro e w18 ⟨rfl, hb⟩; refine ⟨_, rfl, ?_⟩; have n0_ := Aside0.mk (Kd.S_below (by (with_reducible repeat (first | apply Kd.S_alloc | apply Kd.S_drewN | apply Kd.S_drew)); exact HO_7.out) hb); have n1_ := Aside0.mk (below_step (by repeat (first | (with_reducible first | exact HB.out | apply below_alloc | apply pw_below_drewN | apply below_drew1) | exact HB.out)) hb); clear HO_7; clear HB; have HO_7 := n0_; have HB := n1_; clear n0_ n1_; (try clear hb); (try clear hb2); (try clear hk); (try clear hi)) | ((with_reducible refine gate_callee (f := 67) rfl ?_); refine goesL_ (some 52) rfl rfl Try.func67 (by kernel_rfl) rfl #[.slice A0 l0.length c0, .int .i64 t305] rfl (by (try simp only [List.map_toArray, List.map_cons, List.map_nil]); first | done | rfl | (simp only [List.length_drop, List.length_take]; rfl)) ?_; (with_reducible refine (catchwordref01_Get.calls kj3 _ _ l0 t305 t307 t308 t309 _ ?side1 ?side2 A11.out).mono ?_); (case side1 => repeat (first | exact (Kd.C_below HR0.out HB.out) | (with_reducible refine Kd.C_alloc ?_ _) | (with_reducible refine Kd.C_drewN ?_ _) | (with_reducible refine Kd.C_drew ?_))); (case side2 => exact HC0.out); rintro e w19 ⟨rfl, hb⟩; refine ⟨_, rfl, ?_⟩; have n0_ := Aside0.mk (Kd.S_below (by (with_reducible repeat (first | apply Kd.S_alloc | apply Kd.S_drewN | apply Kd.S_drew)); exact HO_7.out) hb); have n1_ := Aside0.mk (below_step (by repeat (first | (with_reducible first | exact HB.out | apply below_alloc | apply pw_below_drewN | apply below_drew1) | exact HB.out)) hb); clear HO_7; clear HB; have HO_7 := n0_; have HB := n1_; clear n0_ n1_; (try clear hb); (try clear hb2); (try clear hk); (try clear hi)))
          go_ret2
          exact ⟨_, by first | rfl | (simp [errW_none, errW_some] <;> rfl) | (simp [*, errW_none, errW_some] <;> rfl), by first | exact Kd.S_nil _ _ _ _ _ | exact Kd.N_nil _ _ _ _ _ | exact Kd.V_nil _ _ _ _ _ | exact Kd.Q_nil _ _ _ _ _ | exact Kd.R_nil _ _ _ _ _, by repeat (first | (with_reducible first | exact HB.out | apply below_alloc | apply pw_below_drewN | apply below_drew1) | exact HB.out)⟩
        ·rw [if_neg c9] at H
         have c9b0 : ((Int.tmod x9_1 4) == 0) = false := beq_eq_false_iff_ne.mpr c9
         have c9b1 : ((Int.tmod x9_1 4) != 0) = true := bne_iff_ne.mpr c9
         (first | rw [c9b0] | (simp only [i64_w, i32_w]; rw [c9b0]) | skip)
         have H' := Aside0.mk H
         clear H
         go_wp2
         go_meet
         case rel => exact ⟨_, (x5_1), (by first | rfl | (simp; done) | (simp [*]; done)), H', ⟨by have := HK1.out; have := HJ3.out; first | omega | exact Nat.le_refl _⟩, ⟨by (with_reducible repeat (first | apply Kd.S_alloc | apply Kd.S_drewN | apply Kd.S_drew)); exact HO_7.out⟩, ⟨by repeat (first | (with_reducible first | exact HB.out | apply below_alloc | apply pw_below_drewN | apply below_drew1) | exact HB.out)⟩⟩
       case rest =>
        clear HC8
        try clear c1
        try clear p2
        try clear c4
        try clear c5
        try clear c5b0
        try clear c6
        try clear c7
        try clear c7b0
        try clear c9
        try clear c9b0
        try clear c9b1
        try clear c12
        try clear c12b0
        try clear c12b1
        try clear c13
        try clear c13b0
        try clear c13b1
        try clear p2
        obtain ⟨kq, x5_7, rfl, HA, HJ7, HO_7, HB⟩ := hcut
        cases kq with
        | zero => exact absurd HA.out (by simp [catchwordref06_read.j2])
        | succ kj7 =>
         have H := HA.out
         clear HA
         simp only [catchwordref06_read.j2] at H
         replace H := Option.bind_eq_some_iff.mp H
         obtain ⟨⟨t310, t311, t312⟩, A200, H⟩ := H
         replace H : ((catchwordref01_Read.f kj7 l0 t311).bind fun bt313 => (if t312 = 0 then (if bt313.2.2 = 0 then (if x7_1.length < 4398046511104 then (catchwordref06_read.l0 kj7 l0 t301 bt313.2.1 t303 (x7_1 ++ [(⟨wrap64 ((wrap64 (x8_1 + 1)) + t310), bt313.1⟩ : S39)]) (wrap64 ((wrap64 (x8_1 + 1)) + t310)) (wrap64 (x9_1 + 1))) else (none)) else (some (([] : List (S39)), false))) else (some (([] : List (S39)), false)))) = some (r1, r2) := H
         have A20 := Aside0.mk A200
         clear A200
         replace H := Option.bind_eq_some_iff.mp H
         obtain ⟨⟨t313, t314, t315⟩, A210, H⟩ := H
         replace H : (if t312 = 0 then (if t315 = 0 then (if x7_1.length < 4398046511104 then (catchwordref06_read.l0 kj7 l0 t301 t314 t303 (x7_1 ++ [(⟨wrap64 ((wrap64 (x8_1 + 1)) + t310), t313⟩ : S39)]) (wrap64 ((wrap64 (x8_1 + 1)) + t310)) (wrap64 (x9_1 + 1))) else (none)) else (some (([] : List (S39)), false))) else (some (([] : List (S39)), false))) = some (r1, r2) := H
         have A21 := Aside0.mk A210
         clear A210
         by_cases c22 : t312 = 0
         ·rw [if_pos c22] at H
          have c22b0 : (t312 == 0) = true := beq_iff_eq.mpr c22
          have c22b1 : (t312 != 0) = false := bne_eq_false_iff_eq.mpr c22
          clear c22
          by_cases c23 : t315 = 0
          ·rw [if_pos c23] at H
           have c23b0 : (t315 == 0) = true := beq_iff_eq.mpr c23
           have c23b1 : (t315 != 0) = false := bne_eq_false_iff_eq.mpr c23
           clear c23
           by_cases c24 : x7_1.length < 4398046511104
           ·rw [if_pos c24] at H
            have LMc24 := Aside0.mk c24
            clear c24
            obtain ⟨y318, hy318⟩ : ∃ y_ : List (S39), y_ = (x7_1 ++ [(⟨wrap64 ((wrap64 (x8_1 + 1)) + t310), t313⟩ : S39)]) := ⟨_, rfl⟩
            replace H : (catchwordref06_read.l0 kj7 l0 t301 t314 t303 y318 (wrap64 ((wrap64 (x8_1 + 1)) + t310)) (wrap64 (x9_1 + 1))) = some (r1, r2) := by first | (rw [hy318]; with_reducible exact H) | (have H2_ := (Option.bind_some _ _).symm.trans H; rw [hy318]; with_reducible exact H2_) | (have H2_ := (Option.bind_some _ _).symm.trans H; with_reducible exact H2_) | with_reducible exact H | (rw [hy318]; exact H) | exact H
            have Ny318 := Aside0.mk hy318
            clear hy318
            have H' := Aside0.mk H
            clear H
            go_wp2_with (first | ((with_reducible refine gate_callee (f := 67) rfl ?_); refine goesL_ (some 66) rfl rfl Try.func67 (by kernel_rfl) rfl #[.slice A0 l0.length c0, .int .i64 x5_7] rfl (by (try simp only [List.map_toArray, List.map_cons, List.map_nil]); first | done | rfl | (simp only [List.length_drop, List.length_take]; rfl)) ?_; (with_reducible refine (catchwordref01_Get.calls kj7 _ _ l0 x5_7 t310 t311 t312 _ ?side1 ?side2 A20.out).mono ?_); (case side1 => repeat (first | exact (Kd.C_below HR0.out HB.out) | (with_reducible refine Kd.C_alloc ?_ _) | (with_reducible refine Kd.C_drewN ?_ _) | (with_reducible refine Kd.C_drew ?_))); (case side2 => exact HC0.out); rintro e w25 ⟨rfl, hb⟩; refine ⟨_, rfl, ?_⟩; have n0_ := Aside0.mk (Kd.S_below (by (with_reducible repeat (first | apply Kd.S_alloc | apply Kd.S_drewN | apply Kd.S_drew)); exact HO_7.out) hb); have n1_ := Aside0.mk (below_step (by repeat (first | (with_reducible first | exact HB.out | apply below_alloc | apply pw_below_drewN | apply below_drew1) | exact HB.out)) hb); clear HO_7; clear HB; have HO_7 := n0_; have HB := n1_; clear n0_ n1_; (try clear hb); (try clear hb2); (try clear hk); (try clear hi)) | ((with_reducible refine gate_callee (f := 68) rfl ?_); refine goesL_ (some 73) rfl rfl Try.func68 (by kernel_rfl) rfl #[.slice A0 l0.length c0, .int .i64 t311] rfl (by (try simp only [List.map_toArray, List.map_cons, List.map_nil]); first | done | rfl | (simp only [List.length_drop, List.length_take]; rfl)) ?_; (with_reducible refine (catchwordref01_Read.calls kj7 _ _ l0 t311 t313 t314 t315 _ ?side1 ?side2 A21.out).mono ?_); (case side1 => repeat (first | exact (Kd.C_below HR0.out HB.out) | (with_reducible refine Kd.C_alloc ?_ _) | (with_reducible refine Kd.C_drewN ?_ _) | (with_reducible refine Kd.C_drew ?_))); (case side2 => exact HC0.out); rintro e w26 ⟨v316, rfl, ho0, hb⟩; refine ⟨_, rfl, ?_⟩; have n0_ := Aside0.mk (Kd.S_elder' (by (with_reducible repeat (first | apply Kd.S_alloc | apply Kd.S_drewN | apply Kd.S_drew)); exact HO_7.out) (Kd.R_base ho0) hb); have n1_ := Aside0.mk (Kd.R_lower ho0 (below_size (by repeat (first | (with_reducible first | exact HB.out | apply below_alloc | apply pw_below_drewN | apply below_drew1) | exact HB.out)))); have n2_ := Aside0.mk (below_step (by repeat (first | (with_reducible first | exact HB.out | apply below_alloc | apply pw_below_drewN | apply below_drew1) | exact HB.out)) hb); clear HO_7; clear HB; have HO_7 := n0_; have HO317 := n1_; have HB := n2_; clear n0_ n1_ n2_; (try clear hb); (try clear hb2); (try clear hk); (try clear hi); (try clear ho0); obtain ⟨Ao27, co27, eo27⟩ := Kd.R_slice HO317.out; subst eo27) | ((with_reducible refine gate_builtin (b := .append) (xs := #[.tmp 87, .tmp 91]) rfl ?_); at_builtin; refine Kd.S_append k39 (w0 := w) w.heap.size rfl (.tmp 87) (.tmp 91) 22 39 (.agg #[(.int .i64 0), (.slice none 0 0)]) 32 rfl Try.underlying22 info39 rfl (by decide) (by omega) u7 x7_1 (⟨wrap64 ((wrap64 (x8_1 + 1)) + t310), t313⟩ : S39) [.int .i64 (wrap64 ((wrap64 (x8_1 + 1)) + t310)), .slice Ao27 t313.length co27] (fun _ => True) (fun k_ => some k_ = (.slice Ao27 t313.length co27 : Value).ownBlock) rfl rfl ?aP (fun k_ hk_ => ((Kd.R_mono (ok' := fun k_ => ((fun _ => True)) k_ ∧ some k_ ≠ (u7 : Value).ownBlock) (Kd.R_apart' (HO317.out) (Kd.S_typed HO_7.out) (by decide)) (fun k_ hk => ⟨trivial, hk.2⟩))).1 k_ hk_.symm) ?aF ?aO ?aB ?aS ?aL ?_; (case aP => exact k39_mkM _ _ _ (⟨wrap64 ((wrap64 (x8_1 + 1)) + t310), t313⟩ : S39) (Kd.R_mono (Kd.R_tight rfl (Kd.R_mono (ok' := fun k_ => ((fun _ => True)) k_ ∧ some k_ ≠ (u7 : Value).ownBlock) (Kd.R_apart' (HO317.out) (Kd.S_typed HO_7.out) (by decide)) (fun k_ hk => ⟨trivial, hk.2⟩))) (fun _ h_ => h_))); (case aB => exact (by repeat (first | (with_reducible first | exact HB.out | apply below_alloc | apply pw_below_drewN | apply below_drew1) | exact HB.out))); (case aF => exact (fun _ _ => trivial)); (case aO => exact (by (with_reducible repeat (first | apply Kd.S_alloc | apply Kd.S_drewN | apply Kd.S_drew)); exact Kd.S_mono HO_7.out (fun k_ hk => ⟨trivial, fun e_ => hk.2 e_⟩))); (case aS => exact (below_size (by repeat (first | (with_reducible first | exact HB.out | apply below_alloc | apply pw_below_drewN | apply below_drew1) | exact HB.out)))); (case aL => have := LMc24.out; omega); intro v319 w28 ho hb hg hat; rw [← Ny318.out] at ho; have n0_ := Aside0.mk (hb); have n1_ := Aside0.mk (ho); clear HB; clear HO_7; clear HO317; have HB := n0_; have HO320 := n1_; clear n0_ n1_; clear ho hb hg hat))
            go_roundg kj7
            case measure => have := HK1.out; have := HJ3.out; have := HJ7.out; omega
            case rel => exact ⟨(t314), (y318), (wrap64 ((wrap64 (x8_1 + 1)) + t310)), (wrap64 (x9_1 + 1)), (by first | rfl | (simp; done) | (simp [*]; done)), (by first | rfl | (simp; done) | (simp [*]; done)), (by first | rfl | (simp; done) | (simp [*]; done)), H', ⟨by have := HK1.out; have := HJ3.out; have := HJ7.out; omega⟩, ⟨by (with_reducible repeat (first | apply Kd.S_alloc | apply Kd.S_drewN | apply Kd.S_drew)); exact HO320.out⟩, ⟨by repeat (first | (with_reducible first | exact HB.out | apply below_alloc | apply pw_below_drewN | apply below_drew1) | exact HB.out)⟩⟩
           ·rw [if_neg c24] at H
            exact absurd H (by simp)
          ·rw [if_neg c23] at H
           have c23b0 : (t315 == 0) = false := beq_eq_false_iff_ne.mpr c23
           have c23b1 : (t315 != 0) = true := bne_iff_ne.mpr c23
           simp only [Option.some.injEq, Prod.mk.injEq] at H
           obtain ⟨rfl, rfl⟩ := H
           go_wp2_with (first | ((with_reducible refine gate_callee (f := 67) rfl ?_); refine goesL_ (some 66) rfl rfl Try.func67 (by kernel_rfl) rfl #[.slice A0 l0.length c0, .int .i64 x5_7] rfl (by (try simp only [List.map_toArray, List.map_cons, List.map_nil]); first | done | rfl | (simp only [List.length_drop, List.length_take]; rfl)) ?_; (with_reducible refine (catchwordref01_Get.calls kj7 _ _ l0 x5_7 t310 t311 t312 _ ?side1 ?side2 A20.out).mono ?_); (case side1 => repeat (first | exact (Kd.C_below HR0.out HB.out) | (with_reducible refine Kd.C_alloc ?_ _) | (with_reducible refine Kd.C_drewN ?_ _) | (with_reducible refine Kd.C_drew ?_))); (case side2 => exact HC0.out); rintro e w29 ⟨rfl, hb⟩; refine ⟨_, rfl, ?_⟩; have n0_ := Aside0.mk (Kd.S_below (by (with_reducible repeat (first | apply Kd.S_alloc | apply Kd.S_drewN | apply Kd.S_drew)); exact HO_7.out) hb); have n1_ := Aside0.mk (below_step (by repeat (first | (with_reducible first | exact HB.out | apply below_alloc | apply pw_below_drewN | apply below_drew1) | exact HB.out)) hb); clear HO_7; clear HB; have HO_7 := n0_; have HB := n1_; clear n0_ n1_; (try clear hb); (try clear hb2); (try clear hk); (try clear hi)) | ((with_reducible refine gate_callee (f := 68) rfl ?_); refine goesL_ (some 73) rfl rfl Try.func68 (by kernel_rfl) rfl #[.slice A0 l0.length c0, .int .i64 t311] rfl (by (try simp only [List.map_toArray, List.map_cons, List.map_nil]); first | done | rfl | (simp only [List.length_drop, List.length_take]; rfl)) ?_; (with_reducible refine (catchwordref01_Read.calls kj7 _ _ l0 t311 t313 t314 t315 _ ?side1 ?side2 A21.out).mono ?_); (case side1 => repeat (first | exact (Kd.C_below HR0.out HB.out) | (with_reducible refine Kd.C_alloc ?_ _) | (with_reducible refine Kd.C_drewN ?_ _) | (with_reducible refine Kd.C_drew ?_))); (case side2 => exact HC0.out); rintro e w30 ⟨v316, rfl, ho0, hb⟩; refine ⟨_, rfl, ?_⟩; have n0_ := Aside0.mk (Kd.S_elder' (by (with_reducible repeat (first | apply Kd.S_alloc | apply Kd.S_drewN | apply Kd.S_drew)); exact HO_7.out) (Kd.R_base ho0) hb); have n1_ := Aside0.mk (Kd.R_lower ho0 (below_size (by repeat (first | (with_reducible first | exact HB.out | apply below_alloc | apply pw_below_drewN | apply below_drew1) | exact HB.out)))); have n2_ := Aside0.mk (below_step (by repeat (first | (with_reducible first | exact HB.out | apply below_alloc | apply pw_below_drewN | apply below_drew1) | exact HB.out)) hb); clear HO_7; clear HB; have HO_7 := n0_; have HO317 := n1_; have HB := n2_; clear n0_ n1_ n2_; (try clear hb); (try clear hb2); (try clear hk); (try clear hi); (try clear ho0)))
           go_ret2
           exact ⟨_, by first | rfl | (simp [errW_none, errW_some] <;> rfl) | (simp [*, errW_none, errW_some] <;> rfl), by first | exact Kd.S_nil _ _ _ _ _ | exact Kd.N_nil _ _ _ _ _ | exact Kd.V_nil _ _ _ _ _ | exact Kd.Q_nil _ _ _ _ _ | exact Kd.R_nil _ _ _ _ _, by repeat (first | (with_reducible first | exact HB.out | apply below_alloc | apply pw_below_drewN | apply below_drew1) | exact HB.out)⟩
         ·rw [if_neg c22] at H
          have c22b0 : (t312 == 0) = false := beq_eq_false_iff_ne.mpr c22
          have c22b1 : (t312 != 0) = true := bne_iff_ne.mpr c22
          simp only [Option.some.injEq, Prod.mk.injEq] at H
          obtain ⟨rfl, rfl⟩ := H
          go_wp2_with (first | ((with_reducible refine gate_callee (f := 67) rfl ?_); refine goesL_ (some 66) rfl rfl Try.func67 (by kernel_rfl) rfl #[.slice A0 l0.length c0, .int .i64 x5_7] rfl (by (try simp only [List.map_toArray, List.map_cons, List.map_nil]); first | done | rfl | (simp only [List.length_drop, List.length_take]; rfl)) ?_; (with_reducible refine (catchwordref01_Get.calls kj7 _ _ l0 x5_7 t310 t311 t312 _ ?side1 ?side2 A20.out).mono ?_); (case side1 => repeat (first | exact (Kd.C_below HR0.out HB.out) | (with_reducible refine Kd.C_alloc ?_ _) | (with_reducible refine Kd.C_drewN ?_ _) | (with_reducible refine Kd.C_drew ?_))); (case side2 => exact HC0.out); rintro e w31 ⟨rfl, hb⟩; refine ⟨_, rfl, ?_⟩; have n0_ := Aside0.mk (Kd.S_below (by (with_reducible repeat (first | apply Kd.S_alloc | apply Kd.S_drewN | apply Kd.S_drew)); exact HO_7.out) hb); have n1_ := Aside0.mk (below_step (by repeat (first | (with_reducible first | exact HB.out | apply below_alloc | apply pw_below_drewN | apply below_drew1) | exact HB.out)) hb); clear HO_7; clear HB; have HO_7 := n0_; have HB := n1_; clear n0_ n1_; (try clear hb); (try clear hb2); (try clear hk); (try clear hi)) | ((with_reducible refine gate_callee (f := 68) rfl ?_); refine goesL_ (some 73) rfl rfl Try.func68 (by kernel_rfl) rfl #[.slice A0 l0.length c0, .int .i64 t311] rfl (by (try simp only [List.map_toArray, List.map_cons, List.map_nil]); first | done | rfl | (simp only [List.length_drop, List.length_take]; rfl)) ?_; (with_reducible refine (catchwordref01_Read.calls kj7 _ _ l0 t311 t313 t314 t315 _ ?side1 ?side2 A21.out).mono ?_); (case side1 => repeat (first | exact (Kd.C_below HR0.out HB.out) | (with_reducible refine Kd.C_alloc ?_ _) | (with_reducible refine Kd.C_drewN ?_ _) | (with_reducible refine Kd.C_drew ?_))); (case side2 => exact HC0.out); rintro e w32 ⟨v316, rfl, ho0, hb⟩; refine ⟨_, rfl, ?_⟩; have n0_ := Aside0.mk (Kd.S_elder' (by (with_reducible repeat (first | apply Kd.S_alloc | apply Kd.S_drewN | apply Kd.S_drew)); exact HO_7.out) (Kd.R_base ho0) hb); have n1_ := Aside0.mk (Kd.R_lower ho0 (below_size (by repeat (first | (with_reducible first | exact HB.out | apply below_alloc | apply pw_below_drewN | apply below_drew1) | exact HB.out)))); have n2_ := Aside0.mk (below_step (by repeat (first | (with_reducible first | exact HB.out | apply below_alloc | apply pw_below_drewN | apply below_drew1) | exact HB.out)) hb); clear HO_7; clear HB; have HO_7 := n0_; have HO317 := n1_; have HB := n2_; clear n0_ n1_ n2_; (try clear hb); (try clear hb2); (try clear hk); (try clear hi); (try clear ho0)))
          go_ret2
          exact ⟨_, by first | rfl | (simp [errW_none, errW_some] <;> rfl) | (simp [*, errW_none, errW_some] <;> rfl), by first | exact Kd.S_nil _ _ _ _ _ | exact Kd.N_nil _ _ _ _ _ | exact Kd.V_nil _ _ _ _ _ | exact Kd.Q_nil _ _ _ _ _ | exact Kd.R_nil _ _ _ _ _, by repeat (first | (with_reducible first | exact HB.out | apply below_alloc | apply pw_below_drewN | apply below_drew1) | exact HB.out)⟩
     ·replace c6 := Bool.eq_false_iff.mpr c6
      subst c6
      have H1 : (some (x7_1, (t303 == 0))) = some (r1, r2) := by rw [if_neg (show ¬ (false = true) by decide)] at H; exact H
      clear H
      have H := H1
      clear H1
      simp only [Option.some.injEq, Prod.mk.injEq] at H
      obtain ⟨rfl, rfl⟩ := H
      go_wp2
      go_ret2
      exact ⟨_, by first | rfl | (simp [errW_none, errW_some] <;> rfl) | (simp [*, errW_none, errW_some] <;> rfl), by (with_reducible repeat (first | apply Kd.S_alloc | apply Kd.S_drewN | apply Kd.S_drew)); exact HO_7.out, by repeat (first | (with_reducible first | exact HB.out | apply below_alloc | apply pw_below_drewN | apply below_drew1) | exact HB.out)⟩

/-! ### catchwordref06_Unpack: function 23 -/
def catchwordref06_Unpack.f (k : Nat) (l0 : List Int) : Option ((List (S39)) × Int) := (catchwordref06_read.f k l0).bind fun bt321 => (if bt321.2 = true then ((catchwordref06_Pack.f k bt321.1).bind fun bt325 => ((catchwordref01_Bytes.f k bt325.1 l0).bind fun t329 => (if bt325.2 = 0 then (if t329 = true then (some (bt321.1, 0)) else (some (([] : List (S39)), 5))) else (some (([] : List (S39)), 5))))) else (some (([] : List (S39)), 5)))
theorem catchwordref06_Unpack.mono : ∀ a0 k, LeO (catchwordref06_Unpack.f k a0) (catchwordref06_Unpack.f (k + 1) a0) := by
 intro a0 k
 unfold catchwordref06_Unpack.f
 repeat' first
   | (with_reducible exact catchwordref01_Bytes.mono _ _ _)
   | (with_reducible exact catchwordref06_Pack.mono _ _)
   | (with_reducible exact catchwordref06_read.mono _ _)
   | (with_reducible exact LeO.refl _)
   | (with_reducible exact LeO.none _)
   | (with_reducible refine LeO.ite ?_ ?_)
   | (with_reducible refine LeO.bind ?_ (fun _ => ?_))
   | exact catchwordref01_Bytes.mono _ _ _
   | exact catchwordref06_Pack.mono _ _
   | exact catchwordref06_read.mono _ _
   | exact LeO.none _
   | refine LeO.ite ?_ ?_
   | refine LeO.bind ?_ (fun _ => ?_)
set_option maxHeartbeats 8000000 in
set_option maxRecDepth 100000 in
theorem catchwordref06_Unpack.calls (k : Nat) (A0 : Option Addr) (c0 : Nat) (l0 : List Int) (r1 : List (S39)) (r2 : Int) (w : World) (hr0 : Kd.C (Kd.int .u8) w A0 l0.length l0) (hc0 : l0.length ≤ c0) (h : catchwordref06_Unpack.f k l0 = some (r1, r2)) :
  Calls Try.prog 23 #[.slice A0 l0.length c0] w fun e w' => ∃ v0_ : Value, e = .returned (.tuple #[v0_, .int .i64 r2]) ∧ Kd.S k39 39 w' w.heap.size (fun _ => True) v0_ r1 ∧ Below w.heap.size w w' := by
 have HR0 := Aside0.mk hr0
 have HC0 := Aside0.mk hc0
 clear hr0 hc0
 have HB := Aside0.mk (Below.refl w.heap.size w)
 have H : ((catchwordref06_read.f k l0).bind fun bt321 => (if bt321.2 = true then ((catchwordref06_Pack.f k bt321.1).bind fun bt325 => ((catchwordref01_Bytes.f k bt325.1 l0).bind fun t329 => (if bt325.2 = 0 then (if t329 = true then (some (bt321.1, 0)) else (some (([] : List (S39)), 5))) else (some (([] : List (S39)), 5))))) else (some (([] : List (S39)), 5)))) = some (r1, r2) := h
 clear h
 replace H := Option.bind_eq_some_iff.mp H
 obtain ⟨⟨t321, t322⟩, A20, H⟩ := H
 replace H : (if t322 = true then ((catchwordref06_Pack.f k t321).bind fun bt325 => ((catchwordref01_Bytes.f k bt325.1 l0).bind fun t329 => (if bt325.2 = 0 then (if t329 = true then (some (t321, 0)) else (some (([] : List (S39)), 5))) else (some (([] : List (S39)), 5))))) else (some (([] : List (S39)), 5))) = some (r1, r2) := H
 have A2 := Aside0.mk A20
 clear A20
 by_cases c3 : t322 = true
 ·subst c3
  have H1 : ((catchwordref06_Pack.f k t321).bind fun bt325 => ((catchwordref01_Bytes.f k bt325.1 l0).bind fun t329 => (if bt325.2 = 0 then (if t329 = true then (some (t321, 0)) else (some (([] : List (S39)), 5))) else (some (([] : List (S39)), 5))))) = some (r1, r2) := by rw [if_pos rfl] at H; exact H
  clear H
  have H := H1
  clear H1
  replace H := Option.bind_eq_some_iff.mp H
  obtain ⟨⟨t325, t326⟩, A40, H⟩ := H
  replace H : ((catchwordref01_Bytes.f k t325 l0).bind fun t329 => (if t326 = 0 then (if t329 = true then (some (t321, 0)) else (some (([] : List (S39)), 5))) else (some (([] : List (S39)), 5)))) = some (r1, r2) := H
  have A4 := Aside0.mk A40
  clear A40
  replace H := Option.bind_eq_some_iff.mp H
  obtain ⟨t329, A50, H⟩ := H
  replace H : (if t326 = 0 then (if t329 = true then (some (t321, 0)) else (some (([] : List (S39)), 5))) else (some (([] : List (S39)), 5))) = some (r1, r2) := H
  have A5 := Aside0.mk A50
  clear A50
  by_cases c6 : t326 = 0
  ·rw [if_pos c6] at H
   have c6b0 : (t326 == 0) = true := beq_iff_eq.mpr c6
   have c6b1 : (t326 != 0) = false := bne_eq_false_iff_eq.mpr c6
   clear c6
   by_cases c7 : t329 = true
   ·subst c7
    have H1 : (some (t321, 0)) = some (r1, r2) := by rw [if_pos rfl] at H; exact H
    clear H
    have H := H1
    clear H1
    simp only [Option.some.injEq, Prod.mk.injEq] at H
    obtain ⟨rfl, rfl⟩ := H
    go_enter Try.func23, Try.ntmps23
    go_wp2_with (first | ((with_reducible refine gate_callee (f := 49) rfl ?_); refine goesL_ (some 11) rfl rfl Try.func49 (by kernel_rfl) rfl #[.slice A0 l0.length c0] rfl (by (try simp only [List.map_toArray, List.map_cons, List.map_nil]); first | done | rfl | (simp only [List.length_drop, List.length_take]; rfl)) ?_; (with_reducible refine (catchwordref06_read.calls k _ _ l0 t321 true _ ?side1 ?side2 A2.out).mono ?_); (case side1 => repeat (first | exact HR0.out | (with_reducible refine Kd.C_alloc ?_ _) | (with_reducible refine Kd.C_drewN ?_ _) | (with_reducible refine Kd.C_drew ?_))); (case side2 => exact HC0.out); rintro e w8 ⟨v323, rfl, ho0, hb⟩; refine ⟨_, rfl, ?_⟩; have n0_ := Aside0.mk (Kd.S_lower ho0 (below_size (by repeat (first | (with_reducible first | exact HB.out | apply below_alloc | apply pw_below_drewN | apply below_drew1) | exact HB.out)))); have n1_ := Aside0.mk (below_step (by repeat (first | (with_reducible first | exact HB.out | apply below_alloc | apply pw_below_drewN | apply below_drew1) | exact HB.out)) hb); clear HB; have HO324 := n0_; have HB := n1_; clear n0_ n1_; (try clear hb); (try clear hb2); (try clear hk); (try clear hi); (try clear ho0); obtain ⟨Ao9, co9, eo9⟩ := Kd.S_slice HO324.out; subst eo9) | ((with_reducible refine gate_callee (f := 21) rfl ?_); refine goesL_ (some 18) rfl rfl Try.func21 (by kernel_rfl) rfl #[.slice Ao9 t321.length co9] rfl (by (try simp only [List.map_toArray, List.map_cons, List.map_nil]); first | done | rfl | (simp only [List.length_drop, List.length_take]; rfl)) ?_; (with_reducible refine (catchwordref06_Pack.calls k _ _ t321 t325 t326 _ ?side1 ?side2 A4.out).mono ?_); (case side1 => repeat (first | exact (Kd.S_reads' HO324.out).2.2 | (with_reducible refine Kd.C_alloc ?_ _) | (with_reducible refine Kd.C_drewN ?_ _) | (with_reducible refine Kd.C_drew ?_))); (case side2 => exact (Kd.S_reads' HO324.out).2.1); rintro e w10 ⟨v327, rfl, ho0, hb⟩; refine ⟨_, rfl, ?_⟩; have n0_ := Aside0.mk (Kd.S_below (by (with_reducible repeat (first | apply Kd.S_alloc | apply Kd.S_drewN | apply Kd.S_drew)); exact HO324.out) hb); have n1_ := Aside0.mk (Kd.R_lower ho0 (below_size (by repeat (first | (with_reducible first | exact HB.out | apply below_alloc | apply pw_below_drewN | apply below_drew1) | exact HB.out)))); have n2_ := Aside0.mk (below_step (by repeat (first | (with_reducible first | exact HB.out | apply below_alloc | apply pw_below_drewN | apply below_drew1) | exact HB.out)) hb); clear HO324; clear HB; have HO324 := n0_; have HO328 := n1_; have HB := n2_; clear n0_ n1_ n2_; (try clear hb); (try clear hb2); (try clear hk); (try clear hi); (try clear ho0); obtain ⟨Ao11, co11, eo11⟩ := Kd.R_slice HO328.out; subst eo11) | ((with_reducible refine gate_callee (f := 24) rfl ?_); refine goesL_ (some 23) rfl rfl Try.func24 (by kernel_rfl) rfl #[.slice Ao11 t325.length co11, .slice A0 l0.length c0] rfl (by (try simp only [List.map_toArray, List.map_cons, List.map_nil]); first | done | rfl | (simp only [List.length_drop, List.length_take]; rfl)) ?_; (with_reducible refine (catchwordref01_Bytes.calls k _ _ t325 _ _ l0 true _ ?side1 ?side2 ?side3 ?side4 A5.out).mono ?_); (case side1 => repeat (first | exact (Kd.R_reads' HO328.out).2.2 | (with_reducible refine Kd.C_alloc ?_ _) | (with_reducible refine Kd.C_drewN ?_ _) | (with_reducible refine Kd.C_drew ?_))); (case side2 => exact (Kd.R_reads' HO328.out).2.1); (case side3 => repeat (first | exact (Kd.C_below HR0.out HB.out) | (with_reducible refine Kd.C_alloc ?_ _) | (with_reducible refine Kd.C_drewN ?_ _) | (with_reducible refine Kd.C_drew ?_))); (case side4 => exact HC0.out); rintro e w' ⟨rfl, ⟨nd, rfl⟩⟩; refine ⟨_, rfl, ?_⟩))
    go_ret2
    exact ⟨_, by first | rfl | (simp [errW_none, errW_some] <;> rfl) | (simp [*, errW_none, errW_some] <;> rfl), by (with_reducible repeat (first | apply Kd.S_alloc | apply Kd.S_drewN | apply Kd.S_drew)); exact HO324.out, by repeat (first | (with_reducible first | exact HB.out | apply below_alloc | apply pw_below_drewN | apply below_drew1) | exact HB.out)⟩
   ·replace c7 := Bool.eq_false_iff.mpr c7
    subst c7
    have H1 : (some (([] : List (S39)), 5)) = some (r1, r2) := by rw [if_neg (show ¬ (false = true) by decide)] at H; exact H
    clear H
    have H := H1
    clear H1
    simp only [Option.some.injEq, Prod.mk.injEq] at H
    obtain ⟨rfl, rfl⟩ := H
    go_enter Try.func23, Try.ntmps23
    go_wp2_with (first | ((with_reducible refine gate_callee (f := 49) rfl ?_); refine goesL_ (some 11) rfl rfl Try.func49 (by kernel_rfl) rfl #[.slice A0 l0.length c0] rfl (by (try simp only [List.map_toArray, List.map_cons, List.map_nil]); first | done | rfl | (simp only [List.length_drop, List.length_take]; rfl)) ?_; (with_reducible refine (catchwordref06_read.calls k _ _ l0 t321 true _ ?side1 ?side2 A2.out).mono ?_); (case side1 => repeat (first | exact HR0.out | (with_reducible refine Kd.C_alloc ?_ _) | (with_reducible refine Kd.C_drewN ?_ _) | (with_reducible refine Kd.C_drew ?_))); (case side2 => exact HC0.out); rintro e w12 ⟨v323, rfl, ho0, hb⟩; refine ⟨_, rfl, ?_⟩; have n0_ := Aside0.mk (Kd.S_lower ho0 (below_size (by repeat (first | (with_reducible first | exact HB.out | apply below_alloc | apply pw_below_drewN | apply below_drew1) | exact HB.out)))); have n1_ := Aside0.mk (below_step (by repeat (first | (with_reducible first | exact HB.out | apply below_alloc | apply pw_below_drewN | apply below_drew1) | exact HB.out)) hb); clear HB; have HO324 := n0_; have HB := n1_; clear n0_ n1_; (try clear hb); (try clear hb2); (try clear hk); (try clear hi); (try clear ho0); obtain ⟨Ao13, co13, eo13⟩ := Kd.S_slice HO324.out; subst eo13) | ((with_reducible refine gate_callee (f := 21) rfl ?_); refine goesL_ (some 18) rfl rfl Try.func21 (by kernel_rfl) rfl #[.slice Ao13 t321.length co13] rfl (by (try simp only [List.map_toArray, List.map_cons, List.map_nil]); first | done | rfl | (simp only [List.length_drop, List.length_take]; rfl)) ?_; (with_reducible refine (catchwordref06_Pack.calls k _ _ t321 t325 t326 _ ?side1 ?side2 A4.out).mono ?_); (case side1 => repeat (first | exact (Kd.S_reads' HO324.out).2.2 | (with_reducible refine Kd.C_alloc ?_ _) | (with_reducible refine Kd.C_drewN ?_ _) | (with_reducible refine Kd.C_drew ?_))); (case side2 => exact (Kd.S_reads' HO324.out).2.1); rintro e w14 ⟨v327, rfl, ho0, hb⟩; refine ⟨_, rfl, ?_⟩; have n0_ := Aside0.mk (Kd.S_below (by (with_reducible repeat (first | apply Kd.S_alloc | apply Kd.S_drewN | apply Kd.S_drew)); exact HO324.out) hb); have n1_ := Aside0.mk (Kd.R_lower ho0 (below_size (by repeat (first | (with_reducible first | exact HB.out | apply below_alloc | apply pw_below_drewN | apply below_drew1) | exact HB.out)))); have n2_ := Aside0.mk (below_step (by repeat (first | (with_reducible first | exact HB.out | apply below_alloc | apply pw_below_drewN | apply below_drew1) | exact HB.out)) hb); clear HO324; clear HB; have HO324 := n0_; have HO328 := n1_; have HB := n2_; clear n0_ n1_ n2_; (try clear hb); (try clear hb2); (try clear hk); (try clear hi); (try clear ho0); obtain ⟨Ao15, co15, eo15⟩ := Kd.R_slice HO328.out; subst eo15) | ((with_reducible refine gate_callee (f := 24) rfl ?_); refine goesL_ (some 23) rfl rfl Try.func24 (by kernel_rfl) rfl #[.slice Ao15 t325.length co15, .slice A0 l0.length c0] rfl (by (try simp only [List.map_toArray, List.map_cons, List.map_nil]); first | done | rfl | (simp only [List.length_drop, List.length_take]; rfl)) ?_; (with_reducible refine (catchwordref01_Bytes.calls k _ _ t325 _ _ l0 false _ ?side1 ?side2 ?side3 ?side4 A5.out).mono ?_); (case side1 => repeat (first | exact (Kd.R_reads' HO328.out).2.2 | (with_reducible refine Kd.C_alloc ?_ _) | (with_reducible refine Kd.C_drewN ?_ _) | (with_reducible refine Kd.C_drew ?_))); (case side2 => exact (Kd.R_reads' HO328.out).2.1); (case side3 => repeat (first | exact (Kd.C_below HR0.out HB.out) | (with_reducible refine Kd.C_alloc ?_ _) | (with_reducible refine Kd.C_drewN ?_ _) | (with_reducible refine Kd.C_drew ?_))); (case side4 => exact HC0.out); rintro e w' ⟨rfl, ⟨nd, rfl⟩⟩; refine ⟨_, rfl, ?_⟩))
    go_ret2
    exact ⟨_, by first | rfl | (simp [errW_none, errW_some] <;> rfl) | (simp [*, errW_none, errW_some] <;> rfl), by first | exact Kd.S_nil _ _ _ _ _ | exact Kd.N_nil _ _ _ _ _ | exact Kd.V_nil _ _ _ _ _ | exact Kd.Q_nil _ _ _ _ _ | exact Kd.R_nil _ _ _ _ _, by repeat (first | (with_reducible first | exact HB.out | apply below_alloc | apply pw_below_drewN | apply below_drew1) | exact HB.out)⟩
  ·rw [if_neg c6] at H
   have c6b0 : (t326 == 0) = false := beq_eq_false_iff_ne.mpr c6
   have c6b1 : (t326 != 0) = true := bne_iff_ne.mpr c6
   simp only [Option.some.injEq, Prod.mk.injEq] at H
   obtain ⟨rfl, rfl⟩ := H
   go_enter Try.func23, Try.ntmps23
   go_wp2_with (first | ((with_reducible refine gate_callee (f := 49) rfl ?_); refine goesL_ (some 11) rfl rfl Try.func49 (by kernel_rfl) rfl #[.slice A0 l0.length c0] rfl (by (try simp only [List.map_toArray, List.map_cons, List.map_nil]); first | done | rfl | (simp only [List.length_drop, List.length_take]; rfl)) ?_; (with_reducible refine (catchwordref06_read.calls k _ _ l0 t321 true _ ?side1 ?side2 A2.out).mono ?_); (case side1 => repeat (first | exact HR0.out | (with_reducible refine Kd.C_alloc ?_ _) | (with_reducible refine Kd.C_drewN ?_ _) | (with_reducible refine Kd.C_drew ?_))); (case side2 => exact HC0.out); rintro e w16 ⟨v323, rfl, ho0, hb⟩; refine ⟨_, rfl, ?_⟩; have n0_ := Aside0.mk (Kd.S_lower ho0 (below_size (by repeat (first | (with_reducible first | exact HB.out | apply below_alloc | apply pw_below_drewN | apply below_drew1) | exact HB.out)))); have n1_ := Aside0.mk (below_step (by repeat (first | (with_reducible first | exact HB.out | apply below_alloc | apply pw_below_drewN | apply below_drew1) | exact HB.out)) hb); clear HB; have HO324 := n0_; have HB := n1_; clear n0_ n1_; (try clear hb); (try clear hb2); (try clear hk); (try clear hi); (try clear ho0); obtain ⟨Ao17, co17, eo17⟩ := Kd.S_slice HO324.out; subst eo17) | ((with_reducible refine gate_callee (f := 21) rfl ?_); refine goesL_ (some 18) rfl rfl Try.func21 (by kernel_rfl) rfl #[.slice Ao17 t321.length co17] rfl (by (try simp only [List.map_toArray, List.map_cons, List.map_nil]); first | done | rfl | (simp only [List.length_drop, List.length_take]; rfl)) ?_; (with_reducible refine (catchwordref06_Pack.calls k _ _ t321 t325 t326 _ ?side1 ?side2 A4.out).mono ?_); (case side1 => repeat (first | exact (Kd.S_reads' HO324.out).2.2 | (with_reducible refine Kd.C_alloc ?_ _) | (with_reducible refine Kd.C_drewN ?_ _) | (with_reducible refine Kd.C_drew ?_))); (case side2 => exact (Kd.S_reads' HO324.out).2.1); rintro e w18 ⟨v327, rfl, ho0, hb⟩; refine ⟨_, rfl, ?_⟩; have n0_ := Aside0.mk (Kd.S_below (by (with_reducible repeat (first | apply Kd.S_alloc | apply Kd.S_drewN | apply Kd.S_drew)); exact HO324.out) hb); have n1_ := Aside0.mk (Kd.R_lower ho0 (below_size (by repeat (first | (with_reducible first | exact HB.out | apply below_alloc | apply pw_below_drewN | apply below_drew1) | exact HB.out)))); have n2_ := Aside0.mk (below_step (by repeat (first | (with_reducible first | exact HB.out | apply below_alloc | apply pw_below_drewN | apply below_drew1) | exact HB.out)) hb); clear HO324; clear HB; have HO324 := n0_; have HO328 := n1_; have HB := n2_; clear n0_ n1_ n2_; (try clear hb); (try clear hb2); (try clear hk); (try clear hi); (try clear ho0); obtain ⟨Ao19, co19, eo19⟩ := Kd.R_slice HO328.out; subst eo19) | ((with_reducible refine gate_callee (f := 24) rfl ?_); refine goesL_ (some 23) rfl rfl Try.func24 (by kernel_rfl) rfl #[.slice Ao19 t325.length co19, .slice A0 l0.length c0] rfl (by (try simp only [List.map_toArray, List.map_cons, List.map_nil]); first | done | rfl | (simp only [List.length_drop, List.length_take]; rfl)) ?_; (with_reducible refine (catchwordref01_Bytes.calls k _ _ t325 _ _ l0 t329 _ ?side1 ?side2 ?side3 ?side4 A5.out).mono ?_); (case side1 => repeat (first | exact (Kd.R_reads' HO328.out).2.2 | (with_reducible refine Kd.C_alloc ?_ _) | (with_reducible refine Kd.C_drewN ?_ _) | (with_reducible refine Kd.C_drew ?_))); (case side2 => exact (Kd.R_reads' HO328.out).2.1); (case side3 => repeat (first | exact (Kd.C_below HR0.out HB.out) | (with_reducible refine Kd.C_alloc ?_ _) | (with_reducible refine Kd.C_drewN ?_ _) | (with_reducible refine Kd.C_drew ?_))); (case side4 => exact HC0.out); rintro e w' ⟨rfl, ⟨nd, rfl⟩⟩; refine ⟨_, rfl, ?_⟩))
   go_ret2
   exact ⟨_, by first | rfl | (simp [errW_none, errW_some] <;> rfl) | (simp [*, errW_none, errW_some] <;> rfl), by first | exact Kd.S_nil _ _ _ _ _ | exact Kd.N_nil _ _ _ _ _ | exact Kd.V_nil _ _ _ _ _ | exact Kd.Q_nil _ _ _ _ _ | exact Kd.R_nil _ _ _ _ _, by repeat (first | (with_reducible first | exact HB.out | apply below_alloc | apply pw_below_drewN | apply below_drew1) | exact HB.out)⟩
 ·replace c3 := Bool.eq_false_iff.mpr c3
  subst c3
  have H1 : (some (([] : List (S39)), 5)) = some (r1, r2) := by rw [if_neg (show ¬ (false = true) by decide)] at H; exact H
  clear H
  have H := H1
  clear H1
  simp only [Option.some.injEq, Prod.mk.injEq] at H
  obtain ⟨rfl, rfl⟩ := H
  go_enter Try.func23, Try.ntmps23
  go_wp2_with (first | ((with_reducible refine gate_callee (f := 49) rfl ?_); refine goesL_ (some 11) rfl rfl Try.func49 (by kernel_rfl) rfl #[.slice A0 l0.length c0] rfl (by (try simp only [List.map_toArray, List.map_cons, List.map_nil]); first | done | rfl | (simp only [List.length_drop, List.length_take]; rfl)) ?_; (with_reducible refine (catchwordref06_read.calls k _ _ l0 t321 false _ ?side1 ?side2 A2.out).mono ?_); (case side1 => repeat (first | exact HR0.out | (with_reducible refine Kd.C_alloc ?_ _) | (with_reducible refine Kd.C_drewN ?_ _) | (with_reducible refine Kd.C_drew ?_))); (case side2 => exact HC0.out); rintro e w20 ⟨v323, rfl, ho0, hb⟩; refine ⟨_, rfl, ?_⟩; have n0_ := Aside0.mk (Kd.S_lower ho0 (below_size (by repeat (first | (with_reducible first | exact HB.out | apply below_alloc | apply pw_below_drewN | apply below_drew1) | exact HB.out)))); have n1_ := Aside0.mk (below_step (by repeat (first | (with_reducible first | exact HB.out | apply below_alloc | apply pw_below_drewN | apply below_drew1) | exact HB.out)) hb); clear HB; have HO324 := n0_; have HB := n1_; clear n0_ n1_; (try clear hb); (try clear hb2); (try clear hk); (try clear hi); (try clear ho0)))
  go_ret2
  exact ⟨_, by first | rfl | (simp [errW_none, errW_some] <;> rfl) | (simp [*, errW_none, errW_some] <;> rfl), by first | exact Kd.S_nil _ _ _ _ _ | exact Kd.N_nil _ _ _ _ _ | exact Kd.V_nil _ _ _ _ _ | exact Kd.Q_nil _ _ _ _ _ | exact Kd.R_nil _ _ _ _ _, by repeat (first | (with_reducible first | exact HB.out | apply below_alloc | apply pw_below_drewN | apply below_drew1) | exact HB.out)⟩

/-! ### catchwordref06_Seek: function 26 -/
def catchwordref06_Seek.l0 : Nat → Int → List (S39) → Int → Option (Int × List Int × Int × Int)
 | 0, _, _, _ => none
 | k + 1, x1, x7, x9 => if x9 < (x7.length : Int) then (if 0 ≤ x9 then (if ((rd_T39 x7 x9).f0) ≥ x1 then (some ((rd_T39 x7 x9).f0, (rd_T39 x7 x9).f1, wrap64 (Int.tdiv x9 4), 0)) else (catchwordref06_Seek.l0 k x1 x7 (wrap64 (x9 + 1)))) else (none)) else (some (0, ([] : List Int), 0, 2))
def catchwordref06_Seek.f (k : Nat) (l0 : List Int) (a1 : Int) : Option (Int × List Int × Int × Int) := (catchwordref06_Unpack.f k l0).bind fun bt331 => (if bt331.2 = 0 then (catchwordref06_Seek.l0 k a1 bt331.1 0) else (some (0, ([] : List Int), 0, bt331.2)))
theorem catchwordref06_Seek.mono_l : ∀ k, (∀ y0 y1 y2, LeO (catchwordref06_Seek.l0 k y0 y1 y2) (catchwordref06_Seek.l0 (k + 1) y0 y1 y2))
 | 0 => fun _ _ _ r h => by simp [catchwordref06_Seek.l0] at h
 | k + 1 => by
  have ih0 := catchwordref06_Seek.mono_l k
  ·intro y0 y1 y2
   unfold catchwordref06_Seek.l0
   repeat' first
   | (with_reducible exact ih0 _ _ _)
   | (with_reducible exact catchwordref06_Unpack.mono _ _)
   | (with_reducible exact LeO.refl _)
   | (with_reducible exact LeO.none _)
   | (with_reducible refine LeO.ite ?_ ?_)
   | (with_reducible refine LeO.bind ?_ (fun _ => ?_))
   | exact ih0 _ _ _
   | exact catchwordref06_Unpack.mono _ _
   | exact LeO.none _
   | refine LeO.ite ?_ ?_
   | refine LeO.bind ?_ (fun _ => ?_)
theorem catchwordref06_Seek.mono : ∀ a0 a1 k, LeO (catchwordref06_Seek.f k a0 a1) (catchwordref06_Seek.f (k + 1) a0 a1) := by
 intro a0 a1 k
 have ih0 := catchwordref06_Seek.mono_l k
 unfold catchwordref06_Seek.f
 repeat' first
   | (with_reducible exact ih0 _ _ _)
   | (with_reducible exact catchwordref06_Unpack.mono _ _)
   | (with_reducible exact LeO.refl _)
   | (with_reducible exact LeO.none _)
   | (with_reducible refine LeO.ite ?_ ?_)
   | (with_reducible refine LeO.bind ?_ (fun _ => ?_))
   | exact ih0 _ _ _
   | exact catchwordref06_Unpack.mono _ _
   | exact LeO.none _
   | refine LeO.ite ?_ ?_
   | refine LeO.bind ?_ (fun _ => ?_)
set_option maxHeartbeats 8000000 in
set_option maxRecDepth 100000 in
theorem catchwordref06_Seek.calls (k : Nat) (A0 : Option Addr) (c0 : Nat) (l0 : List Int) (a1 : Int) (r1 : Int) (r2 : List Int) (r3 : Int) (r4 : Int) (w : World) (hr0 : Kd.C (Kd.int .u8) w A0 l0.length l0) (hc0 : l0.length ≤ c0) (h : catchwordref06_Seek.f k l0 a1 = some (r1, r2, r3, r4)) :
  Calls Try.prog 26 #[.slice A0 l0.length c0, .int .i64 a1] w fun e w' => ∃ v1_ : Value, e = .returned (.tuple #[.agg #[.int .i64 r1, v1_], .int .i64 r3, .int .i64 r4]) ∧ Kd.R (Kd.int .i64) 3 w' w.heap.size (fun _ => True) v1_ r2 ∧ Below w.heap.size w w' := by
 have hu39 := Try.underlying39
 have HR0 := Aside0.mk hr0
 have HC0 := Aside0.mk hc0
 clear hr0 hc0
 have HB := Aside0.mk (Below.refl w.heap.size w)
 have H : ((catchwordref06_Unpack.f k l0).bind fun bt331 => (if bt331.2 = 0 then (catchwordref06_Seek.l0 k a1 bt331.1 0) else (some (0, ([] : List Int), 0, bt331.2)))) = some (r1, r2, r3, r4) := h
 clear h
 replace H := Option.bind_eq_some_iff.mp H
 obtain ⟨⟨t331, t332⟩, A30, H⟩ := H
 replace H : (if t332 = 0 then (catchwordref06_Seek.l0 k a1 t331 0) else (some (0, ([] : List Int), 0, t332))) = some (r1, r2, r3, r4) := H
 have A3 := Aside0.mk A30
 clear A30
 by_cases c4 : t332 = 0
 ·rw [if_pos c4] at H
  have c4b0 : (t332 == 0) = true := beq_iff_eq.mpr c4
  have c4b1 : (t332 != 0) = false := bne_eq_false_iff_eq.mpr c4
  clear c4
  have H' := Aside0.mk H
  clear H
  go_enter Try.func26, Try.ntmps26
  go_wp2_with (first | ((with_reducible refine gate_dst (N := 4) rfl ?_); refine box_event ?hg (N := 4) ?hd (cs := #[.int .i64 0, .slice none 0 0]) (t := 39) ?hr ?_; (case hd => rfl); (case hg => rfl); (case hr => first | (go_simp; done) | (go_simp; rfl)); intro gb330 hg w5 hbox hb; have n0_ := Aside0.mk (below_step (by repeat (first | (with_reducible first | exact HB.out | apply below_alloc | apply pw_below_drewN | apply below_drew1) | exact HB.out)) hb); have n1_ := Aside0.mk (hbox); have n2_ := Aside0.mk ((by rw [hg]; exact (below_size (by repeat (first | (with_reducible first | exact HB.out | apply below_alloc | apply pw_below_drewN | apply below_drew1) | exact HB.out))) : w.heap.size ≤ gb330)); have n3_ := Aside0.mk ((by rw [hg]; exact (below_size (by repeat (first | (with_reducible first | exact HB.out | apply below_alloc | apply pw_below_drewN | apply below_drew1) | exact HB.out))) : w.heap.size ≤ gb330)); clear HB; have HB := n0_; have BK330 := n1_; have GW330 := n2_; have GE330 := n3_; clear n0_ n1_ n2_ n3_; clear hb hbox hg) | ((with_reducible refine gate_callee (f := 23) rfl ?_); refine goesL_ (some 12) rfl rfl Try.func23 (by kernel_rfl) rfl #[.slice A0 l0.length c0] rfl (by (try simp only [List.map_toArray, List.map_cons, List.map_nil]); first | done | rfl | (simp only [List.length_drop, List.length_take]; rfl)) ?_; (with_reducible refine (catchwordref06_Unpack.calls k _ _ l0 t331 t332 _ ?side1 ?side2 A3.out).mono ?_); (case side1 => repeat (first | exact (Kd.C_below HR0.out HB.out) | (with_reducible refine Kd.C_alloc ?_ _) | (with_reducible refine Kd.C_drewN ?_ _) | (with_reducible refine Kd.C_drew ?_))); (case side2 => exact HC0.out); rintro e w6 ⟨v333, rfl, ho0, hb⟩; refine ⟨_, rfl, ?_⟩; have n0_ := Aside0.mk (Kd.S_lower (Kd.S_newB ho0 (g := gb330) (o := .cells #[.int .i64 0, .slice none 0 0] 39 (0, 0)) (by (with_reducible repeat (first | refine blk_drewN ?_ _ | refine blk_drew ?_ | refine blk_alloc ?_ _)); exact BK330.out)) (below_size (by repeat (first | (with_reducible first | exact HB.out | apply below_alloc | apply pw_below_drewN | apply below_drew1 | refine below_set ?_ GE330.out) | exact HB.out)))); have n1_ := Aside0.mk (blk_below (g := gb330) (o := .cells #[.int .i64 0, .slice none 0 0] 39 (0, 0)) (by (with_reducible repeat (first | refine blk_drewN ?_ _ | refine blk_drew ?_ | refine blk_alloc ?_ _)); exact BK330.out) hb); have n2_ := Aside0.mk (below_step (by repeat (first | (with_reducible first | exact HB.out | apply below_alloc | apply pw_below_drewN | apply below_drew1 | refine below_set ?_ GE330.out) | exact HB.out)) hb); clear BK330; clear HB; have HO334 := n0_; have BK330 := n1_; have HB := n2_; clear n0_ n1_ n2_; (try clear hb); (try clear hb2); (try clear hk); (try clear hi); (try clear ho0)))
  go_loopg [9] k (fun kq v9 w' => ∃ (x9_1 : Int) (x331000_1 : Int), v9 = .int .i64 x9_1 ∧ Aside0 (catchwordref06_Seek.l0 kq a1 t331 x9_1 = some (r1, r2, r3, r4)) ∧ Aside0 (kq ≤ k) ∧ Aside0 (Kd.S k39 39 w' w.heap.size (fun k_ => k_ ≠ gb330) v333 t331) ∧ Aside0 (w'.heap[gb330]? = some (.cells #[.int .i64 x331000_1, (.slice none 0 0)] 39 (0, 0))) ∧ Aside0 (Below w.heap.size w w'))
  case atStart => exact ⟨(0), (0), (by first | rfl | (simp; done) | (simp [*]; done)), H', ⟨Nat.le_refl _⟩, ⟨by (with_reducible repeat (first | apply Kd.S_alloc | apply Kd.S_drewN | apply Kd.S_drew)); exact Kd.S_mono HO334.out (fun _ hk => hk.2)⟩, ⟨by (with_reducible repeat (first | refine blk_drewN ?_ _ | refine blk_drew ?_ | refine blk_alloc ?_ _)); exact BK330.out⟩, ⟨by repeat (first | (with_reducible first | exact HB.out | apply below_alloc | apply pw_below_drewN | apply below_drew1 | refine below_set ?_ GE330.out) | exact HB.out)⟩⟩
  case round =>
   clear H'
   try clear c2
   try clear p2
   try clear c4
   try clear c4b0
   try clear c4b1
   obtain ⟨x9_1, x331000_1, rfl, HA, HK1, HO_7, BK330, HB⟩ := hrel
   cases gk with
   | zero => exact absurd HA.out (by simp [catchwordref06_Seek.l0])
   | succ k1 =>
    have H := HA.out
    clear HA
    simp only [catchwordref06_Seek.l0] at H
    by_cases c7 : x9_1 < (t331.length : Int)
    ·rw [if_pos c7] at H
     have c7b0 : decide (x9_1 < (t331.length : Int)) = true := decide_eq_true c7
     clear c7
     by_cases c8 : 0 ≤ x9_1
     ·rw [if_pos c8] at H
      have c8b0 : decide (0 ≤ x9_1) = true := decide_eq_true c8
      clear c8
      by_cases c9 : ((rd_T39 t331 x9_1).f0) ≥ a1
      ·rw [if_pos c9] at H
       have c9b0 : decide (a1 ≤ ((rd_T39 t331 x9_1).f0)) = true := decide_eq_true c9
       clear c9
       simp only [Option.some.injEq, Prod.mk.injEq] at H
       obtain ⟨rfl, rfl, rfl, rfl⟩ := H
       obtain ⟨Ao10, co10, eo10⟩ := Kd.S_slice HO_7.out
       subst eo10
       have p335 : 0 ≤ (x9_1 : Int) := of_decide_eq_true (by first | (with_reducible assumption) | assumption)
       have q335 : x9_1 < (t331.length : Int) := of_decide_eq_true (by first | (with_reducible assumption) | assumption)
       obtain ⟨ad335, A335_1, c335_1, e335, hx335_0, hx335_1, hl335_1, hi335_1⟩ := at_T39 (Kd.S_reads' HO_7.out).2.2 x9_1 p335 q335
       cases e335
       obtain ⟨ce335, hce335, hMe335, hcc335⟩ := Kd.S_get HO_7.out z39 x9_1 p335 (by first | exact q335 | exact of_decide_eq_true (by first | (with_reducible assumption) | assumption) | (have e_ := (Kd.S_reads' HO_7.out).1; omega))
       obtain ⟨ve335_1, rfl, ge335_1⟩ := k39_openM hMe335
       have hv335_1 := hcc335 1 _ rfl
       rw [add_field _ _ 1 (by omega)] at hv335_1
       replace hv335_1 := Option.some.inj (hv335_1.symm.trans hx335_1)
       rw [hv335_1] at ge335_1
       have HL335_1 := Aside0.mk (show Kd.R (Kd.int .i64) 3 _ _ _ _ ((rd_T39 t331 x9_1).f1) from ge335_1)
       clear hv335_1 ge335_1
       clear hcc335 hce335
       have HR335_1 := Aside0.mk hi335_1
       have HC335_1 := Aside0.mk hl335_1
       clear hi335_1 hl335_1
       replace p335 := eq_true p335
       replace q335 := eq_true q335
       have p336 : 0 ≤ (x9_1 : Int) := of_decide_eq_true (by first | (with_reducible assumption) | assumption)
       have q336 : x9_1 < (t331.length : Int) := of_decide_eq_true (by first | (with_reducible assumption) | assumption)
       obtain ⟨ad336, A336_1, c336_1, e336, hx336_0, hx336_1, hl336_1, hi336_1⟩ := at_T39 (Kd.S_reads' HO_7.out).2.2 x9_1 p336 q336
       obtain rfl : ad335 = ad336 := (by injection e336)
       obtain ⟨ce336, hce336, hMe336, hcc336⟩ := Kd.S_get HO_7.out z39 x9_1 p336 (by first | exact q336 | exact of_decide_eq_true (by first | (with_reducible assumption) | assumption) | (have e_ := (Kd.S_reads' HO_7.out).1; omega))
       obtain ⟨ve336_1, rfl, ge336_1⟩ := k39_openM hMe336
       have hv336_1 := hcc336 1 _ rfl
       rw [add_field _ _ 1 (by omega)] at hv336_1
       replace hv336_1 := Option.some.inj (hv336_1.symm.trans hx336_1)
       rw [hv336_1] at ge336_1
       have HL336_1 := Aside0.mk (show Kd.R (Kd.int .i64) 3 _ _ _ _ ((rd_T39 t331 x9_1).f1) from ge336_1)
       clear hv336_1 ge336_1
       clear hcc336 hce336
       have HR336_1 := Aside0.mk hi336_1
       have HC336_1 := Aside0.mk hl336_1
       clear hi336_1 hl336_1
       replace p336 := eq_true p336
       replace q336 := eq_true q336
       have ea_ := Option.some.inj (hx335_1.symm.trans hx336_1)
       injection ea_ with ea_ en_ ec_
       subst ea_
       subst ec_
       clear en_
       have hcz11_0 : wr.cell? ⟨gb330, 0, none⟩ = some (.int .i64 x331000_1) := (blk_cell BK330.out 0).trans rfl
       have hcz11_1 : wr.cell? ⟨gb330, 1, none⟩ = some (.slice none 0 0) := (blk_cell BK330.out 1).trans rfl
       have hfz11_0 := blk_frozen BK330.out 0
       have hfz11_1 := blk_frozen BK330.out 1
       go_wp2
       refine bodyPost_ret (results_ctt rfl _ _ gb330 39 #[.int .i64 ((rd_T39 t331 x9_1).f0), .slice A335_1 ((rd_T39 t331 x9_1).f1).length c335_1] (0, 0) _ rfl (by (with_reducible repeat (first | refine blk_drewN ?_ _ | refine blk_drew ?_ | refine blk_alloc ?_ _)); refine blk_put (cs := #[.int .i64 ((rd_T39 t331 x9_1).f0), .slice none 0 0]) ?_ 1 _ rfl; (with_reducible repeat (first | refine blk_drewN ?_ _ | refine blk_drew ?_ | refine blk_alloc ?_ _)); refine blk_put (cs := #[.int .i64 x331000_1, .slice none 0 0]) ?_ 0 _ rfl; (with_reducible repeat (first | refine blk_drewN ?_ _ | refine blk_drew ?_ | refine blk_alloc ?_ _)); exact BK330.out) Try.underlying39 rfl (by kernel_rfl)) rfl ?_
       exact ⟨_, by first | rfl | (simp [errW_none, errW_some] <;> rfl) | (simp [*, errW_none, errW_some] <;> rfl), by (with_reducible repeat (first | apply Kd.R_alloc | apply Kd.R_drewN | apply Kd.R_drew)); exact Kd.R_mono (Kd.R_far (p := ⟨gb330, 1, none⟩) (Kd.R_far (p := ⟨gb330, 0, none⟩) (Kd.R_types HL336_1.out BK330.out (by decide)) (fun _ hk => hk.2) (.int .i64 ((rd_T39 t331 x9_1).f0))) (fun _ hk => hk.2) (.slice A335_1 ((rd_T39 t331 x9_1).f1).length c335_1)) (fun _ hk => trivial), by repeat (first | (with_reducible first | exact HB.out | apply below_alloc | apply pw_below_drewN | apply below_drew1 | refine below_set ?_ GE330.out) | exact HB.out)⟩
      ·rw [if_neg c9] at H
       have c9b0 : decide (a1 ≤ ((rd_T39 t331 x9_1).f0)) = false := decide_eq_false c9
       clear c9
       have H' := Aside0.mk H
       clear H
       obtain ⟨Ao12, co12, eo12⟩ := Kd.S_slice HO_7.out
       subst eo12
       have p335 : 0 ≤ (x9_1 : Int) := of_decide_eq_true (by first | (with_reducible assumption) | assumption)
       have q335 : x9_1 < (t331.length : Int) := of_decide_eq_true (by first | (with_reducible assumption) | assumption)
       obtain ⟨ad335, A335_1, c335_1, e335, hx335_0, hx335_1, hl335_1, hi335_1⟩ := at_T39 (Kd.S_reads' HO_7.out).2.2 x9_1 p335 q335
       cases e335
       obtain ⟨ce335, hce335, hMe335, hcc335⟩ := Kd.S_get HO_7.out z39 x9_1 p335 (by first | exact q335 | exact of_decide_eq_true (by first | (with_reducible assumption) | assumption) | (have e_ := (Kd.S_reads' HO_7.out).1; omega))
       obtain ⟨ve335_1, rfl, ge335_1⟩ := k39_openM hMe335
       have hv335_1 := hcc335 1 _ rfl
       rw [add_field _ _ 1 (by omega)] at hv335_1
       replace hv335_1 := Option.some.inj (hv335_1.symm.trans hx335_1)
       rw [hv335_1] at ge335_1
       have HL335_1 := Aside0.mk (show Kd.R (Kd.int .i64) 3 _ _ _ _ ((rd_T39 t331 x9_1).f1) from ge335_1)
       clear hv335_1 ge335_1
       clear hcc335 hce335
       have HR335_1 := Aside0.mk hi335_1
       have HC335_1 := Aside0.mk hl335_1
       clear hi335_1 hl335_1
       replace p335 := eq_true p335
       replace q335 := eq_true q335
       go_wp2
       go_roundg k1
       case measure => have := HK1.out; omega
       case rel => exact ⟨(wrap64 (x9_1 + 1)), (x331000_1), (by first | rfl | (simp; done) | (simp [*]; done)), H', ⟨by have := HK1.out; omega⟩, ⟨by (with_reducible repeat (first | apply Kd.S_alloc | apply Kd.S_drewN | apply Kd.S_drew)); exact HO_7.out⟩, ⟨by (with_reducible repeat (first | refine blk_drewN ?_ _ | refine blk_drew ?_ | refine blk_alloc ?_ _)); exact BK330.out⟩, ⟨by repeat (first | (with_reducible first | exact HB.out | apply below_alloc | apply pw_below_drewN | apply below_drew1 | refine below_set ?_ GE330.out) | exact HB.out)⟩⟩
     ·rw [if_neg c8] at H
      exact absurd H (by simp)
    ·rw [if_neg c7] at H
     have c7b0 : decide (x9_1 < (t331.length : Int)) = false := decide_eq_false c7
     clear c7
     simp only [Option.some.injEq, Prod.mk.injEq] at H
     obtain ⟨rfl, rfl, rfl, rfl⟩ := H
     obtain ⟨Ao13, co13, eo13⟩ := Kd.S_slice HO_7.out
     subst eo13
     have hcz14_0 : wr.cell? ⟨gb330, 0, none⟩ = some (.int .i64 x331000_1) := (blk_cell BK330.out 0).trans rfl
     have hcz14_1 : wr.cell? ⟨gb330, 1, none⟩ = some (.slice none 0 0) := (blk_cell BK330.out 1).trans rfl
     have hfz14_0 := blk_frozen BK330.out 0
     have hfz14_1 := blk_frozen BK330.out 1
     go_wp2
     refine bodyPost_ret (results_ctt rfl _ _ gb330 39 #[.int .i64 0, .slice none 0 0] (0, 0) _ rfl (by (with_reducible repeat (first | refine blk_drewN ?_ _ | refine blk_drew ?_ | refine blk_alloc ?_ _)); refine blk_put (cs := #[.int .i64 0, .slice none 0 0]) ?_ 1 _ rfl; (with_reducible repeat (first | refine blk_drewN ?_ _ | refine blk_drew ?_ | refine blk_alloc ?_ _)); refine blk_put (cs := #[.int .i64 x331000_1, .slice none 0 0]) ?_ 0 _ rfl; (with_reducible repeat (first | refine blk_drewN ?_ _ | refine blk_drew ?_ | refine blk_alloc ?_ _)); exact BK330.out) Try.underlying39 rfl (by kernel_rfl)) rfl ?_
     exact ⟨_, by first | rfl | (simp [errW_none, errW_some] <;> rfl) | (simp [*, errW_none, errW_some] <;> rfl), by first | exact Kd.R_nil _ _ _ _ _ | exact Kd.N_nil _ _ _ _ _ | exact Kd.V_nil _ _ _ _ _ | exact Kd.Q_nil _ _ _ _ _ | exact Kd.S_nil _ _ _ _ _, by repeat (first | (with_reducible first | exact HB.out | apply below_alloc | apply pw_below_drewN | apply below_drew1 | refine below_set ?_ GE330.out) | exact HB.out)⟩
 ·rw [if_neg c4] at H
  have c4b0 : (t332 == 0) = false := beq_eq_false_iff_ne.mpr c4
  have c4b1 : (t332 != 0) = true := bne_iff_ne.mpr c4
  simp only [Option.some.injEq, Prod.mk.injEq] at H
  obtain ⟨rfl, rfl, rfl, rfl⟩ := H
  go_enter Try.func26, Try.ntmps26
  go_wp2_with (first | ((with_reducible refine gate_dst (N := 4) rfl ?_); refine box_event ?hg (N := 4) ?hd (cs := #[.int .i64 0, .slice none 0 0]) (t := 39) ?hr ?_; (case hd => rfl); (case hg => rfl); (case hr => first | (go_simp; done) | (go_simp; rfl)); intro gb330 hg w15 hbox hb; have n0_ := Aside0.mk (below_step (by repeat (first | (with_reducible first | exact HB.out | apply below_alloc | apply pw_below_drewN | apply below_drew1) | exact HB.out)) hb); have n1_ := Aside0.mk (hbox); have n2_ := Aside0.mk ((by rw [hg]; exact (below_size (by repeat (first | (with_reducible first | exact HB.out | apply below_alloc | apply pw_below_drewN | apply below_drew1) | exact HB.out))) : w.heap.size ≤ gb330)); have n3_ := Aside0.mk ((by rw [hg]; exact (below_size (by repeat (first | (with_reducible first | exact HB.out | apply below_alloc | apply pw_below_drewN | apply below_drew1) | exact HB.out))) : w.heap.size ≤ gb330)); clear HB; have HB := n0_; have BK330 := n1_; have GW330 := n2_; have GE330 := n3_; clear n0_ n1_ n2_ n3_; clear hb hbox hg) | ((with_reducible refine gate_callee (f := 23) rfl ?_); refine goesL_ (some 12) rfl rfl Try.func23 (by kernel_rfl) rfl #[.slice A0 l0.length c0] rfl (by (try simp only [List.map_toArray, List.map_cons, List.map_nil]); first | done | rfl | (simp only [List.length_drop, List.length_take]; rfl)) ?_; (with_reducible refine (catchwordref06_Unpack.calls k _ _ l0 t331 t332 _ ?side1 ?side2 A3.out).mono ?_); (case side1 => repeat (first | exact (Kd.C_below HR0.out HB.out) | (with_reducible refine Kd.C_alloc ?_ _) | (with_reducible refine Kd.C_drewN ?_ _) | (with_reducible refine Kd.C_drew ?_))); (case side2 => exact HC0.out); rintro e w16 ⟨v333, rfl, ho0, hb⟩; refine ⟨_, rfl, ?_⟩; have n0_ := Aside0.mk (Kd.S_lower (Kd.S_newB ho0 (g := gb330) (o := .cells #[.int .i64 0, .slice none 0 0] 39 (0, 0)) (by (with_reducible repeat (first | refine blk_drewN ?_ _ | refine blk_drew ?_ | refine blk_alloc ?_ _)); exact BK330.out)) (below_size (by repeat (first | (with_reducible first | exact HB.out | apply below_alloc | apply pw_below_drewN | apply below_drew1 | refine below_set ?_ GE330.out) | exact HB.out)))); have n1_ := Aside0.mk (blk_below (g := gb330) (o := .cells #[.int .i64 0, .slice none 0 0] 39 (0, 0)) (by (with_reducible repeat (first | refine blk_drewN ?_ _ | refine blk_drew ?_ | refine blk_alloc ?_ _)); exact BK330.out) hb); have n2_ := Aside0.mk (below_step (by repeat (first | (with_reducible first | exact HB.out | apply below_alloc | apply pw_below_drewN | apply below_drew1 | refine below_set ?_ GE330.out) | exact HB.out)) hb); clear BK330; clear HB; have HO334 := n0_; have BK330 := n1_; have HB := n2_; clear n0_ n1_ n2_; (try clear hb); (try clear hb2); (try clear hk); (try clear hi); (try clear ho0); have hcz17_0 : w16.cell? ⟨gb330, 0, none⟩ = some (.int .i64 0) := (blk_cell BK330.out 0).trans rfl; have hcz17_1 : w16.cell? ⟨gb330, 1, none⟩ = some (.slice none 0 0) := (blk_cell BK330.out 1).trans rfl; have hfz17_0 := blk_frozen BK330.out 0; have hfz17_1 := blk_frozen BK330.out 1))
  refine bodyPost_ret (results_ctt rfl _ _ gb330 39 #[.int .i64 0, .slice none 0 0] (0, 0) _ rfl (by (with_reducible repeat (first | refine blk_drewN ?_ _ | refine blk_drew ?_ | refine blk_alloc ?_ _)); refine blk_put (cs := #[.int .i64 0, .slice none 0 0]) ?_ 1 _ rfl; (with_reducible repeat (first | refine blk_drewN ?_ _ | refine blk_drew ?_ | refine blk_alloc ?_ _)); refine blk_put (cs := #[.int .i64 0, .slice none 0 0]) ?_ 0 _ rfl; (with_reducible repeat (first | refine blk_drewN ?_ _ | refine blk_drew ?_ | refine blk_alloc ?_ _)); exact BK330.out) Try.underlying39 rfl (by kernel_rfl)) rfl ?_
  exact ⟨_, by first | rfl | (simp [errW_none, errW_some] <;> rfl) | (simp [*, errW_none, errW_some] <;> rfl), by first | exact Kd.R_nil _ _ _ _ _ | exact Kd.N_nil _ _ _ _ _ | exact Kd.V_nil _ _ _ _ _ | exact Kd.Q_nil _ _ _ _ _ | exact Kd.S_nil _ _ _ _ _, by repeat (first | (with_reducible first | exact HB.out | apply below_alloc | apply pw_below_drewN | apply below_drew1 | refine below_set ?_ GE330.out) | exact HB.out)⟩

/-! ### catchwordlaw06_PostSeeks: function 5 -/
def catchwordlaw06_PostSeeks.j0 : Nat → List Int → Int → Bool → Bool → Option (Bool)
 | 0, _, _, _, _ => none
 | k + 1, x0, x1, x5, x20 => if x20 = true then (some x5) else ((post_Seek.f x0 x1).bind fun bt338 => ((catchwordref06_Seek.f k x0 x1).bind fun bt345 => ((catchwordref06_Same.f k (([(⟨bt338.1, bt338.2.1⟩ : S39)] : List (S39))) (([(⟨bt345.1, bt345.2.1⟩ : S39)] : List (S39)))).bind fun t358 => (if t358 = true then (if bt338.2.2.1 = bt345.2.2.1 then (some (bt338.2.2.2 == bt345.2.2.2)) else (some false)) else (some false)))))
def catchwordlaw06_PostSeeks.f (k : Nat) (l0 : List Int) (a1 : Int) : Option (Bool) := (catchwordlaw06_awake.f).bind fun t337 => (if t337 = true then (catchwordlaw06_PostSeeks.j0 k l0 a1 t337 (decide ((l0.length : Int) > 3000))) else (catchwordlaw06_PostSeeks.j0 k l0 a1 t337 true))
theorem catchwordlaw06_PostSeeks.mono_l : ∀ k, (∀ y0 y1 y2 y3, LeO (catchwordlaw06_PostSeeks.j0 k y0 y1 y2 y3) (catchwordlaw06_PostSeeks.j0 (k + 1) y0 y1 y2 y3))
 | 0 => fun _ _ _ _ r h => by simp [catchwordlaw06_PostSeeks.j0] at h
 | k + 1 => by
  have ih0 := catchwordlaw06_PostSeeks.mono_l k
  ·intro y0 y1 y2 y3
   unfold catchwordlaw06_PostSeeks.j0
   repeat' first
   | (with_reducible exact ih0 _ _ _ _)
   | (with_reducible exact catchwordref06_Same.mono _ _ _)
   | (with_reducible exact catchwordref06_Seek.mono _ _ _)
   | (with_reducible exact LeO.refl _)
   | (with_reducible exact LeO.none _)
   | (with_reducible refine LeO.ite ?_ ?_)
   | (with_reducible refine LeO.bind ?_ (fun _ => ?_))
   | exact ih0 _ _ _ _
   | exact catchwordref06_Same.mono _ _ _
   | exact catchwordref06_Seek.mono _ _ _
   | exact LeO.none _
   | refine LeO.ite ?_ ?_
   | refine LeO.bind ?_ (fun _ => ?_)
theorem catchwordlaw06_PostSeeks.mono : ∀ a0 a1 k, LeO (catchwordlaw06_PostSeeks.f k a0 a1) (catchwordlaw06_PostSeeks.f (k + 1) a0 a1) := by
 intro a0 a1 k
 have ih0 := catchwordlaw06_PostSeeks.mono_l k
 unfold catchwordlaw06_PostSeeks.f
 repeat' first
   | (with_reducible exact ih0 _ _ _ _)
   | (with_reducible exact catchwordref06_Same.mono _ _ _)
   | (with_reducible exact catchwordref06_Seek.mono _ _ _)
   | (with_reducible exact LeO.refl _)
   | (with_reducible exact LeO.none _)
   | (with_reducible refine LeO.ite ?_ ?_)
   | (with_reducible refine LeO.bind ?_ (fun _ => ?_))
   | exact ih0 _ _ _ _
   | exact catchwordref06_Same.mono _ _ _
   | exact catchwordref06_Seek.mono _ _ _
   | exact LeO.none _
   | refine LeO.ite ?_ ?_
   | refine LeO.bind ?_ (fun _ => ?_)
set_option maxHeartbeats 8000000 in
set_option maxRecDepth 100000 in
theorem catchwordlaw06_PostSeeks.calls (k : Nat) (A0 : Option Addr) (c0 : Nat) (l0 : List Int) (a1 : Int) (r : Bool) (w : World) (hr0 : Kd.C (Kd.int .u8) w A0 l0.length l0) (hc0 : l0.length ≤ c0) (h : catchwordlaw06_PostSeeks.f k l0 a1 = some r) :
  Calls Try.prog 5 #[.slice A0 l0.length c0, .int .i64 a1] w fun e w' => e = .returned (.bool r) ∧ Below w.heap.size w w' := by
 have hu39 := Try.underlying39
 have HR0 := Aside0.mk hr0
 have HC0 := Aside0.mk hc0
 clear hr0 hc0
 have HB := Aside0.mk (Below.refl w.heap.size w)
 have H : ((catchwordlaw06_awake.f).bind fun t337 => (if t337 = true then (catchwordlaw06_PostSeeks.j0 k l0 a1 t337 (decide ((l0.length : Int) > 3000))) else (catchwordlaw06_PostSeeks.j0 k l0 a1 t337 true))) = some r := h
 clear h
 replace H := Option.bind_eq_some_iff.mp H
 obtain ⟨t337, A30, H⟩ := H
 replace H : (if t337 = true then (catchwordlaw06_PostSeeks.j0 k l0 a1 t337 (decide ((l0.length : Int) > 3000))) else (catchwordlaw06_PostSeeks.j0 k l0 a1 t337 true)) = some r := H
 have A3 := Aside0.mk A30
 clear A30
 have HC4 := Aside0.mk H
 clear H
 go_enter Try.func5, Try.ntmps5
 go_upto_region 2 with (first | ((with_reducible refine gate_callee (f := 10) rfl ?_); refine goesL_ (some 13) rfl rfl Try.func10 (by kernel_rfl) rfl #[] rfl (by (try simp only [List.map_toArray, List.map_cons, List.map_nil]); first | done | rfl | (simp only [List.length_drop, List.length_take]; rfl)) ?_; (with_reducible refine (catchwordlaw06_awake.calls  t337 _ A3.out).mono ?_); rintro e w5 ⟨rfl, hb⟩; refine ⟨_, rfl, ?_⟩; have n0_ := Aside0.mk (below_step (by repeat (first | (with_reducible first | exact HB.out | apply below_alloc | apply pw_below_drewN | apply below_drew1) | exact HB.out)) hb); clear HB; have HB := n0_; clear n0_; (try clear hb); (try clear hb2); (try clear hk); (try clear hi)))
 (try simp only [Act.put, List.setIfInBounds_toArray, List.set_cons_zero, List.set_cons_succ])
 go_cut [20] (fun v20 wc => ∃ (kq : Nat) (x20_3 : Bool), v20 = .bool x20_3 ∧ Aside0 (catchwordlaw06_PostSeeks.j0 kq l0 a1 t337 x20_3 = some r) ∧ Aside0 (kq ≤ k) ∧ Aside0 (Below w.heap.size w wc))
 case first =>
  have H := HC4.out
  clear HC4
  by_cases c6 : t337 = true
  ·subst c6
   have H1 : (catchwordlaw06_PostSeeks.j0 k l0 a1 true (decide ((l0.length : Int) > 3000))) = some r := by rw [if_pos rfl] at H; exact H
   clear H
   have H := H1
   clear H1
   have H' := Aside0.mk H
   clear H
   go_wp2
   go_meet
   case rel => exact ⟨_, (decide ((l0.length : Int) > 3000)), (by first | rfl | (simp; done) | (simp [*]; done)), H', ⟨by first | omega | exact Nat.le_refl _⟩, ⟨by repeat (first | (with_reducible first | exact HB.out | apply below_alloc | apply pw_below_drewN | apply below_drew1) | exact HB.out)⟩⟩
  ·replace c6 := Bool.eq_false_iff.mpr c6
   subst c6
   have H1 : (catchwordlaw06_PostSeeks.j0 k l0 a1 false true) = some r := by rw [if_neg (show ¬ (false = true) by decide)] at H; exact H
   clear H
   have H := H1
   clear H1
   have H' := Aside0.mk H
   clear H
   go_wp2
   go_meet
   case rel => exact ⟨_, (true), (by first | rfl | (simp; done) | (simp [*]; done)), H', ⟨by first | omega | exact Nat.le_refl _⟩, ⟨by repeat (first | (with_reducible first | exact HB.out | apply below_alloc | apply pw_below_drewN | apply below_drew1) | exact HB.out)⟩⟩
 case rest =>
  clear HC4
  try clear c1
  try clear p2
  try clear c5
  try clear c6
  obtain ⟨kq, x20_3, rfl, HA, HJ3, HB⟩ := hcut
  cases kq with
  | zero => exact absurd HA.out (by simp [catchwordlaw06_PostSeeks.j0])
  | succ kj3 =>
   have H := HA.out
   clear HA
   simp only [catchwordlaw06_PostSeeks.j0] at H
   by_cases c7 : x20_3 = true
   ·subst c7
    have H1 : (some t337) = some r := by rw [if_pos rfl] at H; exact H
    clear H
    have H := H1
    clear H1
    obtain rfl := Option.some.inj H
    go_wp2
    go_ret
    exact ⟨by first | rfl | (simp [errW_none, errW_some] <;> rfl) | (simp [*, errW_none, errW_some] <;> rfl), by repeat (first | (with_reducible first | exact HB.out | apply below_alloc | apply pw_below_drewN | apply below_drew1) | exact HB.out)⟩
   ·replace c7 := Bool.eq_false_iff.mpr c7
    subst c7
    have H1 : ((post_Seek.f l0 a1).bind fun bt338 => ((catchwordref06_Seek.f kj3 l0 a1).bind fun bt345 => ((catchwordref06_Same.f kj3 (([(⟨bt338.1, bt338.2.1⟩ : S39)] : List (S39))) (([(⟨bt345.1, bt345.2.1⟩ : S39)] : List (S39)))).bind fun t358 => (if t358 = true then (if bt338.2.2.1 = bt345.2.2.1 then (some (bt338.2.2.2 == bt345.2.2.2)) else (some false)) else (some false))))) = some r := by rw [if_neg (show ¬ (false = true) by decide)] at H; exact H
    clear H
    have H := H1
    clear H1
    replace H := Option.bind_eq_some_iff.mp H
    obtain ⟨⟨t338, t339, t342, t343⟩, A80, H⟩ := H
    replace H : ((catchwordref06_Seek.f kj3 l0 a1).bind fun bt345 => ((catchwordref06_Same.f kj3 (([(⟨t338, t339⟩ : S39)] : List (S39))) (([(⟨bt345.1, bt345.2.1⟩ : S39)] : List (S39)))).bind fun t358 => (if t358 = true then (if t342 = bt345.2.2.1 then (some (t343 == bt345.2.2.2)) else (some false)) else (some false)))) = some r := H
    have A8 := Aside0.mk A80
    clear A80
    replace H := Option.bind_eq_some_iff.mp H
    obtain ⟨⟨t345, t346, t349, t350⟩, A90, H⟩ := H
    replace H : ((catchwordref06_Same.f kj3 (([(⟨t338, t339⟩ : S39)] : List (S39))) (([(⟨t345, t346⟩ : S39)] : List (S39)))).bind fun t358 => (if t358 = true then (if t342 = t349 then (some (t343 == t350)) else (some false)) else (some false))) = some r := H
    have A9 := Aside0.mk A90
    clear A90
    obtain ⟨y352, hy352⟩ : ∃ y_ : List (S39), y_ = (([(⟨t338, t339⟩ : S39)] : List (S39))) := ⟨_, rfl⟩
    replace H : ((catchwordref06_Same.f kj3 y352 (([(⟨t345, t346⟩ : S39)] : List (S39)))).bind fun t358 => (if t358 = true then (if t342 = t349 then (some (t343 == t350)) else (some false)) else (some false))) = some r := by first | (rw [hy352]; with_reducible exact H) | (have H2_ := (Option.bind_some _ _).symm.trans H; rw [hy352]; with_reducible exact H2_) | (have H2_ := (Option.bind_some _ _).symm.trans H; with_reducible exact H2_) | with_reducible exact H | (rw [hy352]; exact H) | exact H
    have Ny352 := Aside0.mk hy352
    clear hy352
    obtain ⟨y355, hy355⟩ : ∃ y_ : List (S39), y_ = (([(⟨t345, t346⟩ : S39)] : List (S39))) := ⟨_, rfl⟩
    replace H : ((catchwordref06_Same.f kj3 y352 y355).bind fun t358 => (if t358 = true then (if t342 = t349 then (some (t343 == t350)) else (some false)) else (some false))) = some r := by first | (rw [hy355]; with_reducible exact H) | (have H2_ := (Option.bind_some _ _).symm.trans H; rw [hy355]; with_reducible exact H2_) | (have H2_ := (Option.bind_some _ _).symm.trans H; with_reducible exact H2_) | with_reducible exact H | (rw [hy355]; exact H) | exact H
    have Ny355 := Aside0.mk hy355
    clear hy355
    replace H := Option.bind_eq_some_iff.mp H
    obtain ⟨t358, A100, H⟩ := H
    replace H : (if t358 = true then (if t342 = t349 then (some (t343 == t350)) else (some false)) else (some false)) = some r := H
    have A10 := Aside0.mk A100
    clear A100
    by_cases c11 : t358 = true
    ·subst c11
     have H1 : (if t342 = t349 then (some (t343 == t350)) else (some false)) = some r := by rw [if_pos rfl] at H; exact H
     clear H
     have H := H1
     clear H1
     by_cases c12 : t342 = t349
     ·rw [if_pos c12] at H
      have c12b0 : (t342 == t349) = true := beq_iff_eq.mpr c12
      have c12b1 : (t342 != t349) = false := bne_eq_false_iff_eq.mpr c12
      clear c12
      obtain rfl := Option.some.inj H
      go_wp2_with (first | ((with_reducible refine gate_callee (f := 25) rfl ?_); refine goesL_ (some 25) rfl rfl Try.func25 (by kernel_rfl) rfl #[.slice A0 l0.length c0, .int .i64 a1] rfl (by (try simp only [List.map_toArray, List.map_cons, List.map_nil]); first | done | rfl | (simp only [List.length_drop, List.length_take]; rfl)) ?_; (with_reducible refine (post_Seek.calls _ _ l0 a1 t338 t339 t342 t343 _ ?side1 ?side2 A8.out).mono ?_); (case side1 => repeat (first | exact (Kd.C_below HR0.out HB.out) | (with_reducible refine Kd.C_alloc ?_ _) | (with_reducible refine Kd.C_drewN ?_ _) | (with_reducible refine Kd.C_drew ?_))); (case side2 => exact HC0.out); rintro e w13 ⟨v340, rfl, ho0, hb⟩; refine ⟨_, rfl, ?_⟩; have n0_ := Aside0.mk (Kd.R_lower ho0 (below_size (by repeat (first | (with_reducible first | exact HB.out | apply below_alloc | apply pw_below_drewN | apply below_drew1) | exact HB.out)))); have n1_ := Aside0.mk (below_step (by repeat (first | (with_reducible first | exact HB.out | apply below_alloc | apply pw_below_drewN | apply below_drew1) | exact HB.out)) hb); clear HB; have HO341 := n0_; have HB := n1_; clear n0_ n1_; (try clear hb); (try clear hb2); (try clear hk); (try clear hi); (try clear ho0)) | ((with_reducible refine gate_dst (N := 6) rfl ?_); (try (refine gate_guard (by rfl) ?_; dsimp only)); refine box_event ?hg (N := 6) ?hd (cs := #[.int .i64 0, .slice none 0 0]) (t := 39) ?hr ?_; (case hd => rfl); (case hg => rfl); (case hr => first | (go_simp; done) | (go_simp; rfl)); intro gb344 hg w14 hbox hb; have n0_ := Aside0.mk (Kd.R_below (by (with_reducible repeat (first | apply Kd.R_alloc | apply Kd.R_drewN | apply Kd.R_drew)); exact HO341.out) hb); have n1_ := Aside0.mk (below_step (by repeat (first | (with_reducible first | exact HB.out | apply below_alloc | apply pw_below_drewN | apply below_drew1) | exact HB.out)) hb); have n2_ := Aside0.mk (hbox); have n3_ := Aside0.mk ((by rw [hg]; exact (below_size (by repeat (first | (with_reducible first | exact HB.out | apply below_alloc | apply pw_below_drewN | apply below_drew1) | exact HB.out))) : w.heap.size ≤ gb344)); have n4_ := Aside0.mk ((by rw [hg]; exact (below_size (by repeat (first | (with_reducible first | exact HB.out | apply below_alloc | apply pw_below_drewN | apply below_drew1) | exact HB.out))) : w.heap.size ≤ gb344)); clear HO341; clear HB; have HO341 := n0_; have HB := n1_; have BK344 := n2_; have GW344 := n3_; have GE344 := n4_; clear n0_ n1_ n2_ n3_ n4_; clear hb hbox hg; have hcz15_0 : w14.cell? ⟨gb344, 0, none⟩ = some (.int .i64 0) := (blk_cell BK344.out 0).trans rfl; have hcz15_1 : w14.cell? ⟨gb344, 1, none⟩ = some (.slice none 0 0) := (blk_cell BK344.out 1).trans rfl; have hfz15_0 := blk_frozen BK344.out 0; have hfz15_1 := blk_frozen BK344.out 1; obtain ⟨Ao16, co16, eo16⟩ := Kd.R_slice HO341.out; subst eo16) | ((with_reducible refine gate_callee (f := 26) rfl ?_); refine goesL_ (some 32) rfl rfl Try.func26 (by kernel_rfl) rfl #[.slice A0 l0.length c0, .int .i64 a1] rfl (by (try simp only [List.map_toArray, List.map_cons, List.map_nil]); first | done | rfl | (simp only [List.length_drop, List.length_take]; rfl)) ?_; (with_reducible refine (catchwordref06_Seek.calls kj3 _ _ l0 a1 t345 t346 t349 t350 _ ?side1 ?side2 A9.out).mono ?_); (case side1 => exact Kd.C_below HR0.out (by repeat (first | (with_reducible first | exact HB.out | apply below_alloc | apply pw_below_drewN | apply below_drew1 | refine below_set ?_ GE344.out) | exact HB.out))); (case side2 => exact HC0.out); rintro e w17 ⟨v347, rfl, ho0, hb⟩; refine ⟨_, rfl, ?_⟩; have n0_ := Aside0.mk (Kd.R_elder' (by (with_reducible repeat (first | apply Kd.R_alloc | apply Kd.R_drewN | apply Kd.R_drew)); exact (Kd.R_mono (Kd.R_far (p := ⟨gb344, 1, none⟩) (Kd.R_far (p := ⟨gb344, 0, none⟩) (Kd.R_types HO341.out BK344.out (by decide)) (fun _ hk => hk.2) (.int .i64 t338)) (fun _ hk => hk.2) (.slice Ao16 t339.length co16)) (fun _ h_ => h_.1))) (Kd.R_base ho0) hb); have n1_ := Aside0.mk (Kd.R_lower (Kd.R_new' ho0 (Kd.R_lt (by (with_reducible repeat (first | apply Kd.R_alloc | apply Kd.R_drewN | apply Kd.R_drew)); exact (Kd.R_mono (Kd.R_far (p := ⟨gb344, 1, none⟩) (Kd.R_far (p := ⟨gb344, 0, none⟩) (Kd.R_types HO341.out BK344.out (by decide)) (fun _ hk => hk.2) (.int .i64 t338)) (fun _ hk => hk.2) (.slice Ao16 t339.length co16)) (fun _ h_ => h_.1))))) (below_size (by repeat (first | (with_reducible first | exact HB.out | apply below_alloc | apply pw_below_drewN | apply below_drew1 | refine below_set ?_ GE344.out) | exact HB.out)))); have n2_ := Aside0.mk (blk_below (g := gb344) (o := .cells #[.int .i64 t338, .slice Ao16 t339.length co16] 39 (0, 0)) (by (with_reducible repeat (first | refine blk_drewN ?_ _ | refine blk_drew ?_ | refine blk_alloc ?_ _)); refine blk_put (cs := #[.int .i64 t338, .slice none 0 0]) ?_ 1 _ rfl; (with_reducible repeat (first | refine blk_drewN ?_ _ | refine blk_drew ?_ | refine blk_alloc ?_ _)); refine blk_put (cs := #[.int .i64 0, .slice none 0 0]) ?_ 0 _ rfl; (with_reducible repeat (first | refine blk_drewN ?_ _ | refine blk_drew ?_ | refine blk_alloc ?_ _)); exact BK344.out) hb); have n3_ := Aside0.mk (below_step (by repeat (first | (with_reducible first | exact HB.out | apply below_alloc | apply pw_below_drewN | apply below_drew1 | refine below_set ?_ GE344.out) | exact HB.out)) hb); clear HO341; clear BK344; clear HB; have HO341 := n0_; have HO348 := n1_; have BK344 := n2_; have HB := n3_; clear n0_ n1_ n2_ n3_; (try clear hb); (try clear hb2); (try clear hk); (try clear hi); (try clear ho0)) | ((with_reducible refine gate_dst (N := 9) rfl ?_); (try (refine gate_guard (by rfl) ?_; dsimp only)); refine box_event ?hg (N := 9) ?hd (cs := #[.int .i64 0, .slice none 0 0]) (t := 39) ?hr ?_; (case hd => rfl); (case hg => rfl); (case hr => first | (go_simp; done) | (go_simp; rfl)); intro gb351 hg w18 hbox hb; have n0_ := Aside0.mk (Kd.R_below (by (with_reducible repeat (first | apply Kd.R_alloc | apply Kd.R_drewN | apply Kd.R_drew)); exact HO341.out) hb); have n1_ := Aside0.mk (Kd.R_below (by (with_reducible repeat (first | apply Kd.R_alloc | apply Kd.R_drewN | apply Kd.R_drew)); exact HO348.out) hb); have n2_ := Aside0.mk (blk_below (g := gb344) (o := .cells #[.int .i64 t338, .slice Ao16 t339.length co16] 39 (0, 0)) (by (with_reducible repeat (first | refine blk_drewN ?_ _ | refine blk_drew ?_ | refine blk_alloc ?_ _)); exact BK344.out) hb); have n3_ := Aside0.mk (below_step (by repeat (first | (with_reducible first | exact HB.out | apply below_alloc | apply pw_below_drewN | apply below_drew1 | refine below_set ?_ GE344.out) | exact HB.out)) hb); have n4_ := Aside0.mk (hbox); have n5_ := Aside0.mk ((by rw [hg]; exact (below_size (by repeat (first | (with_reducible first | exact HB.out | apply below_alloc | apply pw_below_drewN | apply below_drew1 | refine below_set ?_ GE344.out) | exact HB.out))) : w.heap.size ≤ gb351)); have n6_ := Aside0.mk ((by rw [hg]; exact (below_size (by repeat (first | (with_reducible first | exact HB.out | apply below_alloc | apply pw_below_drewN | apply below_drew1 | refine below_set ?_ GE344.out) | exact HB.out))) : w.heap.size ≤ gb351)); have n7_ := Aside0.mk ((by rw [hg]; exact Nat.ne_of_lt (blk_lt (g := gb344) (o := .cells #[.int .i64 t338, .slice Ao16 t339.length co16] 39 (0, 0)) (by (with_reducible repeat (first | refine blk_drewN ?_ _ | refine blk_drew ?_ | refine blk_alloc ?_ _)); exact BK344.out)) : gb344 ≠ gb351)); have n8_ := Aside0.mk ((by rw [hg]; exact Nat.ne_of_gt (blk_lt (g := gb344) (o := .cells #[.int .i64 t338, .slice Ao16 t339.length co16] 39 (0, 0)) (by (with_reducible repeat (first | refine blk_drewN ?_ _ | refine blk_drew ?_ | refine blk_alloc ?_ _)); exact BK344.out)) : gb351 ≠ gb344)); clear HO341; clear HO348; clear BK344; clear HB; have HO341 := n0_; have HO348 := n1_; have BK344 := n2_; have HB := n3_; have BK351 := n4_; have GW351 := n5_; have GE351 := n6_; have NB344_351 := n7_; have NB351_344 := n8_; clear n0_ n1_ n2_ n3_ n4_ n5_ n6_ n7_ n8_; clear hb hbox hg; have hnb19 := NB351_344.out; have hnc19 := NB344_351.out; have hcz20_0 : w18.cell? ⟨gb351, 0, none⟩ = some (.int .i64 0) := (blk_cell BK351.out 0).trans rfl; have hcz20_1 : w18.cell? ⟨gb351, 1, none⟩ = some (.slice none 0 0) := (blk_cell BK351.out 1).trans rfl; have hfz20_0 := blk_frozen BK351.out 0; have hfz20_1 := blk_frozen BK351.out 1; obtain ⟨Ao21, co21, eo21⟩ := Kd.R_slice HO348.out; subst eo21) | ((with_reducible refine gate_store (t := 39) (p := 9) rfl ?_); refine store_event (t := 39) (p := 9) (v := ?vo_w22) (w1 := ((w18.setCell ⟨gb351, 0, none⟩ (.int .i64 t345)).setCell ⟨gb351, 1, none⟩ (.slice Ao21 t346.length co21))) ?hg ?ho ?hn ?hr ?_; (case ho => rfl); (case hg => rfl); (case hn => rfl); (case hr => first | (go_simp; done) | (go_simp; rfl)); intro w22 hw; have n0_ : Aside0 (Kd.R (Kd.int .i64) 3 w22 w.heap.size (fun k_ => some k_ ≠ (.slice Ao21 t346.length co21 : Value).ownBlock) (.slice Ao16 t339.length co16) t339) := ⟨(by rw [hw]; exact (by (with_reducible repeat (first | apply Kd.R_alloc | apply Kd.R_drewN | apply Kd.R_drew)); exact Kd.R_mono (Kd.R_far (p := ⟨gb351, 1, none⟩) (Kd.R_far (p := ⟨gb351, 0, none⟩) (Kd.R_types HO341.out BK351.out (by decide)) (fun _ hk => hk.2) (.int .i64 t345)) (fun _ hk => hk.2) (.slice Ao21 t346.length co21)) (fun _ hk => hk.1.2)))⟩; have n1_ : Aside0 (Kd.R (Kd.int .i64) 3 w22 w.heap.size (fun k_ => some k_ ≠ (.slice Ao16 t339.length co16 : Value).ownBlock) (.slice Ao21 t346.length co21) t346) := ⟨(by rw [hw]; exact (by (with_reducible repeat (first | apply Kd.R_alloc | apply Kd.R_drewN | apply Kd.R_drew)); exact Kd.R_mono (Kd.R_far (p := ⟨gb351, 1, none⟩) (Kd.R_far (p := ⟨gb351, 0, none⟩) (Kd.R_types HO348.out BK351.out (by decide)) (fun _ hk => hk.2) (.int .i64 t345)) (fun _ hk => hk.2) (.slice Ao21 t346.length co21)) (fun _ hk => hk.1.2)))⟩; have n2_ : Aside0 (w22.heap[gb344]? = some (.cells #[.int .i64 t338, .slice Ao16 t339.length co16] 39 (0, 0))) := ⟨(by rw [hw]; exact (by (with_reducible repeat (first | refine blk_drewN ?_ _ | refine blk_drew ?_ | refine blk_alloc ?_ _)); refine blk_far ?_ NB344_351.out _; (with_reducible repeat (first | refine blk_drewN ?_ _ | refine blk_drew ?_ | refine blk_alloc ?_ _)); refine blk_far ?_ NB344_351.out _; (with_reducible repeat (first | refine blk_drewN ?_ _ | refine blk_drew ?_ | refine blk_alloc ?_ _)); exact BK344.out))⟩; have n3_ : Aside0 (w22.heap[gb351]? = some (.cells #[.int .i64 t345, .slice Ao21 t346.length co21] 39 (0, 0))) := ⟨(by rw [hw]; exact (by (with_reducible repeat (first | refine blk_drewN ?_ _ | refine blk_drew ?_ | refine blk_alloc ?_ _)); refine blk_put (cs := #[.int .i64 t345, .slice none 0 0]) ?_ 1 _ rfl; (with_reducible repeat (first | refine blk_drewN ?_ _ | refine blk_drew ?_ | refine blk_alloc ?_ _)); refine blk_put (cs := #[.int .i64 0, .slice none 0 0]) ?_ 0 _ rfl; (with_reducible repeat (first | refine blk_drewN ?_ _ | refine blk_drew ?_ | refine blk_alloc ?_ _)); exact BK351.out))⟩; have n4_ : Aside0 (Below w.heap.size w w22) := ⟨(by rw [hw]; exact (by repeat (first | (with_reducible first | exact HB.out | apply below_alloc | apply pw_below_drewN | apply below_drew1 | refine below_set ?_ GE344.out | refine below_set ?_ GE351.out) | exact HB.out)))⟩; clear hw; clear HO341; clear HO348; clear BK344; clear BK351; clear HB; have HO341 := n0_; have HO348 := n1_; have BK344 := n2_; have BK351 := n3_; have HB := n4_; clear n0_ n1_ n2_ n3_ n4_; have hcz23_0 : w22.cell? ⟨gb344, 0, none⟩ = some (.int .i64 t338) := (blk_cell BK344.out 0).trans rfl; have hcz23_1 : w22.cell? ⟨gb344, 1, none⟩ = some (.slice Ao16 t339.length co16) := (blk_cell BK344.out 1).trans rfl; have hfz23_0 := blk_frozen BK344.out 0; have hfz23_1 := blk_frozen BK344.out 1) | ((with_reducible refine gate_dst (N := 37) rfl ?_); (try (refine gate_guard (by rfl) ?_; dsimp only)); refine Kd.N_lit k39 _ 39 ?hg (N' := 37) ?hd (xs := ([(⟨t338, t339⟩ : S39)] : List (S39))) (inner := [.int .i64 t338, .slice Ao16 t339.length co16]) (ok := (fun k_ => some k_ ≠ (.slice Ao21 t346.length co21 : Value).ownBlock ∧ k_ ≠ gb344 ∧ k_ ≠ gb351)) (okp := (fun k_ => some k_ ≠ (.slice Ao21 t346.length co21 : Value).ownBlock ∧ k_ ≠ gb344 ∧ k_ ≠ gb351)) ?hr ?hp (fun _ hk => hk) ((show ∀ k_, w22.heap.size ≤ k_ → (fun k_ => some k_ ≠ (.slice Ao21 t346.length co21 : Value).ownBlock ∧ k_ ≠ gb344 ∧ k_ ≠ gb351) k_ from fun k_ hk => ⟨Kd.fresh' (Kd.R_lt (by (with_reducible repeat (first | apply Kd.R_alloc | apply Kd.R_drewN | apply Kd.R_drew)); exact HO348.out)) k_ hk, Kd.freshB (g := gb344) (o := .cells #[.int .i64 t338, .slice Ao16 t339.length co16] 39 (0, 0)) (by (with_reducible repeat (first | refine blk_drewN ?_ _ | refine blk_drew ?_ | refine blk_alloc ?_ _)); exact BK344.out) k_ hk, Kd.freshB (g := gb351) (o := .cells #[.int .i64 t345, .slice Ao21 t346.length co21] 39 (0, 0)) (by (with_reducible repeat (first | refine blk_drewN ?_ _ | refine blk_drew ?_ | refine blk_alloc ?_ _)); exact BK351.out) k_ hk⟩) _ (Nat.le_refl _)) (Below.refl _ _) (Nat.le_refl _) (by simp) ?_; (case hd => rfl); (case hg => rfl); (case hr => first | (go_simp; done) | (go_simp; rfl)); (case hp => exact (Reps.c2 (show Kd.FK k39 _ _ (⟨t338, t339⟩ : S39) [.int .i64 t338, .slice Ao16 t339.length co16] from (k39_mkF _ _ (⟨t338, t339⟩ : S39) (Kd.R_reads' (Kd.R_mono (ok' := (fun k_ => some k_ ≠ (.slice Ao21 t346.length co21 : Value).ownBlock ∧ k_ ≠ gb344 ∧ k_ ≠ gb351)) (Kd.R_types (Kd.R_types (HO341.out) BK344.out (by decide)) BK351.out (by decide)) (fun k_ hk => ⟨hk.1.1, ⟨hk.1.2, hk.2⟩⟩))).2.1 (Kd.R_F (Kd.R_mono (ok' := (fun k_ => some k_ ≠ (.slice Ao21 t346.length co21 : Value).ownBlock ∧ k_ ≠ gb344 ∧ k_ ≠ gb351)) (Kd.R_types (Kd.R_types (HO341.out) BK344.out (by decide)) BK351.out (by decide)) (fun k_ hk => ⟨hk.1.1, ⟨hk.1.2, hk.2⟩⟩))))) (Reps.none _ _))); intro v353 w24 ho25 hb hg_ hnew_; clear hg_ hnew_; (first | rw [← Ny352.out] at ho25 | (simp only [Int.reduceToNat] at ho25; rw [← Ny352.out] at ho25)); have n0_ := Aside0.mk (Kd.R_below (by (with_reducible repeat (first | apply Kd.R_alloc | apply Kd.R_drewN | apply Kd.R_drew)); exact HO348.out) hb); have n1_ := Aside0.mk (Kd.N_lower ho25 (below_size (by repeat (first | (with_reducible first | exact HB.out | apply below_alloc | apply pw_below_drewN | apply below_drew1 | refine below_set ?_ GE344.out | refine below_set ?_ GE351.out) | exact HB.out)))); have n2_ := Aside0.mk (blk_below (g := gb344) (o := .cells #[.int .i64 t338, .slice Ao16 t339.length co16] 39 (0, 0)) (by (with_reducible repeat (first | refine blk_drewN ?_ _ | refine blk_drew ?_ | refine blk_alloc ?_ _)); exact BK344.out) hb); have n3_ := Aside0.mk (blk_below (g := gb351) (o := .cells #[.int .i64 t345, .slice Ao21 t346.length co21] 39 (0, 0)) (by (with_reducible repeat (first | refine blk_drewN ?_ _ | refine blk_drew ?_ | refine blk_alloc ?_ _)); exact BK351.out) hb); have n4_ := Aside0.mk (below_step (by repeat (first | (with_reducible first | exact HB.out | apply below_alloc | apply pw_below_drewN | apply below_drew1 | refine below_set ?_ GE344.out | refine below_set ?_ GE351.out) | exact HB.out)) hb); clear HO348; clear BK344; clear BK351; clear HB; clear HO341; have HO348 := n0_; have HO354 := n1_; have BK344 := n2_; have BK351 := n3_; have HB := n4_; clear n0_ n1_ n2_ n3_ n4_; clear hb ho25; have hcz26_0 : w24.cell? ⟨gb351, 0, none⟩ = some (.int .i64 t345) := (blk_cell BK351.out 0).trans rfl; have hcz26_1 : w24.cell? ⟨gb351, 1, none⟩ = some (.slice Ao21 t346.length co21) := (blk_cell BK351.out 1).trans rfl; have hfz26_0 := blk_frozen BK351.out 0; have hfz26_1 := blk_frozen BK351.out 1) | ((with_reducible refine gate_dst (N := 39) rfl ?_); (try (refine gate_guard (by rfl) ?_; dsimp only)); refine Kd.N_lit k39 _ 39 ?hg (N' := 39) ?hd (xs := ([(⟨t345, t346⟩ : S39)] : List (S39))) (inner := [.int .i64 t345, .slice Ao21 t346.length co21]) (ok := (fun k_ => some k_ ≠ (v353 : Value).ownBlock ∧ k_ ≠ gb344 ∧ k_ ≠ gb351)) (okp := (fun k_ => some k_ ≠ (v353 : Value).ownBlock ∧ k_ ≠ gb344 ∧ k_ ≠ gb351)) ?hr ?hp (fun _ hk => hk) ((show ∀ k_, w24.heap.size ≤ k_ → (fun k_ => some k_ ≠ (v353 : Value).ownBlock ∧ k_ ≠ gb344 ∧ k_ ≠ gb351) k_ from fun k_ hk => ⟨Kd.fresh' (Kd.N_lt (by (with_reducible repeat (first | apply Kd.N_alloc | apply Kd.N_drewN | apply Kd.N_drew)); exact HO354.out)) k_ hk, Kd.freshB (g := gb344) (o := .cells #[.int .i64 t338, .slice Ao16 t339.length co16] 39 (0, 0)) (by (with_reducible repeat (first | refine blk_drewN ?_ _ | refine blk_drew ?_ | refine blk_alloc ?_ _)); exact BK344.out) k_ hk, Kd.freshB (g := gb351) (o := .cells #[.int .i64 t345, .slice Ao21 t346.length co21] 39 (0, 0)) (by (with_reducible repeat (first | refine blk_drewN ?_ _ | refine blk_drew ?_ | refine blk_alloc ?_ _)); exact BK351.out) k_ hk⟩) _ (Nat.le_refl _)) (Below.refl _ _) (Nat.le_refl _) (by simp) ?_; (case hd => rfl); (case hg => rfl); (case hr => first | (go_simp; done) | (go_simp; rfl)); (case hp => exact (Reps.c2 (show Kd.FK k39 _ _ (⟨t345, t346⟩ : S39) [.int .i64 t345, .slice Ao21 t346.length co21] from (k39_mkF _ _ (⟨t345, t346⟩ : S39) (Kd.R_reads' (Kd.R_mono (ok' := (fun k_ => some k_ ≠ (v353 : Value).ownBlock ∧ k_ ≠ gb344 ∧ k_ ≠ gb351)) (Kd.R_types (Kd.R_types (Kd.R_apart' (HO348.out) (Kd.N_typed HO354.out) (by decide)) BK344.out (by decide)) BK351.out (by decide)) (fun k_ hk => ⟨hk.1.1.2, ⟨hk.1.2, hk.2⟩⟩))).2.1 (Kd.R_F (Kd.R_mono (ok' := (fun k_ => some k_ ≠ (v353 : Value).ownBlock ∧ k_ ≠ gb344 ∧ k_ ≠ gb351)) (Kd.R_types (Kd.R_types (Kd.R_apart' (HO348.out) (Kd.N_typed HO354.out) (by decide)) BK344.out (by decide)) BK351.out (by decide)) (fun k_ hk => ⟨hk.1.1.2, ⟨hk.1.2, hk.2⟩⟩))))) (Reps.none _ _))); intro v356 w27 ho28 hb hg_ hnew_; clear hg_ hnew_; (first | rw [← Ny355.out] at ho28 | (simp only [Int.reduceToNat] at ho28; rw [← Ny355.out] at ho28)); have n0_ := Aside0.mk (Kd.N_elder' (by (with_reducible repeat (first | apply Kd.N_alloc | apply Kd.N_drewN | apply Kd.N_drew)); exact HO354.out) (Kd.N_base ho28) hb); have n1_ := Aside0.mk (Kd.N_lower ho28 (below_size (by repeat (first | (with_reducible first | exact HB.out | apply below_alloc | apply pw_below_drewN | apply below_drew1 | refine below_set ?_ GE344.out | refine below_set ?_ GE351.out) | exact HB.out)))); have n2_ := Aside0.mk (blk_below (g := gb344) (o := .cells #[.int .i64 t338, .slice Ao16 t339.length co16] 39 (0, 0)) (by (with_reducible repeat (first | refine blk_drewN ?_ _ | refine blk_drew ?_ | refine blk_alloc ?_ _)); exact BK344.out) hb); have n3_ := Aside0.mk (blk_below (g := gb351) (o := .cells #[.int .i64 t345, .slice Ao21 t346.length co21] 39 (0, 0)) (by (with_reducible repeat (first | refine blk_drewN ?_ _ | refine blk_drew ?_ | refine blk_alloc ?_ _)); exact BK351.out) hb); have n4_ := Aside0.mk (below_step (by repeat (first | (with_reducible first | exact HB.out | apply below_alloc | apply pw_below_drewN | apply below_drew1 | refine below_set ?_ GE344.out | refine below_set ?_ GE351.out) | exact HB.out)) hb); clear HO354; clear BK344; clear BK351; clear HB; clear HO348; have HO354 := n0_; have HO357 := n1_; have BK344 := n2_; have BK351 := n3_; have HB := n4_; clear n0_ n1_ n2_ n3_ n4_; clear hb ho28; obtain ⟨Ao29, co29, eo29⟩ := Kd.N_slice HO354.out; subst eo29; obtain ⟨Ao30, co30, eo30⟩ := Kd.N_slice HO357.out; subst eo30) | ((with_reducible refine gate_callee (f := 14) rfl ?_); refine goesL_ (some 40) rfl rfl Try.func14 (by kernel_rfl) rfl #[.slice Ao29 y352.length co29, .slice Ao30 y355.length co30] rfl (by (try simp only [List.map_toArray, List.map_cons, List.map_nil]); first | done | rfl | (simp only [List.length_drop, List.length_take]; rfl)) ?_; (with_reducible refine (catchwordref06_Same.calls kj3 _ _ y352 _ _ y355 true _ ?side1 ?side2 ?side3 ?side4 A10.out).mono ?_); (case side1 => repeat (first | exact (Kd.N_reads' HO354.out).2.2 | (with_reducible refine Kd.C_alloc ?_ _) | (with_reducible refine Kd.C_drewN ?_ _) | (with_reducible refine Kd.C_drew ?_))); (case side2 => exact (Kd.N_reads' HO354.out).2.1); (case side3 => repeat (first | exact (Kd.N_reads' HO357.out).2.2 | (with_reducible refine Kd.C_alloc ?_ _) | (with_reducible refine Kd.C_drewN ?_ _) | (with_reducible refine Kd.C_drew ?_))); (case side4 => exact (Kd.N_reads' HO357.out).2.1); rintro e w' ⟨rfl, ⟨nd, rfl⟩⟩; refine ⟨_, rfl, ?_⟩))
      go_ret
      exact ⟨by first | rfl | (simp [errW_none, errW_some] <;> rfl) | (simp [*, errW_none, errW_some] <;> rfl), by repeat (first | (with_reducible first | exact HB.out | apply below_alloc | apply pw_below_drewN | apply below_drew1 | refine below_set ?_ GE344.out | refine below_set ?_ GE351.out) | exact HB.out)⟩
     ·rw [if_neg c12] at H
      have c12b0 : (t342 == t349) = false := beq_eq_false_iff_ne.mpr c12
      have c12b1 : (t342 != t349) = true := bne_iff_ne.mpr c12
      obtain rfl := Option.some.inj H
      go_wp2_with (first | ((with_reducible refine gate_callee (f := 25) rfl ?_); refine goesL_ (some 25) rfl rfl Try.func25 (by kernel_rfl) rfl #[.slice A0 l0.length c0, .int .i64 a1] rfl (by (try simp only [List.map_toArray, List.map_cons, List.map_nil]); first | done | rfl | (simp only [List.length_drop, List.length_take]; rfl)) ?_; (with_reducible refine (post_Seek.calls _ _ l0 a1 t338 t339 t342 t343 _ ?side1 ?side2 A8.out).mono ?_); (case side1 => repeat (first | exact (Kd.C_below HR0.out HB.out) | (with_reducible refine Kd.C_alloc ?_ _) | (with_reducible refine Kd.C_drewN ?_ _) | (with_reducible refine Kd.C_drew ?_))); (case side2 => exact HC0.out); rintro e w31 ⟨v340, rfl, ho0, hb⟩; refine ⟨_, rfl, ?_⟩; have n0_ := Aside0.mk (Kd.R_lower ho0 (below_size (by repeat (first | (with_reducible first | exact HB.out | apply below_alloc | apply pw_below_drewN | apply below_drew1) | exact HB.out)))); have n1_ := Aside0.mk (below_step (by repeat (first | (with_reducible first | exact HB.out | apply below_alloc | apply pw_below_drewN | apply below_drew1) | exact HB.out)) hb); clear HB; have HO341 := n0_; have HB := n1_; clear n0_ n1_; (try clear hb); (try clear hb2); (try clear hk); (try clear hi); (try clear ho0)) | ((with_reducible refine gate_dst (N := 6) rfl ?_); (try (refine gate_guard (by rfl) ?_; dsimp only)); refine box_event ?hg (N := 6) ?hd (cs := #[.int .i64 0, .slice none 0 0]) (t := 39) ?hr ?_; (case hd => rfl); (case hg => rfl); (case hr => first | (go_simp; done) | (go_simp; rfl)); intro gb344 hg w32 hbox hb; have n0_ := Aside0.mk (Kd.R_below (by (with_reducible repeat (first | apply Kd.R_alloc | apply Kd.R_drewN | apply Kd.R_drew)); exact HO341.out) hb); have n1_ := Aside0.mk (below_step (by repeat (first | (with_reducible first | exact HB.out | apply below_alloc | apply pw_below_drewN | apply below_drew1) | exact HB.out)) hb); have n2_ := Aside0.mk (hbox); have n3_ := Aside0.mk ((by rw [hg]; exact (below_size (by repeat (first | (with_reducible first | exact HB.out | apply below_alloc | apply pw_below_drewN | apply below_drew1) | exact HB.out))) : w.heap.size ≤ gb344)); have n4_ := Aside0.mk ((by rw [hg]; exact (below_size (by repeat (first | (with_reducible first | exact HB.out | apply below_alloc | apply pw_below_drewN | apply below_drew1) | exact HB.out))) : w.heap.size ≤ gb344)); clear HO341; clear HB; have HO341 := n0_; have HB := n1_; have BK344 := n2_; have GW344 := n3_; have GE344 := n4_; clear n0_ n1_ n2_ n3_ n4_; clear hb hbox hg; have hcz33_0 : w32.cell? ⟨gb344, 0, none⟩ = some (.int .i64 0) := (blk_cell BK344.out 0).trans rfl; have hcz33_1 : w32.cell? ⟨gb344, 1, none⟩ = some (.slice none 0 0) := (blk_cell BK344.out 1).trans rfl; have hfz33_0 := blk_frozen BK344.out 0; have hfz33_1 := blk_frozen BK344.out 1; obtain ⟨Ao34, co34, eo34⟩ := Kd.R_slice HO341.out; subst eo34) | ((with_reducible refine gate_callee (f := 26) rfl ?_); refine goesL_ (some 32) rfl rfl Try.func26 (by kernel_rfl) rfl #[.slice A0 l0.length c0, .int .i64 a1] rfl (by (try simp only [List.map_toArray, List.map_cons, List.map_nil]); first | done | rfl | (simp only [List.length_drop, List.length_take]; rfl)) ?_; (with_reducible refine (catchwordref06_Seek.calls kj3 _ _ l0 a1 t345 t346 t349 t350 _ ?side1 ?side2 A9.out).mono ?_); (case side1 => exact Kd.C_below HR0.out (by repeat (first | (with_reducible first | exact HB.out | apply below_alloc | apply pw_below_drewN | apply below_drew1 | refine below_set ?_ GE344.out) | exact HB.out))); (case side2 => exact HC0.out); rintro e w35 ⟨v347, rfl, ho0, hb⟩; refine ⟨_, rfl, ?_⟩; have n0_ := Aside0.mk (Kd.R_elder' (by (with_reducible repeat (first | apply Kd.R_alloc | apply Kd.R_drewN | apply Kd.R_drew)); exact (Kd.R_mono (Kd.R_far (p := ⟨gb344, 1, none⟩) (Kd.R_far (p := ⟨gb344, 0, none⟩) (Kd.R_types HO341.out BK344.out (by decide)) (fun _ hk => hk.2) (.int .i64 t338)) (fun _ hk => hk.2) (.slice Ao34 t339.length co34)) (fun _ h_ => h_.1))) (Kd.R_base ho0) hb); have n1_ := Aside0.mk (Kd.R_lower (Kd.R_new' ho0 (Kd.R_lt (by (with_reducible repeat (first | apply Kd.R_alloc | apply Kd.R_drewN | apply Kd.R_drew)); exact (Kd.R_mono (Kd.R_far (p := ⟨gb344, 1, none⟩) (Kd.R_far (p := ⟨gb344, 0, none⟩) (Kd.R_types HO341.out BK344.out (by decide)) (fun _ hk => hk.2) (.int .i64 t338)) (fun _ hk => hk.2) (.slice Ao34 t339.length co34)) (fun _ h_ => h_.1))))) (below_size (by repeat (first | (with_reducible first | exact HB.out | apply below_alloc | apply pw_below_drewN | apply below_drew1 | refine below_set ?_ GE344.out) | exact HB.out)))); have n2_ := Aside0.mk (blk_below (g := gb344) (o := .cells #[.int .i64 t338, .slice Ao34 t339.length co34] 39 (0, 0)) (by (with_reducible repeat (first | refine blk_drewN ?_ _ | refine blk_drew ?_ | refine blk_alloc ?_ _)); refine blk_put (cs := #[.int .i64 t338, .slice none 0 0]) ?_ 1 _ rfl; (with_reducible repeat (first | refine blk_drewN ?_ _ | refine blk_drew ?_ | refine blk_alloc ?_ _)); refine blk_put (cs := #[.int .i64 0, .slice none 0 0]) ?_ 0 _ rfl; (with_reducible repeat (first | refine blk_drewN ?_ _ | refine blk_drew ?_ | refine blk_alloc ?_ _)); exact BK344.out) hb); have n3_ := Aside0.mk (below_step (by repeat (first | (with_reducible first | exact HB.out | apply below_alloc | apply pw_below_drewN | apply below_drew1 | refine below_set ?_ GE344.out) | exact HB.out)) hb); clear HO341; clear BK344; clear HB; have HO341 := n0_; have HO348 := n1_; have BK344 := n2_; have HB := n3_; clear n0_ n1_ n2_ n3_; (try clear hb); (try clear hb2); (try clear hk); (try clear hi); (try clear ho0)) | ((with_reducible refine gate_dst (N := 9) rfl ?_); (try (refine gate_guard (by rfl) ?_; dsimp only)); refine box_event ?hg (N := 9) ?hd (cs := #[.int .i64 0, .slice none 0 0]) (t := 39) ?hr ?_; (case hd => rfl); (case hg => rfl); (case hr => first | (go_simp; done) | (go_simp; rfl)); intro gb351 hg w36 hbox hb; have n0_ := Aside0.mk (Kd.R_below (by (with_reducible repeat (first | apply Kd.R_alloc | apply Kd.R_drewN | apply Kd.R_drew)); exact HO341.out) hb); have n1_ := Aside0.mk (Kd.R_below (by (with_reducible repeat (first | apply Kd.R_alloc | apply Kd.R_drewN | apply Kd.R_drew)); exact HO348.out) hb); have n2_ := Aside0.mk (blk_below (g := gb344) (o := .cells #[.int .i64 t338, .slice Ao34 t339.length co34] 39 (0, 0)) (by (with_reducible repeat (first | refine blk_drewN ?_ _ | refine blk_drew ?_ | refine blk_alloc ?_ _)); exact BK344.out) hb); have n3_ := Aside0.mk (below_step (by repeat (first | (with_reducible first | exact HB.out | apply below_alloc | apply pw_below_drewN | apply below_drew1 | refine below_set ?_ GE344.out) | exact HB.out)) hb); have n4_ := Aside0.mk (hbox); have n5_ := Aside0.mk ((by rw [hg]; exact (below_size (by repeat (first | (with_reducible first | exact HB.out | apply below_alloc | apply pw_below_drewN | apply below_drew1 | refine below_set ?_ GE344.out) | exact HB.out))) : w.heap.size ≤ gb351)); have n6_ := Aside0.mk ((by rw [hg]; exact (below_size (by repeat (first | (with_reducible first | exact HB.out | apply below_alloc | apply pw_below_drewN | apply below_drew1 | refine below_set ?_ GE344.out) | exact HB.out))) : w.heap.size ≤ gb351)); have n7_ := Aside0.mk ((by rw [hg]; exact Nat.ne_of_lt (blk_lt (g := gb344) (o := .cells #[.int .i64 t338, .slice Ao34 t339.length co34] 39 (0, 0)) (by (with_reducible repeat (first | refine blk_drewN ?_ _ | refine blk_drew ?_ | refine blk_alloc ?_ _)); exact BK344.out)) : gb344 ≠ gb351)); have n8_ := Aside0.mk ((by rw [hg]; exact Nat.ne_of_gt (blk_lt (g := gb344) (o := .cells #[.int .i64 t338, .slice Ao34 t339.length co34] 39 (0, 0)) (by (with_reducible repeat (first | refine blk_drewN ?_ _ | refine blk_drew ?_ | refine blk_alloc ?_ _)); exact BK344.out)) : gb351 ≠ gb344)); clear HO341; clear HO348; clear BK344; clear HB; have HO341 := n0_; have HO348 := n1_; have BK344 := n2_; have HB := n3_; have BK351 := n4_; have GW351 := n5_; have GE351 := n6_; have NB344_351 := n7_; have NB351_344 := n8_; clear n0_ n1_ n2_ n3_ n4_ n5_ n6_ n7_ n8_; clear hb hbox hg; have hnb37 := NB351_344.out; have hnc37 := NB344_351.out; have hcz38_0 : w36.cell? ⟨gb351, 0, none⟩ = some (.int .i64 0) := (blk_cell BK351.out 0).trans rfl; have hcz38_1 : w36.cell? ⟨gb351, 1, none⟩ = some (.slice none 0 0) := (blk_cell BK351.out 1).trans rfl; have hfz38_0 := blk_frozen BK351.out 0; have hfz38_1 := blk_frozen BK351.out 1; obtain ⟨Ao39, co39, eo39⟩ := Kd.R_slice HO348.out; subst eo39) | ((with_reducible refine gate_store (t := 39) (p := 9) rfl ?_); refine store_event (t := 39) (p := 9) (v := ?vo_w40) (w1 := ((w36.setCell ⟨gb351, 0, none⟩ (.int .i64 t345)).setCell ⟨gb351, 1, none⟩ (.slice Ao39 t346.length co39))) ?hg ?ho ?hn ?hr ?_; (case ho => rfl); (case hg => rfl); (case hn => rfl); (case hr => first | (go_simp; done) | (go_simp; rfl)); intro w40 hw; have n0_ : Aside0 (Kd.R (Kd.int .i64) 3 w40 w.heap.size (fun k_ => some k_ ≠ (.slice Ao39 t346.length co39 : Value).ownBlock) (.slice Ao34 t339.length co34) t339) := ⟨(by rw [hw]; exact (by (with_reducible repeat (first | apply Kd.R_alloc | apply Kd.R_drewN | apply Kd.R_drew)); exact Kd.R_mono (Kd.R_far (p := ⟨gb351, 1, none⟩) (Kd.R_far (p := ⟨gb351, 0, none⟩) (Kd.R_types HO341.out BK351.out (by decide)) (fun _ hk => hk.2) (.int .i64 t345)) (fun _ hk => hk.2) (.slice Ao39 t346.length co39)) (fun _ hk => hk.1.2)))⟩; have n1_ : Aside0 (Kd.R (Kd.int .i64) 3 w40 w.heap.size (fun k_ => some k_ ≠ (.slice Ao34 t339.length co34 : Value).ownBlock) (.slice Ao39 t346.length co39) t346) := ⟨(by rw [hw]; exact (by (with_reducible repeat (first | apply Kd.R_alloc | apply Kd.R_drewN | apply Kd.R_drew)); exact Kd.R_mono (Kd.R_far (p := ⟨gb351, 1, none⟩) (Kd.R_far (p := ⟨gb351, 0, none⟩) (Kd.R_types HO348.out BK351.out (by decide)) (fun _ hk => hk.2) (.int .i64 t345)) (fun _ hk => hk.2) (.slice Ao39 t346.length co39)) (fun _ hk => hk.1.2)))⟩; have n2_ : Aside0 (w40.heap[gb344]? = some (.cells #[.int .i64 t338, .slice Ao34 t339.length co34] 39 (0, 0))) := ⟨(by rw [hw]; exact (by (with_reducible repeat (first | refine blk_drewN ?_ _ | refine blk_drew ?_ | refine blk_alloc ?_ _)); refine blk_far ?_ NB344_351.out _; (with_reducible repeat (first | refine blk_drewN ?_ _ | refine blk_drew ?_ | refine blk_alloc ?_ _)); refine blk_far ?_ NB344_351.out _; (with_reducible repeat (first | refine blk_drewN ?_ _ | refine blk_drew ?_ | refine blk_alloc ?_ _)); exact BK344.out))⟩; have n3_ : Aside0 (w40.heap[gb351]? = some (.cells #[.int .i64 t345, .slice Ao39 t346.length co39] 39 (0, 0))) := ⟨(by rw [hw]; exact (by (with_reducible repeat (first | refine blk_drewN ?_ _ | refine blk_drew ?_ | refine blk_alloc ?_ _)); refine blk_put (cs := #[.int .i64 t345, .slice none 0 0]) ?_ 1 _ rfl; (with_reducible repeat (first | refine blk_drewN ?_ _ | refine blk_drew ?_ | refine blk_alloc ?_ _)); refine blk_put (cs := #[.int .i64 0, .slice none 0 0]) ?_ 0 _ rfl; (with_reducible repeat (first | refine blk_drewN ?_ _ | refine blk_drew ?_ | refine blk_alloc ?_ _)); exact BK351.out))⟩; have n4_ : Aside0 (Below w.heap.size w w40) := ⟨(by rw [hw]; exact (by repeat (first | (with_reducible first | exact HB.out | apply below_alloc | apply pw_below_drewN | apply below_drew1 | refine below_set ?_ GE344.out | refine below_set ?_ GE351.out) | exact HB.out)))⟩; clear hw; clear HO341; clear HO348; clear BK344; clear BK351; clear HB; have HO341 := n0_; have HO348 := n1_; have BK344 := n2_; have BK351 := n3_; have HB := n4_; clear n0_ n1_ n2_ n3_ n4_; have hcz41_0 : w40.cell? ⟨gb344, 0, none⟩ = some (.int .i64 t338) := (blk_cell BK344.out 0).trans rfl; have hcz41_1 : w40.cell? ⟨gb344, 1, none⟩ = some (.slice Ao34 t339.length co34) := (blk_cell BK344.out 1).trans rfl; have hfz41_0 := blk_frozen BK344.out 0; have hfz41_1 := blk_frozen BK344.out 1) | ((with_reducible refine gate_dst (N := 37) rfl ?_); (try (refine gate_guard (by rfl) ?_; dsimp only)); refine Kd.N_lit k39 _ 39 ?hg (N' := 37) ?hd (xs := ([(⟨t338, t339⟩ : S39)] : List (S39))) (inner := [.int .i64 t338, .slice Ao34 t339.length co34]) (ok := (fun k_ => some k_ ≠ (.slice Ao39 t346.length co39 : Value).ownBlock ∧ k_ ≠ gb344 ∧ k_ ≠ gb351)) (okp := (fun k_ => some k_ ≠ (.slice Ao39 t346.length co39 : Value).ownBlock ∧ k_ ≠ gb344 ∧ k_ ≠ gb351)) ?hr ?hp (fun _ hk => hk) ((show ∀ k_, w40.heap.size ≤ k_ → (fun k_ => some k_ ≠ (.slice Ao39 t346.length co39 : Value).ownBlock ∧ k_ ≠ gb344 ∧ k_ ≠ gb351) k_ from fun k_ hk => ⟨Kd.fresh' (Kd.R_lt (by (with_reducible repeat (first | apply Kd.R_alloc | apply Kd.R_drewN | apply Kd.R_drew)); exact HO348.out)) k_ hk, Kd.freshB (g := gb344) (o := .cells #[.int .i64 t338, .slice Ao34 t339.length co34] 39 (0, 0)) (by (with_reducible repeat (first | refine blk_drewN ?_ _ | refine blk_drew ?_ | refine blk_alloc ?_ _)); exact BK344.out) k_ hk, Kd.freshB (g := gb351) (o := .cells #[.int .i64 t345, .slice Ao39 t346.length co39] 39 (0, 0)) (by (with_reducible repeat (first | refine blk_drewN ?_ _ | refine blk_drew ?_ | refine blk_alloc ?_ _)); exact BK351.out) k_ hk⟩) _ (Nat.le_refl _)) (Below.refl _ _) (Nat.le_refl _) (by simp) ?_; (case hd => rfl); (case hg => rfl); (case hr => first | (go_simp; done) | (go_simp; rfl)); (case hp => exact (Reps.c2 (show Kd.FK k39 _ _ (⟨t338, t339⟩ : S39) [.int .i64 t338, .slice Ao34 t339.length co34] from (k39_mkF _ _ (⟨t338, t339⟩ : S39) (Kd.R_reads' (Kd.R_mono (ok' := (fun k_ => some k_ ≠ (.slice Ao39 t346.length co39 : Value).ownBlock ∧ k_ ≠ gb344 ∧ k_ ≠ gb351)) (Kd.R_types (Kd.R_types (HO341.out) BK344.out (by decide)) BK351.out (by decide)) (fun k_ hk => ⟨hk.1.1, ⟨hk.1.2, hk.2⟩⟩))).2.1 (Kd.R_F (Kd.R_mono (ok' := (fun k_ => some k_ ≠ (.slice Ao39 t346.length co39 : Value).ownBlock ∧ k_ ≠ gb344 ∧ k_ ≠ gb351)) (Kd.R_types (Kd.R_types (HO341.out) BK344.out (by decide)) BK351.out (by decide)) (fun k_ hk => ⟨hk.1.1, ⟨hk.1.2, hk.2⟩⟩))))) (Reps.none _ _))); intro v353 w42 ho43 hb hg_ hnew_; clear hg_ hnew_; (first | rw [← Ny352.out] at ho43 | (simp only [Int.reduceToNat] at ho43; rw [← Ny352.out] at ho43)); have n0_ := Aside0.mk (Kd.R_below (by (with_reducible repeat (first | apply Kd.R_alloc | apply Kd.R_drewN | apply Kd.R_drew)); exact HO348.out) hb); have n1_ := Aside0.mk (Kd.N_lower ho43 (below_size (by repeat (first | (with_reducible first | exact HB.out | apply below_alloc | apply pw_below_drewN | apply below_drew1 | refine below_set ?_ GE344.out | refine below_set ?_ GE351.out) | exact HB.out)))); have n2_ := Aside0.mk (blk_below (g := gb344) (o := .cells #[.int .i64 t338, .slice Ao34 t339.length co34] 39 (0, 0)) (by (with_reducible repeat (first | refine blk_drewN ?_ _ | refine blk_drew ?_ | refine blk_alloc ?_ _)); exact BK344.out) hb); have n3_ := Aside0.mk (blk_below (g := gb351) (o := .cells #[.int .i64 t345, .slice Ao39 t346.length co39] 39 (0, 0)) (by (with_reducible repeat (first | refine blk_drewN ?_ _ | refine blk_drew ?_ | refine blk_alloc ?_ _)); exact BK351.out) hb); have n4_ := Aside0.mk (below_step (by repeat (first | (with_reducible first | exact HB.out | apply below_alloc | apply pw_below_drewN | apply below_drew1 | refine below_set ?_ GE344.out | refine below_set ?_ GE351.out) | exact HB.out)) hb); clear HO348; clear BK344; clear BK351; clear HB; clear HO341; have HO348 := n0_; have HO354 := n1_; have BK344 := n2_; have BK351 := n3_; have HB := n4_; clear n0_ n1_ n2_ n3_ n4_; clear hb ho43; have hcz44_0 : w42.cell? ⟨gb351, 0, none⟩ = some (.int .i64 t345) := (blk_cell BK351.out 0).trans rfl; have hcz44_1 : w42.cell? ⟨gb351, 1, none⟩ = some (.slice Ao39 t346.length co39) := (blk_cell BK351.out 1).trans rfl; have hfz44_0 := blk_frozen BK351.out 0; have hfz44_1 := blk_frozen BK351.out 1) | ((with_reducible refine gate_dst (N := 39) rfl ?_); (try (refine gate_guard (by rfl) ?_; dsimp only)); refine Kd.N_lit k39 _ 39 ?hg (N' := 39) ?hd (xs := ([(⟨t345, t346⟩ : S39)] : List (S39))) (inner := [.int .i64 t345, .slice Ao39 t346.length co39]) (ok := (fun k_ => some k_ ≠ (v353 : Value).ownBlock ∧ k_ ≠ gb344 ∧ k_ ≠ gb351)) (okp := (fun k_ => some k_ ≠ (v353 : Value).ownBlock ∧ k_ ≠ gb344 ∧ k_ ≠ gb351)) ?hr ?hp (fun _ hk => hk) ((show ∀ k_, w42.heap.size ≤ k_ → (fun k_ => some k_ ≠ (v353 : Value).ownBlock ∧ k_ ≠ gb344 ∧ k_ ≠ gb351) k_ from fun k_ hk => ⟨Kd.fresh' (Kd.N_lt (by (with_reducible repeat (first | apply Kd.N_alloc | apply Kd.N_drewN | apply Kd.N_drew)); exact HO354.out)) k_ hk, Kd.freshB (g := gb344) (o := .cells #[.int .i64 t338, .slice Ao34 t339.length co34] 39 (0, 0)) (by (with_reducible repeat (first | refine blk_drewN ?_ _ | refine blk_drew ?_ | refine blk_alloc ?_ _)); exact BK344.out) k_ hk, Kd.freshB (g := gb351) (o := .cells #[.int .i64 t345, .slice Ao39 t346.length co39] 39 (0, 0)) (by (with_reducible repeat (first | refine blk_drewN ?_ _ | refine blk_drew ?_ | refine blk_alloc ?_ _)); exact BK351.out) k_ hk⟩) _ (Nat.le_refl _)) (Below.refl _ _) (Nat.le_refl _) (by simp) ?_; (case hd => rfl); (case hg => rfl); (case hr => first | (go_simp; done) | (go_simp; rfl)); (case hp => exact (Reps.c2 (show Kd.FK k39 _ _ (⟨t345, t346⟩ : S39) [.int .i64 t345, .slice Ao39 t346.length co39] from (k39_mkF _ _ (⟨t345, t346⟩ : S39) (Kd.R_reads' (Kd.R_mono (ok' := (fun k_ => some k_ ≠ (v353 : Value).ownBlock ∧ k_ ≠ gb344 ∧ k_ ≠ gb351)) (Kd.R_types (Kd.R_types (Kd.R_apart' (HO348.out) (Kd.N_typed HO354.out) (by decide)) BK344.out (by decide)) BK351.out (by decide)) (fun k_ hk => ⟨hk.1.1.2, ⟨hk.1.2, hk.2⟩⟩))).2.1 (Kd.R_F (Kd.R_mono (ok' := (fun k_ => some k_ ≠ (v353 : Value).ownBlock ∧ k_ ≠ gb344 ∧ k_ ≠ gb351)) (Kd.R_types (Kd.R_types (Kd.R_apart' (HO348.out) (Kd.N_typed HO354.out) (by decide)) BK344.out (by decide)) BK351.out (by decide)) (fun k_ hk => ⟨hk.1.1.2, ⟨hk.1.2, hk.2⟩⟩))))) (Reps.none _ _))); intro v356 w45 ho46 hb hg_ hnew_; clear hg_ hnew_; (first | rw [← Ny355.out] at ho46 | (simp only [Int.reduceToNat] at ho46; rw [← Ny355.out] at ho46)); have n0_ := Aside0.mk (Kd.N_elder' (by (with_reducible repeat (first | apply Kd.N_alloc | apply Kd.N_drewN | apply Kd.N_drew)); exact HO354.out) (Kd.N_base ho46) hb); have n1_ := Aside0.mk (Kd.N_lower ho46 (below_size (by repeat (first | (with_reducible first | exact HB.out | apply below_alloc | apply pw_below_drewN | apply below_drew1 | refine below_set ?_ GE344.out | refine below_set ?_ GE351.out) | exact HB.out)))); have n2_ := Aside0.mk (blk_below (g := gb344) (o := .cells #[.int .i64 t338, .slice Ao34 t339.length co34] 39 (0, 0)) (by (with_reducible repeat (first | refine blk_drewN ?_ _ | refine blk_drew ?_ | refine blk_alloc ?_ _)); exact BK344.out) hb); have n3_ := Aside0.mk (blk_below (g := gb351) (o := .cells #[.int .i64 t345, .slice Ao39 t346.length co39] 39 (0, 0)) (by (with_reducible repeat (first | refine blk_drewN ?_ _ | refine blk_drew ?_ | refine blk_alloc ?_ _)); exact BK351.out) hb); have n4_ := Aside0.mk (below_step (by repeat (first | (with_reducible first | exact HB.out | apply below_alloc | apply pw_below_drewN | apply below_drew1 | refine below_set ?_ GE344.out | refine below_set ?_ GE351.out) | exact HB.out)) hb); clear HO354; clear BK344; clear BK351; clear HB; clear HO348; have HO354 := n0_; have HO357 := n1_; have BK344 := n2_; have BK351 := n3_; have HB := n4_; clear n0_ n1_ n2_ n3_ n4_; clear hb ho46; obtain ⟨Ao47, co47, eo47⟩ := Kd.N_slice HO354.out; subst eo47; obtain ⟨Ao48, co48, eo48⟩ := Kd.N_slice HO357.out; subst eo48) | ((with_reducible refine gate_callee (f := 14) rfl ?_); refine goesL_ (some 40) rfl rfl Try.func14 (by kernel_rfl) rfl #[.slice Ao47 y352.length co47, .slice Ao48 y355.length co48] rfl (by (try simp only [List.map_toArray, List.map_cons, List.map_nil]); first | done | rfl | (simp only [List.length_drop, List.length_take]; rfl)) ?_; (with_reducible refine (catchwordref06_Same.calls kj3 _ _ y352 _ _ y355 true _ ?side1 ?side2 ?side3 ?side4 A10.out).mono ?_); (case side1 => repeat (first | exact (Kd.N_reads' HO354.out).2.2 | (with_reducible refine Kd.C_alloc ?_ _) | (with_reducible refine Kd.C_drewN ?_ _) | (with_reducible refine Kd.C_drew ?_))); (case side2 => exact (Kd.N_reads' HO354.out).2.1); (case side3 => repeat (first | exact (Kd.N_reads' HO357.out).2.2 | (with_reducible refine Kd.C_alloc ?_ _) | (with_reducible refine Kd.C_drewN ?_ _) | (with_reducible refine Kd.C_drew ?_))); (case side4 => exact (Kd.N_reads' HO357.out).2.1); rintro e w' ⟨rfl, ⟨nd, rfl⟩⟩; refine ⟨_, rfl, ?_⟩))
      go_ret
      exact ⟨by first | rfl | (simp [errW_none, errW_some] <;> rfl) | (simp [*, errW_none, errW_some] <;> rfl), by repeat (first | (with_reducible first | exact HB.out | apply below_alloc | apply pw_below_drewN | apply below_drew1 | refine below_set ?_ GE344.out | refine below_set ?_ GE351.out) | exact HB.out)⟩
    ·replace c11 := Bool.eq_false_iff.mpr c11
     subst c11
     have H1 : (some false) = some r := by rw [if_neg (show ¬ (false = true) by decide)] at H; exact H
     clear H
     have H := H1
     clear H1
     obtain rfl := Option.some.inj H
     go_wp2_with (first | ((with_reducible refine gate_callee (f := 25) rfl ?_); refine goesL_ (some 25) rfl rfl Try.func25 (by kernel_rfl) rfl #[.slice A0 l0.length c0, .int .i64 a1] rfl (by (try simp only [List.map_toArray, List.map_cons, List.map_nil]); first | done | rfl | (simp only [List.length_drop, List.length_take]; rfl)) ?_; (with_reducible refine (post_Seek.calls _ _ l0 a1 t338 t339 t342 t343 _ ?side1 ?side2 A8.out).mono ?_); (case side1 => repeat (first | exact (Kd.C_below HR0.out HB.out) | (with_reducible refine Kd.C_alloc ?_ _) | (with_reducible refine Kd.C_drewN ?_ _) | (with_reducible refine Kd.C_drew ?_))); (case side2 => exact HC0.out); rintro e w49 ⟨v340, rfl, ho0, hb⟩; refine ⟨_, rfl, ?_⟩; have n0_ := Aside0.mk (Kd.R_lower ho0 (below_size (by repeat (first | (with_reducible first | exact HB.out | apply below_alloc | apply pw_below_drewN | apply below_drew1) | exact HB.out)))); have n1_ := Aside0.mk (below_step (by repeat (first | (with_reducible first | exact HB.out | apply below_alloc | apply pw_below_drewN | apply below_drew1) | exact HB.out)) hb); clear HB; have HO341 := n0_; have HB := n1_; clear n0_ n1_; (try clear hb); (try clear hb2); (try clear hk); (try clear hi); (try clear ho0)) | ((with_reducible refine gate_dst (N := 6) rfl ?_); (try (refine gate_guard (by rfl) ?_; dsimp only)); refine box_event ?hg (N := 6) ?hd (cs := #[.int .i64 0, .slice none 0 0]) (t := 39) ?hr ?_; (case hd => rfl); (case hg => rfl); (case hr => first | (go_simp; done) | (go_simp; rfl)); intro gb344 hg w50 hbox hb; have n0_ := Aside0.mk (Kd.R_below (by (with_reducible repeat (first | apply Kd.R_alloc | apply Kd.R_drewN | apply Kd.R_drew)); exact HO341.out) hb); have n1_ := Aside0.mk (below_step (by repeat (first | (with_reducible first | exact HB.out | apply below_alloc | apply pw_below_drewN | apply below_drew1) | exact HB.out)) hb); have n2_ := Aside0.mk (hbox); have n3_ := Aside0.mk ((by rw [hg]; exact (below_size (by repeat (first | (with_reducible first | exact HB.out | apply below_alloc | apply pw_below_drewN | apply below_drew1) | exact HB.out))) : w.heap.size ≤ gb344)); have n4_ := Aside0.mk ((by rw [hg]; exact (below_size (by repeat (first | (with_reducible first | exact HB.out | apply below_alloc | apply pw_below_drewN | apply below_drew1) | exact HB.out))) : w.heap.size ≤ gb344)); clear HO341; clear HB; have HO341 := n0_; have HB := n1_; have BK344 := n2_; have GW344 := n3_; have GE344 := n4_; clear n0_ n1_ n2_ n3_ n4_; clear hb hbox hg; have hcz51_0 : w50.cell? ⟨gb344, 0, none⟩ = some (.int .i64 0) := (blk_cell BK344.out 0).trans rfl; have hcz51_1 : w50.cell? ⟨gb344, 1, none⟩ = some (.slice none 0 0) := (blk_cell BK344.out 1).trans rfl; have hfz51_0 := blk_frozen BK344.out 0; have hfz51_1 := blk_frozen BK344.out 1; obtain ⟨Ao52, co52, eo52⟩ := Kd.R_slice HO341.out; subst eo52) | ((with_reducible refine gate_callee (f := 26) rfl ?_); refine goesL_ (some 32) rfl rfl Try.func26 (by kernel_rfl) rfl #[.slice A0 l0.length c0, .int .i64 a1] rfl (by (try simp only [List.map_toArray, List.map_cons, List.map_nil]); first | done | rfl | (simp only [List.length_drop, List.length_take]; rfl)) ?_; (with_reducible refine (catchwordref06_Seek.calls kj3 _ _ l0 a1 t345 t346 t349 t350 _ ?side1 ?side2 A9.out).mono ?_); (case side1 => exact Kd.C_below HR0.out (by repeat (first | (with_reducible first | exact HB.out | apply below_alloc | apply pw_below_drewN | apply below_drew1 | refine below_set ?_ GE344.out) | exact HB.out))); (case side2 => exact HC0.out); rintro e w53 ⟨v347, rfl, ho0, hb⟩; refine ⟨_, rfl, ?_⟩; have n0_ := Aside0.mk (Kd.R_elder' (by (with_reducible repeat (first | apply Kd.R_alloc | apply Kd.R_drewN | apply Kd.R_drew)); exact (Kd.R_mono (Kd.R_far (p := ⟨gb344, 1, none⟩) (Kd.R_far (p := ⟨gb344, 0, none⟩) (Kd.R_types HO341.out BK344.out (by decide)) (fun _ hk => hk.2) (.int .i64 t338)) (fun _ hk => hk.2) (.slice Ao52 t339.length co52)) (fun _ h_ => h_.1))) (Kd.R_base ho0) hb); have n1_ := Aside0.mk (Kd.R_lower (Kd.R_new' ho0 (Kd.R_lt (by (with_reducible repeat (first | apply Kd.R_alloc | apply Kd.R_drewN | apply Kd.R_drew)); exact (Kd.R_mono (Kd.R_far (p := ⟨gb344, 1, none⟩) (Kd.R_far (p := ⟨gb344, 0, none⟩) (Kd.R_types HO341.out BK344.out (by decide)) (fun _ hk => hk.2) (.int .i64 t338)) (fun _ hk => hk.2) (.slice Ao52 t339.length co52)) (fun _ h_ => h_.1))))) (below_size (by repeat (first | (with_reducible first | exact HB.out | apply below_alloc | apply pw_below_drewN | apply below_drew1 | refine below_set ?_ GE344.out) | exact HB.out)))); have n2_ := Aside0.mk (blk_below (g := gb344) (o := .cells #[.int .i64 t338, .slice Ao52 t339.length co52] 39 (0, 0)) (by (with_reducible repeat (first | refine blk_drewN ?_ _ | refine blk_drew ?_ | refine blk_alloc ?_ _)); refine blk_put (cs := #[.int .i64 t338, .slice none 0 0]) ?_ 1 _ rfl; (with_reducible repeat (first | refine blk_drewN ?_ _ | refine blk_drew ?_ | refine blk_alloc ?_ _)); refine blk_put (cs := #[.int .i64 0, .slice none 0 0]) ?_ 0 _ rfl; (with_reducible repeat (first | refine blk_drewN ?_ _ | refine blk_drew ?_ | refine blk_alloc ?_ _)); exact BK344.out) hb); have n3_ := Aside0.mk (below_step (by repeat (first | (with_reducible first | exact HB.out | apply below_alloc | apply pw_below_drewN | apply below_drew1 | refine below_set ?_ GE344.out) | exact HB.out)) hb); clear HO341; clear BK344; clear HB; have HO341 := n0_; have HO348 := n1_; have BK344 := n2_; have HB := n3_; clear n0_ n1_ n2_ n3_; (try clear hb); (try clear hb2); (try clear hk); (try clear hi); (try clear ho0)) | ((with_reducible refine gate_dst (N := 9) rfl ?_); (try (refine gate_guard (by rfl) ?_; dsimp only)); refine box_event ?hg (N := 9) ?hd (cs := #[.int .i64 0, .slice none 0 0]) (t := 39) ?hr ?_; (case hd => rfl); (case hg => rfl); (case hr => first | (go_simp; done) | (go_simp; rfl)); intro gb351 hg w54 hbox hb; have n0_ := Aside0.mk (Kd.R_below (by (with_reducible repeat (first | apply Kd.R_alloc | apply Kd.R_drewN | apply Kd.R_drew)); exact HO341.out) hb); have n1_ := Aside0.mk (Kd.R_below (by (with_reducible repeat (first | apply Kd.R_alloc | apply Kd.R_drewN | apply Kd.R_drew)); exact HO348.out) hb); have n2_ := Aside0.mk (blk_below (g := gb344) (o := .cells #[.int .i64 t338, .slice Ao52 t339.length co52] 39 (0, 0)) (by (with_reducible repeat (first | refine blk_drewN ?_ _ | refine blk_drew ?_ | refine blk_alloc ?_ _)); exact BK344.out) hb); have n3_ := Aside0.mk (below_step (by repeat (first | (with_reducible first | exact HB.out | apply below_alloc | apply pw_below_drewN | apply below_drew1 | refine below_set ?_ GE344.out) | exact HB.out)) hb); have n4_ := Aside0.mk (hbox); have n5_ := Aside0.mk ((by rw [hg]; exact (below_size (by repeat (first | (with_reducible first | exact HB.out | apply below_alloc | apply pw_below_drewN | apply below_drew1 | refine below_set ?_ GE344.out) | exact HB.out))) : w.heap.size ≤ gb351)); have n6_ := Aside0.mk ((by rw [hg]; exact (below_size (by repeat (first | (with_reducible first | exact HB.out | apply below_alloc | apply pw_below_drewN | apply below_drew1 | refine below_set ?_ GE344.out) | exact HB.out))) : w.heap.size ≤ gb351)); have n7_ := Aside0.mk ((by rw [hg]; exact Nat.ne_of_lt (blk_lt (g := gb344) (o := .cells #[.int .i64 t338, .slice Ao52 t339.length co52] 39 (0, 0)) (by (with_reducible repeat (first | refine blk_drewN ?_ _ | refine blk_drew ?_ | refine blk_alloc ?_ _)); exact BK344.out)) : gb344 ≠ gb351)); have n8_ := Aside0.mk ((by rw [hg]; exact Nat.ne_of_gt (blk_lt (g := gb344) (o := .cells #[.int .i64 t338, .slice Ao52 t339.length co52] 39 (0, 0)) (by (with_reducible repeat (first | refine blk_drewN ?_ _ | refine blk_drew ?_ | refine blk_alloc ?_ _)); exact BK344.out)) : gb351 ≠ gb344)); clear HO341; clear HO348; clear BK344; clear HB; have HO341 := n0_; have HO348 := n1_; have BK344 := n2_; have HB := n3_; have BK351 := n4_; have GW351 := n5_; have GE351 := n6_; have NB344_351 := n7_; have NB351_344 := n8_; clear n0_ n1_ n2_ n3_ n4_ n5_ n6_ n7_ n8_; clear hb hbox hg; have hnb55 := NB351_344.out; have hnc55 := NB344_351.out; have hcz56_0 : w54.cell? ⟨gb351, 0, none⟩ = some (.int .i64 0) := (blk_cell BK351.out 0).trans rfl; have hcz56_1 : w54.cell? ⟨gb351, 1, none⟩ = some (.slice none 0 0) := (blk_cell BK351.out 1).trans rfl; have hfz56_0 := blk_frozen BK351.out 0; have hfz56_1 := blk_frozen BK351.out 1; obtain ⟨Ao57, co57, eo57⟩ := Kd.R_slice HO348.out; subst eo57) | ((with_reducible refine gate_store (t := 39) (p := 9) rfl ?_); refine store_event (t := 39) (p := 9) (v := ?vo_w58) (w1 := ((w54.setCell ⟨gb351, 0, none⟩ (.int .i64 t345)).setCell ⟨gb351, 1, none⟩ (.slice Ao57 t346.length co57))) ?hg ?ho ?hn ?hr ?_; (case ho => rfl); (case hg => rfl); (case hn => rfl); (case hr => first | (go_simp; done) | (go_simp; rfl)); intro w58 hw; have n0_ : Aside0 (Kd.R (Kd.int .i64) 3 w58 w.heap.size (fun k_ => some k_ ≠ (.slice Ao57 t346.length co57 : Value).ownBlock) (.slice Ao52 t339.length co52) t339) := ⟨(by rw [hw]; exact (by (with_reducible repeat (first | apply Kd.R_alloc | apply Kd.R_drewN | apply Kd.R_drew)); exact Kd.R_mono (Kd.R_far (p := ⟨gb351, 1, none⟩) (Kd.R_far (p := ⟨gb351, 0, none⟩) (Kd.R_types HO341.out BK351.out (by decide)) (fun _ hk => hk.2) (.int .i64 t345)) (fun _ hk => hk.2) (.slice Ao57 t346.length co57)) (fun _ hk => hk.1.2)))⟩; have n1_ : Aside0 (Kd.R (Kd.int .i64) 3 w58 w.heap.size (fun k_ => some k_ ≠ (.slice Ao52 t339.length co52 : Value).ownBlock) (.slice Ao57 t346.length co57) t346) := ⟨(by rw [hw]; exact (by (with_reducible repeat (first | apply Kd.R_alloc | apply Kd.R_drewN | apply Kd.R_drew)); exact Kd.R_mono (Kd.R_far (p := ⟨gb351, 1, none⟩) (Kd.R_far (p := ⟨gb351, 0, none⟩) (Kd.R_types HO348.out BK351.out (by decide)) (fun _ hk => hk.2) (.int .i64 t345)) (fun _ hk => hk.2) (.slice Ao57 t346.length co57)) (fun _ hk => hk.1.2)))⟩; have n2_ : Aside0 (w58.heap[gb344]? = some (.cells #[.int .i64 t338, .slice Ao52 t339.length co52] 39 (0, 0))) := ⟨(by rw [hw]; exact (by (with_reducible repeat (first | refine blk_drewN ?_ _ | refine blk_drew ?_ | refine blk_alloc ?_ _)); refine blk_far ?_ NB344_351.out _; (with_reducible repeat (first | refine blk_drewN ?_ _ | refine blk_drew ?_ | refine blk_alloc ?_ _)); refine blk_far ?_ NB344_351.out _; (with_reducible repeat (first | refine blk_drewN ?_ _ | refine blk_drew ?_ | refine blk_alloc ?_ _)); exact BK344.out))⟩; have n3_ : Aside0 (w58.heap[gb351]? = some (.cells #[.int .i64 t345, .slice Ao57 t346.length co57] 39 (0, 0))) := ⟨(by rw [hw]; exact (by (with_reducible repeat (first | refine blk_drewN ?_ _ | refine blk_drew ?_ | refine blk_alloc ?_ _)); refine blk_put (cs := #[.int .i64 t345, .slice none 0 0]) ?_ 1 _ rfl; (with_reducible repeat (first | refine blk_drewN ?_ _ | refine blk_drew ?_ | refine blk_alloc ?_ _)); refine blk_put (cs := #[.int .i64 0, .slice none 0 0]) ?_ 0 _ rfl; (with_reducible repeat (first | refine blk_drewN ?_ _ | refine blk_drew ?_ | refine blk_alloc ?_ _)); exact BK351.out))⟩; have n4_ : Aside0 (Below w.heap.size w w58) := ⟨(by rw [hw]; exact (by repeat (first | (with_reducible first | exact HB.out | apply below_alloc | apply pw_below_drewN | apply below_drew1 | refine below_set ?_ GE344.out | refine below_set ?_ GE351.out) | exact HB.out)))⟩; clear hw; clear HO341; clear HO348; clear BK344; clear BK351; clear HB; have HO341 := n0_; have HO348 := n1_; have BK344 := n2_; have BK351 := n3_; have HB := n4_; clear n0_ n1_ n2_ n3_ n4_; have hcz59_0 : w58.cell? ⟨gb344, 0, none⟩ = some (.int .i64 t338) := (blk_cell BK344.out 0).trans rfl; have hcz59_1 : w58.cell? ⟨gb344, 1, none⟩ = some (.slice Ao52 t339.length co52) := (blk_cell BK344.out 1).trans rfl; have hfz59_0 := blk_frozen BK344.out 0; have hfz59_1 := blk_frozen BK344.out 1) | ((with_reducible refine gate_dst (N := 37) rfl ?_); (try (refine gate_guard (by rfl) ?_; dsimp only)); refine Kd.N_lit k39 _ 39 ?hg (N' := 37) ?hd (xs := ([(⟨t338, t339⟩ : S39)] : List (S39))) (inner := [.int .i64 t338, .slice Ao52 t339.length co52]) (ok := (fun k_ => some k_ ≠ (.slice Ao57 t346.length co57 : Value).ownBlock ∧ k_ ≠ gb344 ∧ k_ ≠ gb351)) (okp := (fun k_ => some k_ ≠ (.slice Ao57 t346.length co57 : Value).ownBlock ∧ k_ ≠ gb344 ∧ k_ ≠ gb351)) ?hr ?hp (fun _ hk => hk) ((show ∀ k_, w58.heap.size ≤ k_ → (fun k_ => some k_ ≠ (.slice Ao57 t346.length co57 : Value).ownBlock ∧ k_ ≠ gb344 ∧ k_ ≠ gb351) k_ from fun k_ hk => ⟨Kd.fresh' (Kd.R_lt (by (with_reducible repeat (first | apply Kd.R_alloc | apply Kd.R_drewN | apply Kd.R_drew)); exact HO348.out)) k_ hk, Kd.freshB (g := gb344) (o := .cells #[.int .i64 t338, .slice Ao52 t339.length co52] 39 (0, 0)) (by (with_reducible repeat (first | refine blk_drewN ?_ _ | refine blk_drew ?_ | refine blk_alloc ?_ _)); exact BK344.out) k_ hk, Kd.freshB (g := gb351) (o := .cells #[.int .i64 t345, .slice Ao57 t346.length co57] 39 (0, 0)) (by (with_reducible repeat (first | refine blk_drewN ?_ _ | refine blk_drew ?_ | refine blk_alloc ?_ _)); exact BK351.out) k_ hk⟩) _ (Nat.le_refl _)) (Below.refl _ _) (Nat.le_refl _) (by simp) ?_; (case hd => rfl); (case hg => rfl); (case hr => first | (go_simp; done) | (go_simp; rfl)); (case hp => exact (Reps.c2 (show Kd.FK k39 _ _ (⟨t338, t339⟩ : S39) [.int .i64 t338, .slice Ao52 t339.length co52] from (k39_mkF _ _ (⟨t338, t339⟩ : S39) (Kd.R_reads' (Kd.R_mono (ok' := (fun k_ => some k_ ≠ (.slice Ao57 t346.length co57 : Value).ownBlock ∧ k_ ≠ gb344 ∧ k_ ≠ gb351)) (Kd.R_types (Kd.R_types (HO341.out) BK344.out (by decide)) BK351.out (by decide)) (fun k_ hk => ⟨hk.1.1, ⟨hk.1.2, hk.2⟩⟩))).2.1 (Kd.R_F (Kd.R_mono (ok' := (fun k_ => some k_ ≠ (.slice Ao57 t346.length co57 : Value).ownBlock ∧ k_ ≠ gb344 ∧ k_ ≠ gb351)) (Kd.R_types (Kd.R_types (HO341.out) BK344.out (by decide)) BK351.out (by decide)) (fun k_ hk => ⟨hk.1.1, ⟨hk.1.2, hk.2⟩⟩))))) (Reps.none _ _))); intro v353 w60 ho61 hb hg_ hnew_; clear hg_ hnew_; (first | rw [← Ny352.out] at ho61 | (simp only [Int.reduceToNat] at ho61; rw [← Ny352.out] at ho61)); have n0_ := Aside0.mk (Kd.R_below (by (with_reducible repeat (first | apply Kd.R_alloc | apply Kd.R_drewN | apply Kd.R_drew)); exact HO348.out) hb); have n1_ := Aside0.mk (Kd.N_lower ho61 (below_size (by repeat (first | (with_reducible first | exact HB.out | apply below_alloc | apply pw_below_drewN | apply below_drew1 | refine below_set ?_ GE344.out | refine below_set ?_ GE351.out) | exact HB.out)))); have n2_ := Aside0.mk (blk_below (g := gb344) (o := .cells #[.int .i64 t338, .slice Ao52 t339.length co52] 39 (0, 0)) (by (with_reducible repeat (first | refine blk_drewN ?_ _ | refine blk_drew ?_ | refine blk_alloc ?_ _)); exact BK344.out) hb); have n3_ := Aside0.mk (blk_below (g := gb351) (o := .cells #[.int .i64 t345, .slice Ao57 t346.length co57] 39 (0, 0)) (by (with_reducible repeat (first | refine blk_drewN ?_ _ | refine blk_drew ?_ | refine blk_alloc ?_ _)); exact BK351.out) hb); have n4_ := Aside0.mk (below_step (by repeat (first | (with_reducible first | exact HB.out | apply below_alloc | apply pw_below_drewN | apply below_drew1 | refine below_set ?_ GE344.out | refine below_set ?_ GE351.out) | exact HB.out)) hb); clear HO348; clear BK344; clear BK351; clear HB; clear HO341; have HO348 := n0_; have HO354 := n1_; have BK344 := n2_; have BK351 := n3_; have HB := n4_; clear n0_ n1_ n2_ n3_ n4_; clear hb ho61; have hcz62_0 : w60.cell? ⟨gb351, 0, none⟩ = some (.int .i64 t345) := (blk_cell BK351.out 0).trans rfl; have hcz62_1 : w60.cell? ⟨gb351, 1, none⟩ = some (.slice Ao57 t346.length co57) := (blk_cell BK351.out 1).trans rfl; have hfz62_0 := blk_frozen BK351.out 0; have hfz62_1 := blk_frozen BK351.out 1) | ((with_reducible refine gate_dst (N := 39) rfl ?_); (try (refine gate_guard (by rfl) ?_; dsimp only)); refine Kd.N_lit k39 _ 39 ?hg (N' := 39) ?hd (xs := ([(⟨t345, t346⟩ : S39)] : List (S39))) (inner := [.int .i64 t345, .slice Ao57 t346.length co57]) (ok := (fun k_ => some k_ ≠ (v353 : Value).ownBlock ∧ k_ ≠ gb344 ∧ k_ ≠ gb351)) (okp := (fun k_ => some k_ ≠ (v353 : Value).ownBlock ∧ k_ ≠ gb344 ∧ k_ ≠ gb351)) ?hr ?hp (fun _ hk => hk) ((show ∀ k_, w60.heap.size ≤ k_ → (fun k_ => some k_ ≠ (v353 : Value).ownBlock ∧ k_ ≠ gb344 ∧ k_ ≠ gb351) k_ from fun k_ hk => ⟨Kd.fresh' (Kd.N_lt (by (with_reducible repeat (first | apply Kd.N_alloc | apply Kd.N_drewN | apply Kd.N_drew)); exact HO354.out)) k_ hk, Kd.freshB (g := gb344) (o := .cells #[.int .i64 t338, .slice Ao52 t339.length co52] 39 (0, 0)) (by (with_reducible repeat (first | refine blk_drewN ?_ _ | refine blk_drew ?_ | refine blk_alloc ?_ _)); exact BK344.out) k_ hk, Kd.freshB (g := gb351) (o := .cells #[.int .i64 t345, .slice Ao57 t346.length co57] 39 (0, 0)) (by (with_reducible repeat (first | refine blk_drewN ?_ _ | refine blk_drew ?_ | refine blk_alloc ?_ _)); exact BK351.out) k_ hk⟩) _ (Nat.le_refl _)) (Below.refl _ _) (Nat.le_refl _) (by simp) ?_; (case hd => rfl); (case hg => rfl); (case hr => first | (go_simp; done) | (go_simp; rfl)); (case hp => exact (Reps.c2 (show Kd.FK k39 _ _ (⟨t345, t346⟩ : S39) [.int .i64 t345, .slice Ao57 t346.length co57] from (k39_mkF _ _ (⟨t345, t346⟩ : S39) (Kd.R_reads' (Kd.R_mono (ok' := (fun k_ => some k_ ≠ (v353 : Value).ownBlock ∧ k_ ≠ gb344 ∧ k_ ≠ gb351)) (Kd.R_types (Kd.R_types (Kd.R_apart' (HO348.out) (Kd.N_typed HO354.out) (by decide)) BK344.out (by decide)) BK351.out (by decide)) (fun k_ hk => ⟨hk.1.1.2, ⟨hk.1.2, hk.2⟩⟩))).2.1 (Kd.R_F (Kd.R_mono (ok' := (fun k_ => some k_ ≠ (v353 : Value).ownBlock ∧ k_ ≠ gb344 ∧ k_ ≠ gb351)) (Kd.R_types (Kd.R_types (Kd.R_apart' (HO348.out) (Kd.N_typed HO354.out) (by decide)) BK344.out (by decide)) BK351.out (by decide)) (fun k_ hk => ⟨hk.1.1.2, ⟨hk.1.2, hk.2⟩⟩))))) (Reps.none _ _))); intro v356 w63 ho64 hb hg_ hnew_; clear hg_ hnew_; (first | rw [← Ny355.out] at ho64 | (simp only [Int.reduceToNat] at ho64; rw [← Ny355.out] at ho64)); have n0_ := Aside0.mk (Kd.N_elder' (by (with_reducible repeat (first | apply Kd.N_alloc | apply Kd.N_drewN | apply Kd.N_drew)); exact HO354.out) (Kd.N_base ho64) hb); have n1_ := Aside0.mk (Kd.N_lower ho64 (below_size (by repeat (first | (with_reducible first | exact HB.out | apply below_alloc | apply pw_below_drewN | apply below_drew1 | refine below_set ?_ GE344.out | refine below_set ?_ GE351.out) | exact HB.out)))); have n2_ := Aside0.mk (blk_below (g := gb344) (o := .cells #[.int .i64 t338, .slice Ao52 t339.length co52] 39 (0, 0)) (by (with_reducible repeat (first | refine blk_drewN ?_ _ | refine blk_drew ?_ | refine blk_alloc ?_ _)); exact BK344.out) hb); have n3_ := Aside0.mk (blk_below (g := gb351) (o := .cells #[.int .i64 t345, .slice Ao57 t346.length co57] 39 (0, 0)) (by (with_reducible repeat (first | refine blk_drewN ?_ _ | refine blk_drew ?_ | refine blk_alloc ?_ _)); exact BK351.out) hb); have n4_ := Aside0.mk (below_step (by repeat (first | (with_reducible first | exact HB.out | apply below_alloc | apply pw_below_drewN | apply below_drew1 | refine below_set ?_ GE344.out | refine below_set ?_ GE351.out) | exact HB.out)) hb); clear HO354; clear BK344; clear BK351; clear HB; clear HO348; have HO354 := n0_; have HO357 := n1_; have BK344 := n2_; have BK351 := n3_; have HB := n4_; clear n0_ n1_ n2_ n3_ n4_; clear hb ho64; obtain ⟨Ao65, co65, eo65⟩ := Kd.N_slice HO354.out; subst eo65; obtain ⟨Ao66, co66, eo66⟩ := Kd.N_slice HO357.out; subst eo66) | ((with_reducible refine gate_callee (f := 14) rfl ?_); refine goesL_ (some 40) rfl rfl Try.func14 (by kernel_rfl) rfl #[.slice Ao65 y352.length co65, .slice Ao66 y355.length co66] rfl (by (try simp only [List.map_toArray, List.map_cons, List.map_nil]); first | done | rfl | (simp only [List.length_drop, List.length_take]; rfl)) ?_; (with_reducible refine (catchwordref06_Same.calls kj3 _ _ y352 _ _ y355 false _ ?side1 ?side2 ?side3 ?side4 A10.out).mono ?_); (case side1 => repeat (first | exact (Kd.N_reads' HO354.out).2.2 | (with_reducible refine Kd.C_alloc ?_ _) | (with_reducible refine Kd.C_drewN ?_ _) | (with_reducible refine Kd.C_drew ?_))); (case side2 => exact (Kd.N_reads' HO354.out).2.1); (case side3 => repeat (first | exact (Kd.N_reads' HO357.out).2.2 | (with_reducible refine Kd.C_alloc ?_ _) | (with_reducible refine Kd.C_drewN ?_ _) | (with_reducible refine Kd.C_drew ?_))); (case side4 => exact (Kd.N_reads' HO357.out).2.1); rintro e w' ⟨rfl, ⟨nd, rfl⟩⟩; refine ⟨_, rfl, ?_⟩))
     go_ret
     exact ⟨by first | rfl | (simp [errW_none, errW_some] <;> rfl) | (simp [*, errW_none, errW_some] <;> rfl), by repeat (first | (with_reducible first | exact HB.out | apply below_alloc | apply pw_below_drewN | apply below_drew1 | refine below_set ?_ GE344.out | refine below_set ?_ GE351.out) | exact HB.out)⟩

/-- THE ONE PURE STATEMENT of catchwordlaw06_PostSeeks: yours. -/
def catchwordlaw06_PostSeeks.Pure : Prop := ∀ (l0 : List Int) (a1 : Int), l0.length ≤ maxLen → l0.length * 1 ≤ 140737488351232 → (∀ x ∈ l0, (Lit.int .u8 x).wf = true) → (Lit.int .i64 a1).wf = true → ∃ k, catchwordlaw06_PostSeeks.f k l0 a1 = some true
theorem catchwordlaw06_PostSeeks.walk (P : catchwordlaw06_PostSeeks.Pure) (a0 : Option Addr) (len0 cap0 : Nat) (z0 : List Int) (a1 : Int) (w : World) (w0 : (a0 = none ∧ len0 = 0 ∧ cap0 = 0 ∧ z0 = []) ∨ ∃ x, a0 = some x ∧ len0 ≤ cap0 ∧ cap0 ≤ maxLen ∧ z0.length = cap0 ∧ (∀ i, i < z0.length → w.cell? (x.add i) = some (.int .u8 (z0.getD i 0))) ∧ ∀ n ∈ z0, (Lit.int .u8 n).wf = true) (y0 : len0 * 1 ≤ 140737488351232) (w1 : (Lit.int .i64 a1).wf = true) :
  Calls Try.prog 5 #[.slice a0 len0 cap0, .int .i64 a1] w fun e w' => e = .returned (.bool true) ∧ Below w.heap.size w w' := by
 obtain ⟨l0, rfl, hr0, hm0, hw0, hc0⟩ := ReadsInt.ofRowC w0
 obtain ⟨k, h⟩ := P l0 a1 hm0 y0 hw0 w1
 refine (catchwordlaw06_PostSeeks.calls k _ _ l0 a1 true w (Kd.C_of_reads (d := (0 : Int)) (h1 := fun _ => rfl) hr0) hc0 h).mono ?_
 rintro e w' ⟨rfl, hd⟩
 exact ⟨rfl, hd⟩

end Go.Proofs.Ytepmcdcncjimeaa.PPostSeeks
