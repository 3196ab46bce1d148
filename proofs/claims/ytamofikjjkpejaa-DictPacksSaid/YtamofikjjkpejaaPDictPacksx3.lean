-- LAID BY this session's own printer (wip/pr): Lean checks it
import Derived.Test.YtamofikjjkpejaaPDictPacksx0
import Derived.Test.YtamofikjjkpejaaDConv
import Derived.Test.YtamofikjjkpejaaDStr
namespace Go.Proofs.Ytamofikjjkpejaa.PDictPacks
open Go.RowKit Go.Proofs.YtamofikjjkpejaaW.PrintWords Go.Proofs.YtamofikjjkpejaaW.PrintLast Go.Proofs.YtamofikjjkpejaaW.PrintMore
attribute [local go_sem] max2_int min2_int max_two min_two max_three min_three max_four min_four   -- for this text's walks alone
set_option linter.unusedVariables false
set_option linter.unusedSimpArgs false

attribute [local go_sem] Go.Proofs.Ytamofikjjkpejaa.DStr.str_leq
/-! ### vint_Get: function 29 -/
mutual
def vint_Get.j0 : Nat → List Int → Int → Bool → Option (Int × Int × Int)
 | 0, _, _, _ => none
 | k + 1, x0, x1, x17 => if x17 = true then (some (0, 0, 1)) else (vint_Get.l0 k x0 x1 0 (mn 5 (wrap64 ((x0.length : Int) - x1))) 0)
def vint_Get.l0 : Nat → List Int → Int → Int → Int → Int → Option (Int × Int × Int)
 | 0, _, _, _, _, _ => none
 | k + 1, x0, x1, x7, x22, x23 => if x23 < x22 then (if 0 ≤ (wrap64 (x1 + x23)) then (if (wrap64 (x1 + x23)) < (x0.length : Int) then (if 0 ≤ (wrap64 (7 * x23)) then (if (rd x0 (wrap64 (x1 + x23))) ≥ 128 then (vint_Get.l0 k x0 x1 (Go.bits .or .i64 x7 (shl .i64 (wrap64 (Int.tmod (rd x0 (wrap64 (x1 + x23))) 128)) (wrap64 (7 * x23)))) x22 (wrap64 (x23 + 1))) else (if (rd x0 (wrap64 (x1 + x23))) = 0 then (if x23 > 0 then (some (0, 0, 5)) else (some (Go.bits .or .i64 x7 (shl .i64 (wrap64 (Int.tmod (rd x0 (wrap64 (x1 + x23))) 128)) (wrap64 (7 * x23))), wrap64 ((wrap64 (x1 + x23)) + 1), 0))) else (some (Go.bits .or .i64 x7 (shl .i64 (wrap64 (Int.tmod (rd x0 (wrap64 (x1 + x23))) 128)) (wrap64 (7 * x23))), wrap64 ((wrap64 (x1 + x23)) + 1), 0)))) else (none)) else (none)) else (none)) else (some (0, 0, 5))
end
def vint_Get.f (k : Nat) (l0 : List Int) (a1 : Int) : Option (Int × Int × Int) := if a1 < 0 then (vint_Get.j0 k l0 a1 true) else (vint_Get.j0 k l0 a1 (decide (a1 > (l0.length : Int))))
theorem vint_Get.mono_l : ∀ k, (∀ y0 y1 y2, LeO (vint_Get.j0 k y0 y1 y2) (vint_Get.j0 (k + 1) y0 y1 y2)) ∧ (∀ y0 y1 y2 y3 y4, LeO (vint_Get.l0 k y0 y1 y2 y3 y4) (vint_Get.l0 (k + 1) y0 y1 y2 y3 y4))
 | 0 => ⟨fun _ _ _ r h => by simp [vint_Get.j0] at h, fun _ _ _ _ _ r h => by simp [vint_Get.l0] at h⟩
 | k + 1 => by
  obtain ⟨ih0, ih1⟩ := vint_Get.mono_l k
  refine ⟨?_, ?_⟩
  ·intro y0 y1 y2
   unfold vint_Get.j0
   repeat' first
   | (with_reducible exact ih0 _ _ _)
   | (with_reducible exact ih1 _ _ _ _ _)
   | (with_reducible exact LeO.refl _)
   | (with_reducible exact LeO.none _)
   | (with_reducible refine LeO.ite ?_ ?_)
   | (with_reducible refine LeO.bind ?_ (fun _ => ?_))
   | exact ih0 _ _ _
   | exact ih1 _ _ _ _ _
   | exact LeO.none _
   | refine LeO.ite ?_ ?_
   | refine LeO.bind ?_ (fun _ => ?_)
  ·intro y0 y1 y2 y3 y4
   unfold vint_Get.l0
   repeat' first
   | (with_reducible exact ih0 _ _ _)
   | (with_reducible exact ih1 _ _ _ _ _)
   | (with_reducible exact LeO.refl _)
   | (with_reducible exact LeO.none _)
   | (with_reducible refine LeO.ite ?_ ?_)
   | (with_reducible refine LeO.bind ?_ (fun _ => ?_))
   | exact ih0 _ _ _
   | exact ih1 _ _ _ _ _
   | exact LeO.none _
   | refine LeO.ite ?_ ?_
   | refine LeO.bind ?_ (fun _ => ?_)
theorem vint_Get.mono : ∀ a0 a1 k, LeO (vint_Get.f k a0 a1) (vint_Get.f (k + 1) a0 a1) := by
 intro a0 a1 k
 obtain ⟨ih0, ih1⟩ := vint_Get.mono_l k
 unfold vint_Get.f
 repeat' first
   | (with_reducible exact ih0 _ _ _)
   | (with_reducible exact ih1 _ _ _ _ _)
   | (with_reducible exact LeO.refl _)
   | (with_reducible exact LeO.none _)
   | (with_reducible refine LeO.ite ?_ ?_)
   | (with_reducible refine LeO.bind ?_ (fun _ => ?_))
   | exact ih0 _ _ _
   | exact ih1 _ _ _ _ _
   | exact LeO.none _
   | refine LeO.ite ?_ ?_
   | refine LeO.bind ?_ (fun _ => ?_)
set_option maxHeartbeats 8000000 in
set_option maxRecDepth 100000 in
theorem vint_Get.calls (k : Nat) (A0 : Option Addr) (c0 : Nat) (l0 : List Int) (a1 : Int) (r1 : Int) (r2 : Int) (r3 : Int) (w : World) (hr0 : Kd.C (Kd.int .u8) w A0 l0.length l0) (hc0 : l0.length ≤ c0) (h : vint_Get.f k l0 a1 = some (r1, r2, r3)) :
  Calls Try.prog 29 #[.slice A0 l0.length c0, .int .i64 a1] w fun e w' => e = .returned (.tuple #[.int .i64 r1, .int .i64 r2, .int .i64 r3]) ∧ Below w.heap.size w w' := by
 have HR0 := Aside0.mk hr0
 have HC0 := Aside0.mk hc0
 clear hr0 hc0
 have HB := Aside0.mk (Below.refl w.heap.size w)
 have H : (if a1 < 0 then (vint_Get.j0 k l0 a1 true) else (vint_Get.j0 k l0 a1 (decide (a1 > (l0.length : Int))))) = some (r1, r2, r3) := h
 clear h
 have HC3 := Aside0.mk H
 clear H
 go_enter Try.func29, Try.ntmps29
 go_upto_region 1 with (fail)
 go_cut [17] (fun v17 wc => ∃ (kq : Nat) (x17_2 : Bool), v17 = .bool x17_2 ∧ Aside0 (vint_Get.j0 kq l0 a1 x17_2 = some (r1, r2, r3)) ∧ Aside0 (kq ≤ k) ∧ Aside0 (Below w.heap.size w wc))
 case first =>
  have H := HC3.out
  clear HC3
  by_cases c4 : a1 < 0
  ·rw [if_pos c4] at H
   have c4b0 : decide (a1 < 0) = true := decide_eq_true c4
   clear c4
   (first | rw [c4b0] | (simp only [i64_w, i32_w]; rw [c4b0]) | skip)
   have H' := Aside0.mk H
   clear H
   go_wp2
   go_meet
   case rel => exact ⟨_, (true), (by first | rfl | (simp; done) | (simp [*]; done)), H', ⟨by first | omega | exact Nat.le_refl _⟩, ⟨by repeat (first | (with_reducible first | exact HB.out | apply below_alloc | apply pw_below_drewN | apply below_drew1) | exact HB.out)⟩⟩
  ·rw [if_neg c4] at H
   have c4b0 : decide (a1 < 0) = false := decide_eq_false c4
   clear c4
   (first | rw [c4b0] | (simp only [i64_w, i32_w]; rw [c4b0]) | skip)
   have H' := Aside0.mk H
   clear H
   go_wp2
   go_meet
   case rel => exact ⟨_, (decide (a1 > (l0.length : Int))), (by first | rfl | (simp; done) | (simp [*]; done)), H', ⟨by first | omega | exact Nat.le_refl _⟩, ⟨by repeat (first | (with_reducible first | exact HB.out | apply below_alloc | apply pw_below_drewN | apply below_drew1) | exact HB.out)⟩⟩
 case rest =>
  clear HC3
  try clear c2
  try clear p2
  try clear c4
  try clear c4b0
  obtain ⟨kq, x17_2, rfl, HA, HJ2, HB⟩ := hcut
  cases kq with
  | zero => exact absurd HA.out (by simp [vint_Get.j0])
  | succ kj2 =>
   have H := HA.out
   clear HA
   simp only [vint_Get.j0] at H
   by_cases c5 : x17_2 = true
   ·subst c5
    have H1 : (some (0, 0, 1)) = some (r1, r2, r3) := by rw [if_pos rfl] at H; exact H
    clear H
    have H := H1
    clear H1
    simp only [Option.some.injEq, Prod.mk.injEq] at H
    obtain ⟨rfl, rfl, rfl⟩ := H
    go_wp2
    go_ret3
    exact ⟨by first | rfl | (simp [errW_none, errW_some] <;> rfl) | (simp [*, errW_none, errW_some] <;> rfl), by repeat (first | (with_reducible first | exact HB.out | apply below_alloc | apply pw_below_drewN | apply below_drew1) | exact HB.out)⟩
   ·replace c5 := Bool.eq_false_iff.mpr c5
    subst c5
    have H1 : (vint_Get.l0 kj2 l0 a1 0 (mn 5 (wrap64 ((l0.length : Int) - a1))) 0) = some (r1, r2, r3) := by rw [if_neg (show ¬ (false = true) by decide)] at H; exact H
    clear H
    have H := H1
    clear H1
    obtain ⟨ji6, hji6⟩ : ∃ j_ : Int, (mn 5 (wrap64 ((l0.length : Int) - a1))) = j_ := ⟨_, rfl⟩
    replace H : (vint_Get.l0 kj2 l0 a1 0 ji6 0) = some (r1, r2, r3) := by first | (rw [hji6] at H; exact H) | (simp only [hji6] at H ⊢; exact H)
    have hji6_ : (if (wrap64 ((l0.length : Int) - a1)) < 5 then (wrap64 ((l0.length : Int) - a1)) else 5) = ji6 := hji6
    try (have hnji6 := hji6_; simp only [Int.ofNat_lt] at hnji6)
    have H' := Aside0.mk H
    clear H
    go_wp2
    go_loopg [7, 23] kj2 (fun kq v7 v23 w' => ∃ (x7_2 : Int) (x23_2 : Int), v7 = .int .i64 x7_2 ∧ v23 = .int .i64 x23_2 ∧ Aside0 (vint_Get.l0 kq l0 a1 x7_2 ji6 x23_2 = some (r1, r2, r3)) ∧ Aside0 (kq ≤ kj2) ∧ Aside0 (Below w.heap.size w w'))
    case atStart => exact ⟨(0), (0), (by first | rfl | (simp; done) | (simp [*]; done)), (by first | rfl | (simp; done) | (simp [*]; done)), H', ⟨Nat.le_refl _⟩, ⟨by repeat (first | (with_reducible first | exact HB.out | apply below_alloc | apply pw_below_drewN | apply below_drew1) | exact HB.out)⟩⟩
    case round =>
     clear H'
     try clear c2
     try clear p2
     try clear c4
     try clear c4b0
     try clear c5
     try clear p6
     try clear p2
     obtain ⟨x7_2, x23_2, rfl, rfl, HA, HK2, HB⟩ := hrel
     cases gk with
     | zero => exact absurd HA.out (by simp [vint_Get.l0])
     | succ k2 =>
      have H := HA.out
      clear HA
      simp only [vint_Get.l0] at H
      by_cases c7 : x23_2 < ji6
      ·rw [if_pos c7] at H
       have c7b0 : decide (x23_2 < ji6) = true := decide_eq_true c7
       clear c7
       obtain ⟨ji8, hji8⟩ : ∃ j_ : Int, (wrap64 (a1 + x23_2)) = j_ := ⟨_, rfl⟩
       replace H : (if 0 ≤ (ji8) then (if (ji8) < (l0.length : Int) then (if 0 ≤ (wrap64 (7 * x23_2)) then (if (rd l0 (ji8)) ≥ 128 then (vint_Get.l0 k2 l0 a1 (Go.bits .or .i64 x7_2 (shl .i64 (wrap64 (Int.tmod (rd l0 (ji8)) 128)) (wrap64 (7 * x23_2)))) ji6 (wrap64 (x23_2 + 1))) else (if (rd l0 (ji8)) = 0 then (if x23_2 > 0 then (some (0, 0, 5)) else (some (Go.bits .or .i64 x7_2 (shl .i64 (wrap64 (Int.tmod (rd l0 (ji8)) 128)) (wrap64 (7 * x23_2))), wrap64 ((ji8) + 1), 0))) else (some (Go.bits .or .i64 x7_2 (shl .i64 (wrap64 (Int.tmod (rd l0 (ji8)) 128)) (wrap64 (7 * x23_2))), wrap64 ((ji8) + 1), 0)))) else (none)) else (none)) else (none)) = some (r1, r2, r3) := by first | (rw [hji8] at H; exact H) | (simp only [hji8] at H ⊢; exact H)
       have hji8w : (IntKind.i64.wrap (a1 + x23_2)) = ji8 := (i64_w _).trans hji8
       by_cases c9 : 0 ≤ (ji8)
       ·rw [if_pos c9] at H
        have c9b0 : decide (0 ≤ (ji8)) = true := decide_eq_true c9
        clear c9
        by_cases c10 : (ji8) < (l0.length : Int)
        ·rw [if_pos c10] at H
         have c10b0 : decide ((ji8) < (l0.length : Int)) = true := decide_eq_true c10
         clear c10
         obtain ⟨ji11, hji11⟩ : ∃ j_ : Int, (wrap64 (7 * x23_2)) = j_ := ⟨_, rfl⟩
         replace H : (if 0 ≤ (ji11) then (if (rd l0 (ji8)) ≥ 128 then (vint_Get.l0 k2 l0 a1 (Go.bits .or .i64 x7_2 (shl .i64 (wrap64 (Int.tmod (rd l0 (ji8)) 128)) (ji11))) ji6 (wrap64 (x23_2 + 1))) else (if (rd l0 (ji8)) = 0 then (if x23_2 > 0 then (some (0, 0, 5)) else (some (Go.bits .or .i64 x7_2 (shl .i64 (wrap64 (Int.tmod (rd l0 (ji8)) 128)) (ji11)), wrap64 ((ji8) + 1), 0))) else (some (Go.bits .or .i64 x7_2 (shl .i64 (wrap64 (Int.tmod (rd l0 (ji8)) 128)) (ji11)), wrap64 ((ji8) + 1), 0)))) else (none)) = some (r1, r2, r3) := by first | (rw [hji11] at H; exact H) | (simp only [hji11] at H ⊢; exact H)
         have hji11w : (IntKind.i64.wrap (7 * x23_2)) = ji11 := (i64_w _).trans hji11
         by_cases c12 : 0 ≤ (ji11)
         ·rw [if_pos c12] at H
          have c12b0 := eq_true c12
          have c12b1 : decide (0 ≤ (ji11)) = true := decide_eq_true c12
          clear c12
          obtain ⟨ji13, hji13⟩ : ∃ j_ : Int, (shl .i64 (wrap64 (Int.tmod (rd l0 (ji8)) 128)) (ji11)) = j_ := ⟨_, rfl⟩
          replace H : (if (rd l0 (ji8)) ≥ 128 then (vint_Get.l0 k2 l0 a1 (Go.bits .or .i64 x7_2 (ji13)) ji6 (wrap64 (x23_2 + 1))) else (if (rd l0 (ji8)) = 0 then (if x23_2 > 0 then (some (0, 0, 5)) else (some (Go.bits .or .i64 x7_2 (ji13), wrap64 ((ji8) + 1), 0))) else (some (Go.bits .or .i64 x7_2 (ji13), wrap64 ((ji8) + 1), 0)))) = some (r1, r2, r3) := by first | (rw [hji13] at H; exact H) | (simp only [hji13] at H ⊢; exact H)
          have hji13_ : (IntKind.i64.wrap ((wrap64 (Int.tmod (rd l0 (ji8)) 128)) * 2 ^ min (ji11).toNat 64)) = ji13 := hji13
          have hji13z : (ji11) ≤ 64 → (IntKind.i64.wrap ((wrap64 (Int.tmod (rd l0 (ji8)) 128)) * 2 ^ (ji11).toNat)) = ji13 := shl_small hji13
          have hji13y : (wrap64 ((wrap64 (Int.tmod (rd l0 (ji8)) 128)) * 2 ^ min (ji11).toNat 64)) = ji13 := (i64_w _).symm.trans hji13_
          have hji13x : (ji11) ≤ 64 → (wrap64 ((wrap64 (Int.tmod (rd l0 (ji8)) 128)) * 2 ^ (ji11).toNat)) = ji13 := fun h_ => (i64_w _).symm.trans (hji13z h_)
          by_cases c14 : (rd l0 (ji8)) ≥ 128
          ·rw [if_pos c14] at H
           have c14b0 : decide (128 ≤ (rd l0 (ji8))) = true := decide_eq_true c14
           clear c14
           have H' := Aside0.mk H
           clear H
           have p143 : 0 ≤ ((ji8) : Int) := of_decide_eq_true (by first | (with_reducible assumption) | assumption)
           have q143 : (ji8) < (l0.length : Int) := of_decide_eq_true (by first | (with_reducible assumption) | assumption)
           obtain ⟨ad143, e143, hx143_0⟩ := Kd.at_int HR0.out (ji8) p143 q143
           cases e143
           replace hx143_0 := (HB.out.cell (World.block_lt_of_cell? w _ hx143_0)).trans hx143_0
           replace p143 := eq_true p143
           replace q143 := eq_true q143
           go_wp2
           go_roundg k2
           case measure => have := HJ2.out; have := HK2.out; omega
           case rel => exact ⟨(Go.bits .or .i64 x7_2 (ji13)), (wrap64 (x23_2 + 1)), (by first | rfl | (simp; done) | (simp only [← hji13] <;> (first | rfl | simp)) | (simp [*]; done)), (by first | rfl | (simp; done) | (simp [*]; done)), H', ⟨by have := HJ2.out; have := HK2.out; omega⟩, ⟨by repeat (first | (with_reducible first | exact HB.out | apply below_alloc | apply pw_below_drewN | apply below_drew1) | exact HB.out)⟩⟩
          ·rw [if_neg c14] at H
           have c14b0 : decide (128 ≤ (rd l0 (ji8))) = false := decide_eq_false c14
           clear c14
           by_cases c15 : (rd l0 (ji8)) = 0
           ·rw [if_pos c15] at H
            have c15b0 : ((rd l0 (ji8)) == 0) = true := beq_iff_eq.mpr c15
            have c15b1 : ((rd l0 (ji8)) != 0) = false := bne_eq_false_iff_eq.mpr c15
            clear c15
            by_cases c16 : x23_2 > 0
            ·rw [if_pos c16] at H
             have c16b0 : decide (0 < x23_2) = true := decide_eq_true c16
             clear c16
             simp only [Option.some.injEq, Prod.mk.injEq] at H
             obtain ⟨rfl, rfl, rfl⟩ := H
             have p143 : 0 ≤ ((ji8) : Int) := of_decide_eq_true (by first | (with_reducible assumption) | assumption)
             have q143 : (ji8) < (l0.length : Int) := of_decide_eq_true (by first | (with_reducible assumption) | assumption)
             obtain ⟨ad143, e143, hx143_0⟩ := Kd.at_int HR0.out (ji8) p143 q143
             cases e143
             replace hx143_0 := (HB.out.cell (World.block_lt_of_cell? w _ hx143_0)).trans hx143_0
             replace p143 := eq_true p143
             replace q143 := eq_true q143
             go_wp2
             go_ret3
             exact ⟨by first | rfl | (simp [errW_none, errW_some] <;> rfl) | (simp only [← hji6, ← hji8, ← hji11, ← hji13]; first | rfl | (simp [errW_none, errW_some] <;> rfl)) | (simp [*, errW_none, errW_some] <;> rfl), by repeat (first | (with_reducible first | exact HB.out | apply below_alloc | apply pw_below_drewN | apply below_drew1) | exact HB.out)⟩
            ·rw [if_neg c16] at H
             have c16b0 : decide (0 < x23_2) = false := decide_eq_false c16
             clear c16
             simp only [Option.some.injEq, Prod.mk.injEq] at H
             obtain ⟨rfl, rfl, rfl⟩ := H
             have p143 : 0 ≤ ((ji8) : Int) := of_decide_eq_true (by first | (with_reducible assumption) | assumption)
             have q143 : (ji8) < (l0.length : Int) := of_decide_eq_true (by first | (with_reducible assumption) | assumption)
             obtain ⟨ad143, e143, hx143_0⟩ := Kd.at_int HR0.out (ji8) p143 q143
             cases e143
             replace hx143_0 := (HB.out.cell (World.block_lt_of_cell? w _ hx143_0)).trans hx143_0
             replace p143 := eq_true p143
             replace q143 := eq_true q143
             go_wp2
             go_ret3
             exact ⟨by first | rfl | (simp [errW_none, errW_some] <;> rfl) | (simp only [← hji6, ← hji8, ← hji11, ← hji13]; first | rfl | (simp [errW_none, errW_some] <;> rfl)) | (simp [*, errW_none, errW_some] <;> rfl), by repeat (first | (with_reducible first | exact HB.out | apply below_alloc | apply pw_below_drewN | apply below_drew1) | exact HB.out)⟩
           ·rw [if_neg c15] at H
            have c15b0 : ((rd l0 (ji8)) == 0) = false := beq_eq_false_iff_ne.mpr c15
            have c15b1 : ((rd l0 (ji8)) != 0) = true := bne_iff_ne.mpr c15
            simp only [Option.some.injEq, Prod.mk.injEq] at H
            obtain ⟨rfl, rfl, rfl⟩ := H
            have p143 : 0 ≤ ((ji8) : Int) := of_decide_eq_true (by first | (with_reducible assumption) | assumption)
            have q143 : (ji8) < (l0.length : Int) := of_decide_eq_true (by first | (with_reducible assumption) | assumption)
            obtain ⟨ad143, e143, hx143_0⟩ := Kd.at_int HR0.out (ji8) p143 q143
            cases e143
            replace hx143_0 := (HB.out.cell (World.block_lt_of_cell? w _ hx143_0)).trans hx143_0
            replace p143 := eq_true p143
            replace q143 := eq_true q143
            go_wp2
            go_ret3
            exact ⟨by first | rfl | (simp [errW_none, errW_some] <;> rfl) | (simp only [← hji6, ← hji8, ← hji11, ← hji13]; first | rfl | (simp [errW_none, errW_some] <;> rfl)) | (simp [*, errW_none, errW_some] <;> rfl), by repeat (first | (with_reducible first | exact HB.out | apply below_alloc | apply pw_below_drewN | apply below_drew1) | exact HB.out)⟩
         ·rw [if_neg c12] at H
          exact absurd H (by simp)
        ·rw [if_neg c10] at H
         exact absurd H (by simp)
       ·rw [if_neg c9] at H
        exact absurd H (by simp)
      ·rw [if_neg c7] at H
       have c7b0 : decide (x23_2 < ji6) = false := decide_eq_false c7
       clear c7
       simp only [Option.some.injEq, Prod.mk.injEq] at H
       obtain ⟨rfl, rfl, rfl⟩ := H
       go_wp2
       go_ret3
       exact ⟨by first | rfl | (simp [errW_none, errW_some] <;> rfl) | (simp only [← hji6]; first | rfl | (simp [errW_none, errW_some] <;> rfl)) | (simp [*, errW_none, errW_some] <;> rfl), by repeat (first | (with_reducible first | exact HB.out | apply below_alloc | apply pw_below_drewN | apply below_drew1) | exact HB.out)⟩

/-! ### dict_shared: function 33 -/
def dict_shared.l0 : Nat → ByteArray → ByteArray → Int → Option (Int)
 | 0, _, _, _ => none
 | k + 1, x0, x1, x5 => if x5 < (mn (x0.size : Int) (x1.size : Int)) then (if 0 ≤ x5 then (if x5 < (x0.size : Int) then (if x5 < (x1.size : Int) then (if (bt x0 x5) = (bt x1 x5) then (dict_shared.l0 k x0 x1 (wrap64 (x5 + 1))) else (some x5)) else (none)) else (none)) else (none)) else (some x5)
def dict_shared.f (k : Nat) (a0 : ByteArray) (a1 : ByteArray) : Option (Int) := dict_shared.l0 k a0 a1 0
theorem dict_shared.mono_l : ∀ k, (∀ y0 y1 y2, LeO (dict_shared.l0 k y0 y1 y2) (dict_shared.l0 (k + 1) y0 y1 y2))
 | 0 => fun _ _ _ r h => by simp [dict_shared.l0] at h
 | k + 1 => by
  have ih0 := dict_shared.mono_l k
  ·intro y0 y1 y2
   unfold dict_shared.l0
   repeat' first
   | (with_reducible exact ih0 _ _ _)
   | (with_reducible exact LeO.refl _)
   | (with_reducible exact LeO.none _)
   | (with_reducible refine LeO.ite ?_ ?_)
   | (with_reducible refine LeO.bind ?_ (fun _ => ?_))
   | exact ih0 _ _ _
   | exact LeO.none _
   | refine LeO.ite ?_ ?_
   | refine LeO.bind ?_ (fun _ => ?_)
theorem dict_shared.mono : ∀ a0 a1 k, LeO (dict_shared.f k a0 a1) (dict_shared.f (k + 1) a0 a1) := by
 intro a0 a1 k
 have ih0 := dict_shared.mono_l k
 unfold dict_shared.f
 repeat' first
   | (with_reducible exact ih0 _ _ _)
   | (with_reducible exact LeO.refl _)
   | (with_reducible exact LeO.none _)
   | (with_reducible refine LeO.ite ?_ ?_)
   | (with_reducible refine LeO.bind ?_ (fun _ => ?_))
   | exact ih0 _ _ _
   | exact LeO.none _
   | refine LeO.ite ?_ ?_
   | refine LeO.bind ?_ (fun _ => ?_)
def dict_shared.T2 : Bool × List (List Nat × List Nat) := (true, [([], []), ([], []), ([1], [1]), ([], []), ([3], [3]), ([2, 4], [2, 4]), ([0, 5], [0, 5]), ([6], [6]), ([7], [7]), ([7], [7]), ([8, 9, 7], [7, 8, 9]), ([7], [7]), ([7], [7]), ([11, 12, 7], [7, 11, 12]), ([10, 13, 7], [7, 10, 13]), ([7, 14], [7, 14])])
def dict_shared.B2 : List Nat := [0, 0, 2, 0, 8, 30, 63, 127, 255, 255, 1023, 255, 255, 6399, 16383, 32767]
theorem dict_shared.tab2 : rtab .any (opsOf Try.f33 2) = dict_shared.T2 := by kernel_rfl
theorem dict_shared.bits2 : waitsOk dict_shared.T2.2 dict_shared.B2 = true := by kernel_rfl
set_option maxHeartbeats 8000000 in
set_option maxRecDepth 100000 in
theorem dict_shared.calls (k : Nat) (a0 : ByteArray) (a1 : ByteArray) (r : Int) (w : World) (h : dict_shared.f k a0 a1 = some r) :
  Calls Try.prog 33 #[.string a0, .string a1] w fun e w' => e = .returned (.int .i64 r) ∧ Below w.heap.size w w' := by
 have HB := Aside0.mk (Below.refl w.heap.size w)
 have H : (dict_shared.l0 k a0 a1 0) = some r := h
 clear h
 have H' := Aside0.mk H
 clear H
 go_enter Try.func33, Try.ntmps33
 go_wp2
 go_loopg [5] k (fun kq v5 w' => ∃ (x5_1 : Int), v5 = .int .i64 x5_1 ∧ Aside0 (dict_shared.l0 kq a0 a1 x5_1 = some r) ∧ Aside0 (kq ≤ k) ∧ Aside0 (Below w.heap.size w w'))
 case atStart => exact ⟨(0), (by first | rfl | (simp; done) | (simp [*]; done)), H', ⟨Nat.le_refl _⟩, ⟨by repeat (first | (with_reducible first | exact HB.out | apply below_alloc | apply pw_below_drewN | apply below_drew1) | exact HB.out)⟩⟩
 case round =>
  clear H'
  try clear p2
  obtain ⟨x5_1, rfl, HA, HK1, HB⟩ := hrel
  cases gk with
  | zero => exact absurd HA.out (by simp [dict_shared.l0])
  | succ k1 =>
   have H := HA.out
   clear HA
   simp only [dict_shared.l0] at H
   obtain ⟨ji3, hji3⟩ : ∃ j_ : Int, (mn (a0.size : Int) (a1.size : Int)) = j_ := ⟨_, rfl⟩
   replace H : (if x5_1 < (ji3) then (if 0 ≤ x5_1 then (if x5_1 < (a0.size : Int) then (if x5_1 < (a1.size : Int) then (if (bt a0 x5_1) = (bt a1 x5_1) then (dict_shared.l0 k1 a0 a1 (wrap64 (x5_1 + 1))) else (some x5_1)) else (none)) else (none)) else (none)) else (some x5_1)) = some r := by first | (rw [hji3] at H; exact H) | (simp only [hji3] at H ⊢; exact H)
   have hji3_ : (if (a1.size : Int) < (a0.size : Int) then (a1.size : Int) else (a0.size : Int)) = ji3 := hji3
   try (have hnji3 := hji3_; simp only [Int.ofNat_lt] at hnji3)
   by_cases c4 : x5_1 < (ji3)
   ·rw [if_pos c4] at H
    have c4b0 : decide (x5_1 < (ji3)) = true := decide_eq_true c4
    clear c4
    by_cases c5 : 0 ≤ x5_1
    ·rw [if_pos c5] at H
     have c5b0 : decide (0 ≤ x5_1) = true := decide_eq_true c5
     clear c5
     by_cases c6 : x5_1 < (a0.size : Int)
     ·rw [if_pos c6] at H
      have c6b0 : decide (x5_1 < (a0.size : Int)) = true := decide_eq_true c6
      clear c6
      by_cases c8 : x5_1 < (a1.size : Int)
      ·rw [if_pos c8] at H
       have c8b0 : decide (x5_1 < (a1.size : Int)) = true := decide_eq_true c8
       clear c8
       by_cases c10 : (bt a0 x5_1) = (bt a1 x5_1)
       ·rw [if_pos c10] at H
        have c10b0 : ((bt a0 x5_1) == (bt a1 x5_1)) = true := beq_iff_eq.mpr c10
        have c10b1 : ((bt a0 x5_1) != (bt a1 x5_1)) = false := bne_eq_false_iff_eq.mpr c10
        clear c10
        have H' := Aside0.mk H
        clear H
        try go_wp2
        have n0_ := Aside0.mk (below_drew1 HB.out)
        clear HB
        have HB := n0_
        clear n0_
        have p7 : 0 ≤ (x5_1 : Int) := of_decide_eq_true (by first | (with_reducible assumption) | assumption)
        have q7 : x5_1 < (a0.size : Int) := of_decide_eq_true (by first | (with_reducible assumption) | assumption)
        have hx7 := bt_at a0 x5_1
        replace p7 := eq_true p7
        replace q7 := eq_true q7
        have p9 : 0 ≤ (x5_1 : Int) := of_decide_eq_true (by first | (with_reducible assumption) | assumption)
        have q9 : x5_1 < (a1.size : Int) := of_decide_eq_true (by first | (with_reducible assumption) | assumption)
        have hx9 := bt_at a1 x5_1
        replace p9 := eq_true p9
        replace q9 := eq_true q9
        refine start_ (n := 16) (S := fun w' => True) (ds := []) #[F, F, F, F, F, F, F, F, F, F, F, F, F, F, F, F] (by kernel_rfl) rfl rfl trivial (fun hHeld => ?_); refine with_tabW dict_shared.tab2 dict_shared.bits2 (fun HT_ HW_ => ?_)
        generalize wr.drew = w11 at HB hHeld ⊢
        refine pure_ (i := 0) (N := some 6) (v := ?_) (a' := ?_) #[T, F, F, F, F, F, F, F, F, F, F, F, F, F, F, F] rfl rfl (any_of HT_.out (by kernel_rfl)) (fun _ _ _ h => h) (Or.inl ⟨by rfl, ?_⟩) ?_ ?_
        rotate_left
        ·intro w'
         go_simp
         with_reducible rfl
        rotate_left
        ·simp only [Act.put, List.setIfInBounds_toArray, List.set_cons_zero, List.set_cons_succ, i64_w, i32_w]
         rfl
        refine pure_ (i := 1) (N := some 7) (v := ?_) (a' := ?_) #[T, T, F, F, F, F, F, F, F, F, F, F, F, F, F, F] rfl rfl (any_of HT_.out (by kernel_rfl)) (fun _ _ _ h => h) (Or.inl ⟨by rfl, ?_⟩) ?_ ?_
        rotate_left
        ·intro w'
         go_simp
         with_reducible rfl
        rotate_left
        ·simp only [Act.put, List.setIfInBounds_toArray, List.set_cons_zero, List.set_cons_succ, i64_w, i32_w]
         rfl
        refine pure_ (i := 2) (N := some 8) (v := ?_) (a' := ?_) #[T, T, T, F, F, F, F, F, F, F, F, F, F, F, F, F] rfl rfl (any_of HT_.out (by kernel_rfl)) (fun _ _ _ h => h) (Or.inl ⟨by rfl, ?_⟩) ?_ ?_
        rotate_left
        ·intro w'
         go_simp
         with_reducible rfl
        rotate_left
        ·simp only [Act.put, List.setIfInBounds_toArray, List.set_cons_zero, List.set_cons_succ, i64_w, i32_w]
         rfl
        refine pure_ (i := 3) (N := some 9) (v := ?_) (a' := ?_) #[T, T, T, T, F, F, F, F, F, F, F, F, F, F, F, F] rfl rfl (any_of HT_.out (by kernel_rfl)) (fun _ _ _ h => h) (Or.inl ⟨by rfl, ?_⟩) ?_ ?_
        rotate_left
        ·intro w'
         go_simp
         with_reducible rfl
        rotate_left
        ·simp only [Act.put, List.setIfInBounds_toArray, List.set_cons_zero, List.set_cons_succ, i64_w, i32_w]
         rfl
        refine pure_ (i := 4) (N := some 10) (v := ?_) (a' := ?_) #[T, T, T, T, T, F, F, F, F, F, F, F, F, F, F, F] rfl rfl (any_of HT_.out (by kernel_rfl)) (fun _ _ _ h => h) (Or.inl ⟨by rfl, ?_⟩) ?_ ?_
        rotate_left
        ·intro w'
         go_simp
         with_reducible rfl
        rotate_left
        ·simp only [Act.put, List.setIfInBounds_toArray, List.set_cons_zero, List.set_cons_succ, i64_w, i32_w]
         rfl
        refine pure_ (i := 5) (N := some 11) (v := ?_) (a' := ?_) #[T, T, T, T, T, T, F, F, F, F, F, F, F, F, F, F] rfl rfl (any_of HT_.out (by kernel_rfl)) (fun _ _ _ h => h) (Or.inl ⟨by rfl, ?_⟩) ?_ ?_
        rotate_left
        ·intro w'
         go_simp
         with_reducible rfl
        rotate_left
        ·simp only [Act.put, List.setIfInBounds_toArray, List.set_cons_zero, List.set_cons_succ, i64_w, i32_w]
         rfl
        refine pure_ (i := 6) (N := some 12) (v := ?_) (a' := ?_) #[T, T, T, T, T, T, T, F, F, F, F, F, F, F, F, F] rfl rfl (any_of HT_.out (by kernel_rfl)) (fun _ _ _ h => h) (Or.inl ⟨by rfl, ?_⟩) ?_ ?_
        rotate_left
        ·intro w'
         go_simp
         with_reducible rfl
        rotate_left
        ·simp only [Act.put, List.setIfInBounds_toArray, List.set_cons_zero, List.set_cons_succ, i64_w, i32_w]
         rfl
        refine pure_ (i := 7) (N := some 13) (v := ?_) (a' := ?_) #[T, T, T, T, T, T, T, T, F, F, F, F, F, F, F, F] rfl rfl (any_of HT_.out (by kernel_rfl)) (fun _ _ _ h => h) (Or.inl ⟨by rfl, ?_⟩) ?_ ?_
        rotate_left
        ·intro w'
         go_simp
         with_reducible rfl
        rotate_left
        ·simp only [Act.put, List.setIfInBounds_toArray, List.set_cons_zero, List.set_cons_succ, i64_w, i32_w]
         rfl
        refine pure_ (i := 8) (N := some 14) (v := ?_) (a' := ?_) #[T, T, T, T, T, T, T, T, T, F, F, F, F, F, F, F] rfl rfl (any_of HT_.out (by kernel_rfl)) (fun _ _ _ h => h) (Or.inl ⟨by rfl, ?_⟩) ?_ ?_
        rotate_left
        ·intro w'
         go_simp
         with_reducible rfl
        rotate_left
        ·simp only [Act.put, List.setIfInBounds_toArray, List.set_cons_zero, List.set_cons_succ, i64_w, i32_w]
         rfl
        refine pure_ (i := 9) (N := some 15) (v := ?_) (a' := ?_) #[T, T, T, T, T, T, T, T, T, T, F, F, F, F, F, F] rfl rfl (any_of HT_.out (by kernel_rfl)) (fun _ _ _ h => h) (Or.inl ⟨by rfl, ?_⟩) ?_ ?_
        rotate_left
        ·intro w'
         go_simp
         with_reducible rfl
        rotate_left
        ·simp only [Act.put, List.setIfInBounds_toArray, List.set_cons_zero, List.set_cons_succ, i64_w, i32_w]
         rfl
        refine pure_ (i := 11) (N := some 17) (v := ?_) (a' := ?_) #[T, T, T, T, T, T, T, T, T, T, F, T, F, F, F, F] rfl rfl (any_of HT_.out (by kernel_rfl)) (fun _ _ _ h => h) (Or.inl ⟨by rfl, ?_⟩) ?_ ?_
        rotate_left
        ·intro w'
         go_simp
         with_reducible rfl
        rotate_left
        ·simp only [Act.put, List.setIfInBounds_toArray, List.set_cons_zero, List.set_cons_succ, i64_w, i32_w]
         rfl
        refine pure_ (i := 12) (N := some 18) (v := ?_) (a' := ?_) #[T, T, T, T, T, T, T, T, T, T, F, T, T, F, F, F] rfl rfl (any_of HT_.out (by kernel_rfl)) (fun _ _ _ h => h) (Or.inl ⟨by rfl, ?_⟩) ?_ ?_
        rotate_left
        ·intro w'
         go_simp
         with_reducible rfl
        rotate_left
        ·simp only [Act.put, List.setIfInBounds_toArray, List.set_cons_zero, List.set_cons_succ, i64_w, i32_w]
         rfl
        refine take_ (i := 10) (N := some 16) (v := ?_) (a' := ?_) #[T, T, T, T, T, T, T, T, T, T, T, T, T, F, F, F] rfl rfl (take_ofW HT_.out HW_.out (by kernel_rfl)) (fun _ _ _ h => h) (Or.inl ⟨by rfl, ?_⟩) hHeld ?_ ?_
        rotate_left
        ·intro w' _
         go_simp
         with_reducible rfl
        rotate_left
        ·simp only [Act.put, List.setIfInBounds_toArray, List.set_cons_zero, List.set_cons_succ, i64_w, i32_w]
         rfl
        refine take_ (i := 13) (N := some 19) (v := ?_) (a' := ?_) #[T, T, T, T, T, T, T, T, T, T, T, T, T, T, F, F] rfl rfl (take_ofW HT_.out HW_.out (by kernel_rfl)) (fun _ _ _ h => h) (Or.inl ⟨by rfl, ?_⟩) hHeld ?_ ?_
        rotate_left
        ·intro w' _
         go_simp
         with_reducible rfl
        rotate_left
        ·simp only [Act.put, List.setIfInBounds_toArray, List.set_cons_zero, List.set_cons_succ, i64_w, i32_w]
         rfl
        refine pure_ (i := 14) (N := some 20) (v := ?_) (a' := ?_) #[T, T, T, T, T, T, T, T, T, T, T, T, T, T, T, F] rfl rfl (any_of HT_.out (by kernel_rfl)) (fun _ _ _ h => h) (Or.inl ⟨by rfl, ?_⟩) ?_ ?_
        rotate_left
        ·intro w'
         go_simp
         with_reducible rfl
        rotate_left
        ·simp only [Act.put, List.setIfInBounds_toArray, List.set_cons_zero, List.set_cons_succ, i64_w, i32_w]
         rfl
        refine pure_ (i := 15) (N := some 21) (v := ?_) (a' := ?_) #[T, T, T, T, T, T, T, T, T, T, T, T, T, T, T, T] rfl rfl (any_of HT_.out (by kernel_rfl)) (fun _ _ _ h => h) (Or.inl ⟨by rfl, ?_⟩) ?_ ?_
        rotate_left
        ·intro w'
         go_simp
         with_reducible rfl
        rotate_left
        ·simp only [Act.put, List.setIfInBounds_toArray, List.set_cons_zero, List.set_cons_succ, i64_w, i32_w]
         rfl
        refine done_ (done_of HT_.out (by kernel_rfl)) ?_
        try go_wp2
        go_roundg k1
        case measure => have := HK1.out; omega
        case rel => exact ⟨(wrap64 (x5_1 + 1)), (by first | rfl | (simp; done) | (simp [*]; done)), H', ⟨by have := HK1.out; omega⟩, ⟨by repeat (first | (with_reducible first | exact HB.out | apply below_alloc | apply pw_below_drewN | apply below_drew1) | exact HB.out)⟩⟩
       ·rw [if_neg c10] at H
        have c10b0 : ((bt a0 x5_1) == (bt a1 x5_1)) = false := beq_eq_false_iff_ne.mpr c10
        have c10b1 : ((bt a0 x5_1) != (bt a1 x5_1)) = true := bne_iff_ne.mpr c10
        obtain rfl := Option.some.inj H
        try go_wp2
        have n0_ := Aside0.mk (below_drew1 HB.out)
        clear HB
        have HB := n0_
        clear n0_
        have p7 : 0 ≤ (x5_1 : Int) := of_decide_eq_true (by first | (with_reducible assumption) | assumption)
        have q7 : x5_1 < (a0.size : Int) := of_decide_eq_true (by first | (with_reducible assumption) | assumption)
        have hx7 := bt_at a0 x5_1
        replace p7 := eq_true p7
        replace q7 := eq_true q7
        have p9 : 0 ≤ (x5_1 : Int) := of_decide_eq_true (by first | (with_reducible assumption) | assumption)
        have q9 : x5_1 < (a1.size : Int) := of_decide_eq_true (by first | (with_reducible assumption) | assumption)
        have hx9 := bt_at a1 x5_1
        replace p9 := eq_true p9
        replace q9 := eq_true q9
        refine start_ (n := 16) (S := fun w' => True) (ds := []) #[F, F, F, F, F, F, F, F, F, F, F, F, F, F, F, F] (by kernel_rfl) rfl rfl trivial (fun hHeld => ?_); refine with_tabW dict_shared.tab2 dict_shared.bits2 (fun HT_ HW_ => ?_)
        generalize wr.drew = w12 at HB hHeld ⊢
        refine pure_ (i := 0) (N := some 6) (v := ?_) (a' := ?_) #[T, F, F, F, F, F, F, F, F, F, F, F, F, F, F, F] rfl rfl (any_of HT_.out (by kernel_rfl)) (fun _ _ _ h => h) (Or.inl ⟨by rfl, ?_⟩) ?_ ?_
        rotate_left
        ·intro w'
         go_simp
         with_reducible rfl
        rotate_left
        ·simp only [Act.put, List.setIfInBounds_toArray, List.set_cons_zero, List.set_cons_succ, i64_w, i32_w]
         rfl
        refine pure_ (i := 1) (N := some 7) (v := ?_) (a' := ?_) #[T, T, F, F, F, F, F, F, F, F, F, F, F, F, F, F] rfl rfl (any_of HT_.out (by kernel_rfl)) (fun _ _ _ h => h) (Or.inl ⟨by rfl, ?_⟩) ?_ ?_
        rotate_left
        ·intro w'
         go_simp
         with_reducible rfl
        rotate_left
        ·simp only [Act.put, List.setIfInBounds_toArray, List.set_cons_zero, List.set_cons_succ, i64_w, i32_w]
         rfl
        refine pure_ (i := 2) (N := some 8) (v := ?_) (a' := ?_) #[T, T, T, F, F, F, F, F, F, F, F, F, F, F, F, F] rfl rfl (any_of HT_.out (by kernel_rfl)) (fun _ _ _ h => h) (Or.inl ⟨by rfl, ?_⟩) ?_ ?_
        rotate_left
        ·intro w'
         go_simp
         with_reducible rfl
        rotate_left
        ·simp only [Act.put, List.setIfInBounds_toArray, List.set_cons_zero, List.set_cons_succ, i64_w, i32_w]
         rfl
        refine pure_ (i := 3) (N := some 9) (v := ?_) (a' := ?_) #[T, T, T, T, F, F, F, F, F, F, F, F, F, F, F, F] rfl rfl (any_of HT_.out (by kernel_rfl)) (fun _ _ _ h => h) (Or.inl ⟨by rfl, ?_⟩) ?_ ?_
        rotate_left
        ·intro w'
         go_simp
         with_reducible rfl
        rotate_left
        ·simp only [Act.put, List.setIfInBounds_toArray, List.set_cons_zero, List.set_cons_succ, i64_w, i32_w]
         rfl
        refine pure_ (i := 4) (N := some 10) (v := ?_) (a' := ?_) #[T, T, T, T, T, F, F, F, F, F, F, F, F, F, F, F] rfl rfl (any_of HT_.out (by kernel_rfl)) (fun _ _ _ h => h) (Or.inl ⟨by rfl, ?_⟩) ?_ ?_
        rotate_left
        ·intro w'
         go_simp
         with_reducible rfl
        rotate_left
        ·simp only [Act.put, List.setIfInBounds_toArray, List.set_cons_zero, List.set_cons_succ, i64_w, i32_w]
         rfl
        refine pure_ (i := 5) (N := some 11) (v := ?_) (a' := ?_) #[T, T, T, T, T, T, F, F, F, F, F, F, F, F, F, F] rfl rfl (any_of HT_.out (by kernel_rfl)) (fun _ _ _ h => h) (Or.inl ⟨by rfl, ?_⟩) ?_ ?_
        rotate_left
        ·intro w'
         go_simp
         with_reducible rfl
        rotate_left
        ·simp only [Act.put, List.setIfInBounds_toArray, List.set_cons_zero, List.set_cons_succ, i64_w, i32_w]
         rfl
        refine pure_ (i := 6) (N := some 12) (v := ?_) (a' := ?_) #[T, T, T, T, T, T, T, F, F, F, F, F, F, F, F, F] rfl rfl (any_of HT_.out (by kernel_rfl)) (fun _ _ _ h => h) (Or.inl ⟨by rfl, ?_⟩) ?_ ?_
        rotate_left
        ·intro w'
         go_simp
         with_reducible rfl
        rotate_left
        ·simp only [Act.put, List.setIfInBounds_toArray, List.set_cons_zero, List.set_cons_succ, i64_w, i32_w]
         rfl
        refine pure_ (i := 7) (N := some 13) (v := ?_) (a' := ?_) #[T, T, T, T, T, T, T, T, F, F, F, F, F, F, F, F] rfl rfl (any_of HT_.out (by kernel_rfl)) (fun _ _ _ h => h) (Or.inl ⟨by rfl, ?_⟩) ?_ ?_
        rotate_left
        ·intro w'
         go_simp
         with_reducible rfl
        rotate_left
        ·simp only [Act.put, List.setIfInBounds_toArray, List.set_cons_zero, List.set_cons_succ, i64_w, i32_w]
         rfl
        refine pure_ (i := 8) (N := some 14) (v := ?_) (a' := ?_) #[T, T, T, T, T, T, T, T, T, F, F, F, F, F, F, F] rfl rfl (any_of HT_.out (by kernel_rfl)) (fun _ _ _ h => h) (Or.inl ⟨by rfl, ?_⟩) ?_ ?_
        rotate_left
        ·intro w'
         go_simp
         with_reducible rfl
        rotate_left
        ·simp only [Act.put, List.setIfInBounds_toArray, List.set_cons_zero, List.set_cons_succ, i64_w, i32_w]
         rfl
        refine pure_ (i := 9) (N := some 15) (v := ?_) (a' := ?_) #[T, T, T, T, T, T, T, T, T, T, F, F, F, F, F, F] rfl rfl (any_of HT_.out (by kernel_rfl)) (fun _ _ _ h => h) (Or.inl ⟨by rfl, ?_⟩) ?_ ?_
        rotate_left
        ·intro w'
         go_simp
         with_reducible rfl
        rotate_left
        ·simp only [Act.put, List.setIfInBounds_toArray, List.set_cons_zero, List.set_cons_succ, i64_w, i32_w]
         rfl
        refine pure_ (i := 11) (N := some 17) (v := ?_) (a' := ?_) #[T, T, T, T, T, T, T, T, T, T, F, T, F, F, F, F] rfl rfl (any_of HT_.out (by kernel_rfl)) (fun _ _ _ h => h) (Or.inl ⟨by rfl, ?_⟩) ?_ ?_
        rotate_left
        ·intro w'
         go_simp
         with_reducible rfl
        rotate_left
        ·simp only [Act.put, List.setIfInBounds_toArray, List.set_cons_zero, List.set_cons_succ, i64_w, i32_w]
         rfl
        refine pure_ (i := 12) (N := some 18) (v := ?_) (a' := ?_) #[T, T, T, T, T, T, T, T, T, T, F, T, T, F, F, F] rfl rfl (any_of HT_.out (by kernel_rfl)) (fun _ _ _ h => h) (Or.inl ⟨by rfl, ?_⟩) ?_ ?_
        rotate_left
        ·intro w'
         go_simp
         with_reducible rfl
        rotate_left
        ·simp only [Act.put, List.setIfInBounds_toArray, List.set_cons_zero, List.set_cons_succ, i64_w, i32_w]
         rfl
        refine take_ (i := 10) (N := some 16) (v := ?_) (a' := ?_) #[T, T, T, T, T, T, T, T, T, T, T, T, T, F, F, F] rfl rfl (take_ofW HT_.out HW_.out (by kernel_rfl)) (fun _ _ _ h => h) (Or.inl ⟨by rfl, ?_⟩) hHeld ?_ ?_
        rotate_left
        ·intro w' _
         go_simp
         with_reducible rfl
        rotate_left
        ·simp only [Act.put, List.setIfInBounds_toArray, List.set_cons_zero, List.set_cons_succ, i64_w, i32_w]
         rfl
        refine take_ (i := 13) (N := some 19) (v := ?_) (a' := ?_) #[T, T, T, T, T, T, T, T, T, T, T, T, T, T, F, F] rfl rfl (take_ofW HT_.out HW_.out (by kernel_rfl)) (fun _ _ _ h => h) (Or.inl ⟨by rfl, ?_⟩) hHeld ?_ ?_
        rotate_left
        ·intro w' _
         go_simp
         with_reducible rfl
        rotate_left
        ·simp only [Act.put, List.setIfInBounds_toArray, List.set_cons_zero, List.set_cons_succ, i64_w, i32_w]
         rfl
        refine pure_ (i := 14) (N := some 20) (v := ?_) (a' := ?_) #[T, T, T, T, T, T, T, T, T, T, T, T, T, T, T, F] rfl rfl (any_of HT_.out (by kernel_rfl)) (fun _ _ _ h => h) (Or.inl ⟨by rfl, ?_⟩) ?_ ?_
        rotate_left
        ·intro w'
         go_simp
         with_reducible rfl
        rotate_left
        ·simp only [Act.put, List.setIfInBounds_toArray, List.set_cons_zero, List.set_cons_succ, i64_w, i32_w]
         rfl
        refine pure_ (i := 15) (N := some 21) (v := ?_) (a' := ?_) #[T, T, T, T, T, T, T, T, T, T, T, T, T, T, T, T] rfl rfl (any_of HT_.out (by kernel_rfl)) (fun _ _ _ h => h) (Or.inl ⟨by rfl, ?_⟩) ?_ ?_
        rotate_left
        ·intro w'
         go_simp
         with_reducible rfl
        rotate_left
        ·simp only [Act.put, List.setIfInBounds_toArray, List.set_cons_zero, List.set_cons_succ, i64_w, i32_w]
         rfl
        refine done_ (done_of HT_.out (by kernel_rfl)) ?_
        try go_wp2
        go_ret
        exact ⟨by first | rfl | (simp [errW_none, errW_some] <;> rfl) | (simp only [← hji3]; first | rfl | (simp [errW_none, errW_some] <;> rfl)) | (simp [*, errW_none, errW_some] <;> rfl), by repeat (first | (with_reducible first | exact HB.out | apply below_alloc | apply pw_below_drewN | apply below_drew1) | exact HB.out)⟩
      ·rw [if_neg c8] at H
       exact absurd H (by simp)
     ·rw [if_neg c6] at H
      exact absurd H (by simp)
    ·rw [if_neg c5] at H
     exact absurd H (by simp)
   ·rw [if_neg c4] at H
    have c4b0 : decide (x5_1 < (ji3)) = false := decide_eq_false c4
    clear c4
    obtain rfl := Option.some.inj H
    try go_wp2
    have n0_ := Aside0.mk (below_drew1 HB.out)
    clear HB
    have HB := n0_
    clear n0_
    refine start_ (n := 16) (S := fun w' => True) (ds := []) #[F, F, F, F, F, F, F, F, F, F, F, F, F, F, F, F] (by kernel_rfl) rfl rfl trivial (fun hHeld => ?_); refine with_tabW dict_shared.tab2 dict_shared.bits2 (fun HT_ HW_ => ?_)
    generalize wr.drew = w13 at HB hHeld ⊢
    refine pure_ (i := 0) (N := some 6) (v := ?_) (a' := ?_) #[T, F, F, F, F, F, F, F, F, F, F, F, F, F, F, F] rfl rfl (any_of HT_.out (by kernel_rfl)) (fun _ _ _ h => h) (Or.inl ⟨by rfl, ?_⟩) ?_ ?_
    rotate_left
    ·intro w'
     go_simp
     with_reducible rfl
    rotate_left
    ·simp only [Act.put, List.setIfInBounds_toArray, List.set_cons_zero, List.set_cons_succ, i64_w, i32_w]
     rfl
    refine pure_ (i := 1) (N := some 7) (v := ?_) (a' := ?_) #[T, T, F, F, F, F, F, F, F, F, F, F, F, F, F, F] rfl rfl (any_of HT_.out (by kernel_rfl)) (fun _ _ _ h => h) (Or.inl ⟨by rfl, ?_⟩) ?_ ?_
    rotate_left
    ·intro w'
     go_simp
     with_reducible rfl
    rotate_left
    ·simp only [Act.put, List.setIfInBounds_toArray, List.set_cons_zero, List.set_cons_succ, i64_w, i32_w]
     rfl
    refine pure_ (i := 2) (N := some 8) (v := ?_) (a' := ?_) #[T, T, T, F, F, F, F, F, F, F, F, F, F, F, F, F] rfl rfl (any_of HT_.out (by kernel_rfl)) (fun _ _ _ h => h) (Or.inl ⟨by rfl, ?_⟩) ?_ ?_
    rotate_left
    ·intro w'
     go_simp
     with_reducible rfl
    rotate_left
    ·simp only [Act.put, List.setIfInBounds_toArray, List.set_cons_zero, List.set_cons_succ, i64_w, i32_w]
     rfl
    refine pure_ (i := 3) (N := some 9) (v := ?_) (a' := ?_) #[T, T, T, T, F, F, F, F, F, F, F, F, F, F, F, F] rfl rfl (any_of HT_.out (by kernel_rfl)) (fun _ _ _ h => h) (Or.inl ⟨by rfl, ?_⟩) ?_ ?_
    rotate_left
    ·intro w'
     go_simp
     with_reducible rfl
    rotate_left
    ·simp only [Act.put, List.setIfInBounds_toArray, List.set_cons_zero, List.set_cons_succ, i64_w, i32_w]
     rfl
    refine pure_ (i := 4) (N := some 10) (v := ?_) (a' := ?_) #[T, T, T, T, T, F, F, F, F, F, F, F, F, F, F, F] rfl rfl (any_of HT_.out (by kernel_rfl)) (fun _ _ _ h => h) (Or.inl ⟨by rfl, ?_⟩) ?_ ?_
    rotate_left
    ·intro w'
     go_simp
     with_reducible rfl
    rotate_left
    ·simp only [Act.put, List.setIfInBounds_toArray, List.set_cons_zero, List.set_cons_succ, i64_w, i32_w]
     rfl
    refine pure_ (i := 5) (N := some 11) (v := ?_) (a' := ?_) #[T, T, T, T, T, T, F, F, F, F, F, F, F, F, F, F] rfl rfl (any_of HT_.out (by kernel_rfl)) (fun _ _ _ h => h) (Or.inl ⟨by rfl, ?_⟩) ?_ ?_
    rotate_left
    ·intro w'
     go_simp
     with_reducible rfl
    rotate_left
    ·simp only [Act.put, List.setIfInBounds_toArray, List.set_cons_zero, List.set_cons_succ, i64_w, i32_w]
     rfl
    refine pure_ (i := 6) (N := some 12) (v := ?_) (a' := ?_) #[T, T, T, T, T, T, T, F, F, F, F, F, F, F, F, F] rfl rfl (any_of HT_.out (by kernel_rfl)) (fun _ _ _ h => h) (Or.inl ⟨by rfl, ?_⟩) ?_ ?_
    rotate_left
    ·intro w'
     go_simp
     with_reducible rfl
    rotate_left
    ·simp only [Act.put, List.setIfInBounds_toArray, List.set_cons_zero, List.set_cons_succ, i64_w, i32_w]
     rfl
    refine pure_ (i := 7) (N := some 13) (v := ?_) (a' := ?_) #[T, T, T, T, T, T, T, T, F, F, F, F, F, F, F, F] rfl rfl (any_of HT_.out (by kernel_rfl)) (fun _ _ _ h => h) (Or.inl ⟨by rfl, ?_⟩) ?_ ?_
    rotate_left
    ·intro w'
     go_simp
     with_reducible rfl
    rotate_left
    ·simp only [Act.put, List.setIfInBounds_toArray, List.set_cons_zero, List.set_cons_succ, i64_w, i32_w]
     rfl
    refine pure_ (i := 8) (N := some 14) (v := undef) (a' := ?_) #[T, T, T, T, T, T, T, T, T, F, F, F, F, F, F, F] rfl rfl (any_of HT_.out (by kernel_rfl)) (fun _ _ _ h => h) (Or.inr ⟨by rfl, rfl⟩) ?_ ?_
    rotate_left
    ·simp only [Act.put, List.setIfInBounds_toArray, List.set_cons_zero, List.set_cons_succ, i64_w, i32_w]
     rfl
    refine pure_ (i := 9) (N := some 15) (v := undef) (a' := ?_) #[T, T, T, T, T, T, T, T, T, T, F, F, F, F, F, F] rfl rfl (any_of HT_.out (by kernel_rfl)) (fun _ _ _ h => h) (Or.inr ⟨by rfl, rfl⟩) ?_ ?_
    rotate_left
    ·simp only [Act.put, List.setIfInBounds_toArray, List.set_cons_zero, List.set_cons_succ, i64_w, i32_w]
     rfl
    refine pure_ (i := 10) (N := some 16) (v := undef) (a' := ?_) #[T, T, T, T, T, T, T, T, T, T, T, F, F, F, F, F] rfl rfl (any_of HT_.out (by kernel_rfl)) (fun _ _ _ h => h) (Or.inr ⟨by rfl, rfl⟩) ?_ ?_
    rotate_left
    ·simp only [Act.put, List.setIfInBounds_toArray, List.set_cons_zero, List.set_cons_succ, i64_w, i32_w]
     rfl
    refine pure_ (i := 11) (N := some 17) (v := undef) (a' := ?_) #[T, T, T, T, T, T, T, T, T, T, T, T, F, F, F, F] rfl rfl (any_of HT_.out (by kernel_rfl)) (fun _ _ _ h => h) (Or.inr ⟨by rfl, rfl⟩) ?_ ?_
    rotate_left
    ·simp only [Act.put, List.setIfInBounds_toArray, List.set_cons_zero, List.set_cons_succ, i64_w, i32_w]
     rfl
    refine pure_ (i := 12) (N := some 18) (v := undef) (a' := ?_) #[T, T, T, T, T, T, T, T, T, T, T, T, T, F, F, F] rfl rfl (any_of HT_.out (by kernel_rfl)) (fun _ _ _ h => h) (Or.inr ⟨by rfl, rfl⟩) ?_ ?_
    rotate_left
    ·simp only [Act.put, List.setIfInBounds_toArray, List.set_cons_zero, List.set_cons_succ, i64_w, i32_w]
     rfl
    refine pure_ (i := 13) (N := some 19) (v := undef) (a' := ?_) #[T, T, T, T, T, T, T, T, T, T, T, T, T, T, F, F] rfl rfl (any_of HT_.out (by kernel_rfl)) (fun _ _ _ h => h) (Or.inr ⟨by rfl, rfl⟩) ?_ ?_
    rotate_left
    ·simp only [Act.put, List.setIfInBounds_toArray, List.set_cons_zero, List.set_cons_succ, i64_w, i32_w]
     rfl
    refine pure_ (i := 14) (N := some 20) (v := undef) (a' := ?_) #[T, T, T, T, T, T, T, T, T, T, T, T, T, T, T, F] rfl rfl (any_of HT_.out (by kernel_rfl)) (fun _ _ _ h => h) (Or.inr ⟨by rfl, rfl⟩) ?_ ?_
    rotate_left
    ·simp only [Act.put, List.setIfInBounds_toArray, List.set_cons_zero, List.set_cons_succ, i64_w, i32_w]
     rfl
    refine pure_ (i := 15) (N := some 21) (v := ?_) (a' := ?_) #[T, T, T, T, T, T, T, T, T, T, T, T, T, T, T, T] rfl rfl (any_of HT_.out (by kernel_rfl)) (fun _ _ _ h => h) (Or.inl ⟨by rfl, ?_⟩) ?_ ?_
    rotate_left
    ·intro w'
     go_simp
     with_reducible rfl
    rotate_left
    ·simp only [Act.put, List.setIfInBounds_toArray, List.set_cons_zero, List.set_cons_succ, i64_w, i32_w]
     rfl
    refine done_ (done_of HT_.out (by kernel_rfl)) ?_
    try go_wp2
    go_ret
    exact ⟨by first | rfl | (simp [errW_none, errW_some] <;> rfl) | (simp only [← hji3]; first | rfl | (simp [errW_none, errW_some] <;> rfl)) | (simp [*, errW_none, errW_some] <;> rfl), by repeat (first | (with_reducible first | exact HB.out | apply below_alloc | apply pw_below_drewN | apply below_drew1) | exact HB.out)⟩

end Go.Proofs.Ytamofikjjkpejaa.PDictPacks
