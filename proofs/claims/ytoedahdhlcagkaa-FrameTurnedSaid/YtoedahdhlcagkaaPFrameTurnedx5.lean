-- LAID BY this session's own printer (wip/pr): Lean checks it
import Derived.Test.YtoedahdhlcagkaaPFrameTurnedx0
import Derived.Test.YtoedahdhlcagkaaPFrameTurnedx3
import Derived.Test.YtoedahdhlcagkaaPFrameTurnedx4
namespace Go.Proofs.Ytoedahdhlcagkaa.PFrameTurned
open Go.RowKit Go.Proofs.YtoedahdhlcagkaaW.PrintWords Go.Proofs.YtoedahdhlcagkaaW.PrintLast Go.Proofs.YtoedahdhlcagkaaW.PrintMore
attribute [local go_sem] max2_int min2_int max_two min_two max_three min_three max_four min_four   -- for this text's walks alone
set_option linter.unusedVariables false
set_option linter.unusedSimpArgs false

/-! ### catchwordlaw02_FrameTurned: function 5 -/
mutual
def catchwordlaw02_FrameTurned.j0 : Nat → List Int → Int → Int → List Int → Bool → List Int → Bool → Option (Bool)
 | 0, _, _, _, _, _, _, _ => none
 | k + 1, x0, x1, x2, x7, x9, x10, x35 => if x35 = true then (if x9 = true then (if (x0.length : Int) > 2000 then (some true) else (some (decide ((x10.length : Int) ≥ (wrap64 ((x0.length : Int) + 7)))))) else (some false)) else (catchwordlaw02_FrameTurned.l0 k x1 x2 x7 x10 false 0)
def catchwordlaw02_FrameTurned.l0 : Nat → Int → Int → List Int → List Int → Bool → Int → Option (Bool)
 | 0, _, _, _, _, _, _ => none
 | k + 1, x1, x2, x7, x10, x11, x12 => if x12 < 4 then (if (wrap64 (x2 + x12)) < (x10.length : Int) then (if 0 ≤ (wrap64 (x2 + x12)) then (if 0 ≤ x12 then (if x12 < (x7.length : Int) then ((some (x10.set ((wrap64 (x2 + x12)) : Int).toNat (Go.bits .xor .u8 (rd x10 (wrap64 (x2 + x12))) (rd x7 x12)) : List Int)).bind fun y194 => (if x11 = true then (catchwordlaw02_FrameTurned.l0 k x1 x2 x7 y194 true (wrap64 (x12 + 1))) else (catchwordlaw02_FrameTurned.l0 k x1 x2 x7 y194 ((rd x7 x12) != 0) (wrap64 (x12 + 1))))) else (none)) else (none)) else (none)) else ((frame_Open.f k x10 x1).bind fun bt196 => (if x11 = true then (if (bt196.1.length : Int) = 0 then (if bt196.2 = 5 then (some true) else (some (bt196.2 == 6))) else (some false)) else (some true)))) else ((frame_Open.f k x10 x1).bind fun bt200 => (if x11 = true then (if (bt200.1.length : Int) = 0 then (if bt200.2 = 5 then (some true) else (some (bt200.2 == 6))) else (some false)) else (some true)))
end
def catchwordlaw02_FrameTurned.f (k : Nat) (l0 : List Int) (a1 : Int) (a2 : Int) (a3_0 : Int) (a3_1 : Int) (a3_2 : Int) (a3_3 : Int) : Option (Bool) := (some (([a3_0, a3_1, a3_2, a3_3] : List Int) : List Int)).bind fun y185 => ((catchwordlaw02_awake.f k).bind fun t188 => ((frame_Wrap.f k a1 l0).bind fun t189 => (if t188 = true then (if (l0.length : Int) > 2000 then (catchwordlaw02_FrameTurned.j0 k l0 a1 a2 y185 t188 t189 true) else (if a2 < 0 then (catchwordlaw02_FrameTurned.j0 k l0 a1 a2 y185 t188 t189 true) else (catchwordlaw02_FrameTurned.j0 k l0 a1 a2 y185 t188 t189 (decide (a2 ≥ (t189.length : Int)))))) else (catchwordlaw02_FrameTurned.j0 k l0 a1 a2 y185 t188 t189 true))))
theorem catchwordlaw02_FrameTurned.mono_l : ∀ k, (∀ y0 y1 y2 y3 y4 y5 y6, LeO (catchwordlaw02_FrameTurned.j0 k y0 y1 y2 y3 y4 y5 y6) (catchwordlaw02_FrameTurned.j0 (k + 1) y0 y1 y2 y3 y4 y5 y6)) ∧ (∀ y0 y1 y2 y3 y4 y5, LeO (catchwordlaw02_FrameTurned.l0 k y0 y1 y2 y3 y4 y5) (catchwordlaw02_FrameTurned.l0 (k + 1) y0 y1 y2 y3 y4 y5))
 | 0 => ⟨fun _ _ _ _ _ _ _ r h => by simp [catchwordlaw02_FrameTurned.j0] at h, fun _ _ _ _ _ _ r h => by simp [catchwordlaw02_FrameTurned.l0] at h⟩
 | k + 1 => by
  obtain ⟨ih0, ih1⟩ := catchwordlaw02_FrameTurned.mono_l k
  refine ⟨?_, ?_⟩
  ·intro y0 y1 y2 y3 y4 y5 y6
   unfold catchwordlaw02_FrameTurned.j0
   repeat' first
   | (with_reducible exact ih0 _ _ _ _ _ _ _)
   | (with_reducible exact ih1 _ _ _ _ _ _)
   | (with_reducible exact catchwordlaw02_awake.mono _)
   | (with_reducible exact frame_Open.mono _ _ _)
   | (with_reducible exact frame_Wrap.mono _ _ _)
   | (with_reducible exact LeO.refl _)
   | (with_reducible exact LeO.none _)
   | (with_reducible refine LeO.ite ?_ ?_)
   | (with_reducible refine LeO.bind ?_ (fun _ => ?_))
   | exact ih0 _ _ _ _ _ _ _
   | exact ih1 _ _ _ _ _ _
   | exact catchwordlaw02_awake.mono _
   | exact frame_Open.mono _ _ _
   | exact frame_Wrap.mono _ _ _
   | exact LeO.none _
   | refine LeO.ite ?_ ?_
   | refine LeO.bind ?_ (fun _ => ?_)
  ·intro y0 y1 y2 y3 y4 y5
   unfold catchwordlaw02_FrameTurned.l0
   repeat' first
   | (with_reducible exact ih0 _ _ _ _ _ _ _)
   | (with_reducible exact ih1 _ _ _ _ _ _)
   | (with_reducible exact catchwordlaw02_awake.mono _)
   | (with_reducible exact frame_Open.mono _ _ _)
   | (with_reducible exact frame_Wrap.mono _ _ _)
   | (with_reducible exact LeO.refl _)
   | (with_reducible exact LeO.none _)
   | (with_reducible refine LeO.ite ?_ ?_)
   | (with_reducible refine LeO.bind ?_ (fun _ => ?_))
   | exact ih0 _ _ _ _ _ _ _
   | exact ih1 _ _ _ _ _ _
   | exact catchwordlaw02_awake.mono _
   | exact frame_Open.mono _ _ _
   | exact frame_Wrap.mono _ _ _
   | exact LeO.none _
   | refine LeO.ite ?_ ?_
   | refine LeO.bind ?_ (fun _ => ?_)
theorem catchwordlaw02_FrameTurned.mono : ∀ a0 a1 a2 a3 a4 a5 a6 k, LeO (catchwordlaw02_FrameTurned.f k a0 a1 a2 a3 a4 a5 a6) (catchwordlaw02_FrameTurned.f (k + 1) a0 a1 a2 a3 a4 a5 a6) := by
 intro a0 a1 a2 a3 a4 a5 a6 k
 obtain ⟨ih0, ih1⟩ := catchwordlaw02_FrameTurned.mono_l k
 unfold catchwordlaw02_FrameTurned.f
 repeat' first
   | (with_reducible exact ih0 _ _ _ _ _ _ _)
   | (with_reducible exact ih1 _ _ _ _ _ _)
   | (with_reducible exact catchwordlaw02_awake.mono _)
   | (with_reducible exact frame_Open.mono _ _ _)
   | (with_reducible exact frame_Wrap.mono _ _ _)
   | (with_reducible exact LeO.refl _)
   | (with_reducible exact LeO.none _)
   | (with_reducible refine LeO.ite ?_ ?_)
   | (with_reducible refine LeO.bind ?_ (fun _ => ?_))
   | exact ih0 _ _ _ _ _ _ _
   | exact ih1 _ _ _ _ _ _
   | exact catchwordlaw02_awake.mono _
   | exact frame_Open.mono _ _ _
   | exact frame_Wrap.mono _ _ _
   | exact LeO.none _
   | refine LeO.ite ?_ ?_
   | refine LeO.bind ?_ (fun _ => ?_)
def catchwordlaw02_FrameTurned.T9 : Bool × List (List Nat × List Nat) := (true, [([], []), ([], []), ([], []), ([1, 2], [1, 2]), ([], []), ([], []), ([], []), ([5, 6], [5, 6]), ([4, 7], [4, 7]), ([8], [8]), ([], []), ([10], [10]), ([11], [11]), ([9, 12], [9, 12]), ([0, 3, 0, 1, 2, 3, 4, 5, 6, 7, 8, 9, 10, 11, 12, 13], [0, 3]), ([14, 13, 0, 1, 2, 3, 4, 5, 6, 7, 8, 9, 10, 11, 12, 13], [13, 14])])
def catchwordlaw02_FrameTurned.B9 : List Nat := [0, 0, 0, 6, 0, 0, 0, 96, 240, 496, 0, 1024, 3072, 8176, 16383, 32767]
theorem catchwordlaw02_FrameTurned.tab9 : rtab .any (opsOf Try.f5 9) = catchwordlaw02_FrameTurned.T9 := by kernel_rfl
theorem catchwordlaw02_FrameTurned.bits9 : waitsOk catchwordlaw02_FrameTurned.T9.2 catchwordlaw02_FrameTurned.B9 = true := by kernel_rfl
set_option maxHeartbeats 8000000 in
set_option maxRecDepth 100000 in
theorem catchwordlaw02_FrameTurned.calls (k : Nat) (A0 : Option Addr) (c0 : Nat) (l0 : List Int) (a1 : Int) (a2 : Int) (a3_0 : Int) (a3_1 : Int) (a3_2 : Int) (a3_3 : Int) (r : Bool) (w : World) (hr0 : Kd.C (Kd.int .u8) w A0 l0.length l0) (hc0 : l0.length ≤ c0) (h : catchwordlaw02_FrameTurned.f k l0 a1 a2 a3_0 a3_1 a3_2 a3_3 = some r) :
  Calls Try.prog 5 #[.slice A0 l0.length c0, .int .u8 a1, .int .i64 a2, .agg #[.int .u8 a3_0, .int .u8 a3_1, .int .u8 a3_2, .int .u8 a3_3]] w fun e w' => e = .returned (.bool r) ∧ Below w.heap.size w w' := by
 have hu33 := Try.underlying33
 have HR0 := Aside0.mk hr0
 have HC0 := Aside0.mk hc0
 clear hr0 hc0
 have HB := Aside0.mk (Below.refl w.heap.size w)
 have H : ((some (([a3_0, a3_1, a3_2, a3_3] : List Int) : List Int)).bind fun y185 => ((catchwordlaw02_awake.f k).bind fun t188 => ((frame_Wrap.f k a1 l0).bind fun t189 => (if t188 = true then (if (l0.length : Int) > 2000 then (catchwordlaw02_FrameTurned.j0 k l0 a1 a2 y185 t188 t189 true) else (if a2 < 0 then (catchwordlaw02_FrameTurned.j0 k l0 a1 a2 y185 t188 t189 true) else (catchwordlaw02_FrameTurned.j0 k l0 a1 a2 y185 t188 t189 (decide (a2 ≥ (t189.length : Int)))))) else (catchwordlaw02_FrameTurned.j0 k l0 a1 a2 y185 t188 t189 true))))) = some r := h
 clear h
 obtain ⟨y185, hy185⟩ : ∃ y_ : List Int, y_ = (([a3_0, a3_1, a3_2, a3_3] : List Int)) := ⟨_, rfl⟩
 replace H : ((catchwordlaw02_awake.f k).bind fun t188 => ((frame_Wrap.f k a1 l0).bind fun t189 => (if t188 = true then (if (l0.length : Int) > 2000 then (catchwordlaw02_FrameTurned.j0 k l0 a1 a2 y185 t188 t189 true) else (if a2 < 0 then (catchwordlaw02_FrameTurned.j0 k l0 a1 a2 y185 t188 t189 true) else (catchwordlaw02_FrameTurned.j0 k l0 a1 a2 y185 t188 t189 (decide (a2 ≥ (t189.length : Int)))))) else (catchwordlaw02_FrameTurned.j0 k l0 a1 a2 y185 t188 t189 true)))) = some r := by first | (rw [hy185]; with_reducible exact H) | (have H2_ := (Option.bind_some _ _).symm.trans H; rw [hy185]; with_reducible exact H2_) | (have H2_ := (Option.bind_some _ _).symm.trans H; with_reducible exact H2_) | with_reducible exact H | (rw [hy185]; exact H) | exact H
 have Ny185 := Aside0.mk hy185
 clear hy185
 replace H := Option.bind_eq_some_iff.mp H
 obtain ⟨t188, A50, H⟩ := H
 replace H : ((frame_Wrap.f k a1 l0).bind fun t189 => (if t188 = true then (if (l0.length : Int) > 2000 then (catchwordlaw02_FrameTurned.j0 k l0 a1 a2 y185 t188 t189 true) else (if a2 < 0 then (catchwordlaw02_FrameTurned.j0 k l0 a1 a2 y185 t188 t189 true) else (catchwordlaw02_FrameTurned.j0 k l0 a1 a2 y185 t188 t189 (decide (a2 ≥ (t189.length : Int)))))) else (catchwordlaw02_FrameTurned.j0 k l0 a1 a2 y185 t188 t189 true))) = some r := H
 have A5 := Aside0.mk A50
 clear A50
 replace H := Option.bind_eq_some_iff.mp H
 obtain ⟨t189, A60, H⟩ := H
 replace H : (if t188 = true then (if (l0.length : Int) > 2000 then (catchwordlaw02_FrameTurned.j0 k l0 a1 a2 y185 t188 t189 true) else (if a2 < 0 then (catchwordlaw02_FrameTurned.j0 k l0 a1 a2 y185 t188 t189 true) else (catchwordlaw02_FrameTurned.j0 k l0 a1 a2 y185 t188 t189 (decide (a2 ≥ (t189.length : Int)))))) else (catchwordlaw02_FrameTurned.j0 k l0 a1 a2 y185 t188 t189 true)) = some r := H
 have A6 := Aside0.mk A60
 clear A60
 have HC7 := Aside0.mk H
 clear H
 go_enter Try.func5, Try.ntmps5
 go_upto_region 3 with (first | ((with_reducible refine gate_dst (N := 7) rfl ?_); (try (refine gate_guard (by rfl) ?_; dsimp only)); refine Kd.R_boxed (Kd.int .u8) _ 33 ?hg (N := 7) ?hd (xs := ([a3_0, a3_1, a3_2, a3_3] : List Int)) (inner := [.int .u8 a3_0, .int .u8 a3_1, .int .u8 a3_2, .int .u8 a3_3]) (ok := fun _ => True) (okp := fun _ => True) ?hr ?hp (fun _ hk => hk) trivial (Below.refl _ _) (Nat.le_refl _) (by simp) ?_; (case hd => rfl); (case hg => rfl); (case hr => first | (go_simp; done) | (go_simp; rfl)); (case hp => exact (Reps.one (show Kd.M (Kd.int .u8) _ _ _ a3_0 [.int .u8 a3_0] from rfl) (Reps.one (show Kd.M (Kd.int .u8) _ _ _ a3_1 [.int .u8 a3_1] from rfl) (Reps.one (show Kd.M (Kd.int .u8) _ _ _ a3_2 [.int .u8 a3_2] from rfl) (Reps.one (show Kd.M (Kd.int .u8) _ _ _ a3_3 [.int .u8 a3_3] from rfl) (Reps.none _ _)))))); intro adbv186 cbv186 w8 ho9 hb hg_ hnew_; clear hg_ hnew_; (first | rw [← Ny185.out] at ho9 | (simp only [Int.reduceToNat] at ho9; rw [← Ny185.out] at ho9)); have n0_ := Aside0.mk (Kd.R_lower ho9 (below_size (by repeat (first | (with_reducible first | exact HB.out | apply below_alloc | apply pw_below_drewN | apply below_drew1) | exact HB.out)))); have n1_ := Aside0.mk (below_step (by repeat (first | (with_reducible first | exact HB.out | apply below_alloc | apply pw_below_drewN | apply below_drew1) | exact HB.out)) hb); clear HB; have HO187 := n0_; have HB := n1_; clear n0_ n1_; clear hb ho9) | ((with_reducible refine gate_callee (f := 9) rfl ?_); refine goesL_ (some 15) rfl rfl Try.func9 (by kernel_rfl) rfl #[] rfl (by (try simp only [List.map_toArray, List.map_cons, List.map_nil]); first | done | rfl | (simp only [List.length_drop, List.length_take]; rfl)) ?_; (with_reducible refine (catchwordlaw02_awake.calls k  t188 _ A5.out).mono ?_); rintro e w10 ⟨rfl, hb⟩; refine ⟨_, rfl, ?_⟩; have n0_ := Aside0.mk (Kd.R_below (by (with_reducible repeat (first | apply Kd.R_alloc | apply Kd.R_drewN | apply Kd.R_drew)); exact HO187.out) hb); have n1_ := Aside0.mk (below_step (by repeat (first | (with_reducible first | exact HB.out | apply below_alloc | apply pw_below_drewN | apply below_drew1) | exact HB.out)) hb); clear HO187; clear HB; have HO187 := n0_; have HB := n1_; clear n0_ n1_; (try clear hb); (try clear hb2); (try clear hk); (try clear hi)) | ((with_reducible refine gate_callee (f := 13) rfl ?_); refine goesL_ (some 18) rfl rfl Try.func13 (by kernel_rfl) rfl #[.int .u8 a1, .slice A0 l0.length c0] rfl (by (try simp only [List.map_toArray, List.map_cons, List.map_nil]); first | done | rfl | (simp only [List.length_drop, List.length_take]; rfl)) ?_; (with_reducible refine (frame_Wrap.calls k a1 _ _ l0 t189 _ ?side1 ?side2 A6.out).mono ?_); (case side1 => repeat (first | exact (Kd.C_below HR0.out HB.out) | (with_reducible refine Kd.C_alloc ?_ _) | (with_reducible refine Kd.C_drewN ?_ _) | (with_reducible refine Kd.C_drew ?_))); (case side2 => exact HC0.out); rintro e w11 ⟨v190, rfl, ho0, hb⟩; refine ⟨_, rfl, ?_⟩; have n0_ := Aside0.mk (Kd.R_below (by (with_reducible repeat (first | apply Kd.R_alloc | apply Kd.R_drewN | apply Kd.R_drew)); exact HO187.out) hb); have n1_ := Aside0.mk (Kd.R_lower ho0 (below_size (by repeat (first | (with_reducible first | exact HB.out | apply below_alloc | apply pw_below_drewN | apply below_drew1) | exact HB.out)))); have n2_ := Aside0.mk (below_step (by repeat (first | (with_reducible first | exact HB.out | apply below_alloc | apply pw_below_drewN | apply below_drew1) | exact HB.out)) hb); clear HO187; clear HB; have HO187 := n0_; have HO191 := n1_; have HB := n2_; clear n0_ n1_ n2_; (try clear hb); (try clear hb2); (try clear hk); (try clear hi); (try clear ho0)))
 (try simp only [Act.put, List.setIfInBounds_toArray, List.set_cons_zero, List.set_cons_succ])
 go_cut [35] (fun v35 wc => ∃ (kq : Nat) (x35_6 : Bool), v35 = .bool x35_6 ∧ Aside0 (catchwordlaw02_FrameTurned.j0 kq l0 a1 a2 y185 t188 t189 x35_6 = some r) ∧ Aside0 (kq ≤ k) ∧ Aside0 (Kd.R (Kd.int .u8) 33 wc w.heap.size (fun _ => True) (.slice (some adbv186) y185.length cbv186) y185) ∧ Aside0 (Kd.R (Kd.int .u8) 5 wc w.heap.size (fun _ => True) v190 t189) ∧ Aside0 (Below w.heap.size w wc))
 case first =>
  have H := HC7.out
  clear HC7
  by_cases c12 : t188 = true
  ·subst c12
   have H1 : (if (l0.length : Int) > 2000 then (catchwordlaw02_FrameTurned.j0 k l0 a1 a2 y185 true t189 true) else (if a2 < 0 then (catchwordlaw02_FrameTurned.j0 k l0 a1 a2 y185 true t189 true) else (catchwordlaw02_FrameTurned.j0 k l0 a1 a2 y185 true t189 (decide (a2 ≥ (t189.length : Int)))))) = some r := by rw [if_pos rfl] at H; exact H
   clear H
   have H := H1
   clear H1
   by_cases c13 : (l0.length : Int) > 2000
   ·rw [if_pos c13] at H
    have c13b0 : decide (2000 < (l0.length : Int)) = true := decide_eq_true c13
    have c13b1 : decide (2000 < l0.length) = true := decide_eq_true (by omega)
    clear c13
    (first | rw [c13b0] | (simp only [i64_w, i32_w]; rw [c13b0]) | skip)
    have H' := Aside0.mk H
    clear H
    go_wp2
    go_meet
    case rel => exact ⟨_, (true), (by first | rfl | (simp; done) | (simp [*]; done)), H', ⟨by first | omega | exact Nat.le_refl _⟩, ⟨by (with_reducible repeat (first | apply Kd.R_alloc | apply Kd.R_drewN | apply Kd.R_drew)); exact HO187.out⟩, ⟨by (with_reducible repeat (first | apply Kd.R_alloc | apply Kd.R_drewN | apply Kd.R_drew)); exact HO191.out⟩, ⟨by repeat (first | (with_reducible first | exact HB.out | apply below_alloc | apply pw_below_drewN | apply below_drew1) | exact HB.out)⟩⟩
   ·rw [if_neg c13] at H
    have c13b0 : decide (2000 < (l0.length : Int)) = false := decide_eq_false c13
    have c13b1 : decide (2000 < l0.length) = false := decide_eq_false (by omega)
    clear c13
    (first | rw [c13b0] | (simp only [i64_w, i32_w]; rw [c13b0]) | skip)
    by_cases c14 : a2 < 0
    ·rw [if_pos c14] at H
     have c14b0 : decide (a2 < 0) = true := decide_eq_true c14
     clear c14
     have H' := Aside0.mk H
     clear H
     go_wp2
     go_meet
     case rel => exact ⟨_, (true), (by first | rfl | (simp; done) | (simp [*]; done)), H', ⟨by first | omega | exact Nat.le_refl _⟩, ⟨by (with_reducible repeat (first | apply Kd.R_alloc | apply Kd.R_drewN | apply Kd.R_drew)); exact HO187.out⟩, ⟨by (with_reducible repeat (first | apply Kd.R_alloc | apply Kd.R_drewN | apply Kd.R_drew)); exact HO191.out⟩, ⟨by repeat (first | (with_reducible first | exact HB.out | apply below_alloc | apply pw_below_drewN | apply below_drew1) | exact HB.out)⟩⟩
    ·rw [if_neg c14] at H
     have c14b0 : decide (a2 < 0) = false := decide_eq_false c14
     clear c14
     have H' := Aside0.mk H
     clear H
     obtain ⟨Ao15, co15, eo15⟩ := Kd.R_slice HO191.out
     subst eo15
     go_wp2
     go_meet
     case rel => exact ⟨_, (decide (a2 ≥ (t189.length : Int))), (by first | rfl | (simp; done) | (simp [*]; done)), H', ⟨by first | omega | exact Nat.le_refl _⟩, ⟨by (with_reducible repeat (first | apply Kd.R_alloc | apply Kd.R_drewN | apply Kd.R_drew)); exact HO187.out⟩, ⟨by (with_reducible repeat (first | apply Kd.R_alloc | apply Kd.R_drewN | apply Kd.R_drew)); exact HO191.out⟩, ⟨by repeat (first | (with_reducible first | exact HB.out | apply below_alloc | apply pw_below_drewN | apply below_drew1) | exact HB.out)⟩⟩
  ·replace c12 := Bool.eq_false_iff.mpr c12
   subst c12
   have H1 : (catchwordlaw02_FrameTurned.j0 k l0 a1 a2 y185 false t189 true) = some r := by rw [if_neg (show ¬ (false = true) by decide)] at H; exact H
   clear H
   have H := H1
   clear H1
   have H' := Aside0.mk H
   clear H
   go_wp2
   go_meet
   case rel => exact ⟨_, (true), (by first | rfl | (simp; done) | (simp [*]; done)), H', ⟨by first | omega | exact Nat.le_refl _⟩, ⟨by (with_reducible repeat (first | apply Kd.R_alloc | apply Kd.R_drewN | apply Kd.R_drew)); exact HO187.out⟩, ⟨by (with_reducible repeat (first | apply Kd.R_alloc | apply Kd.R_drewN | apply Kd.R_drew)); exact HO191.out⟩, ⟨by repeat (first | (with_reducible first | exact HB.out | apply below_alloc | apply pw_below_drewN | apply below_drew1) | exact HB.out)⟩⟩
 case rest =>
  clear HC7
  try clear c1
  try clear p2
  try clear c5
  try clear c9
  try clear c12
  try clear c13
  try clear c13b0
  try clear c13b1
  try clear c14
  try clear c14b0
  obtain ⟨kq, x35_6, rfl, HA, HJ6, HO_7, HO_10, HB⟩ := hcut
  cases kq with
  | zero => exact absurd HA.out (by simp [catchwordlaw02_FrameTurned.j0])
  | succ kj6 =>
   have H := HA.out
   clear HA
   simp only [catchwordlaw02_FrameTurned.j0] at H
   by_cases c16 : x35_6 = true
   ·subst c16
    have H1 : (if t188 = true then (if (l0.length : Int) > 2000 then (some true) else (some (decide ((t189.length : Int) ≥ (wrap64 ((l0.length : Int) + 7)))))) else (some false)) = some r := by rw [if_pos rfl] at H; exact H
    clear H
    have H := H1
    clear H1
    by_cases c17 : t188 = true
    ·subst c17
     have H1 : (if (l0.length : Int) > 2000 then (some true) else (some (decide ((t189.length : Int) ≥ (wrap64 ((l0.length : Int) + 7)))))) = some r := by rw [if_pos rfl] at H; exact H
     clear H
     have H := H1
     clear H1
     by_cases c18 : (l0.length : Int) > 2000
     ·rw [if_pos c18] at H
      have c18b0 : decide (2000 < (l0.length : Int)) = true := decide_eq_true c18
      have c18b1 : decide (2000 < l0.length) = true := decide_eq_true (by omega)
      clear c18
      obtain rfl := Option.some.inj H
      go_wp2
      go_ret
      exact ⟨by first | rfl | (simp [errW_none, errW_some] <;> rfl) | (simp [*, errW_none, errW_some] <;> rfl), by repeat (first | (with_reducible first | exact HB.out | apply below_alloc | apply pw_below_drewN | apply below_drew1) | exact HB.out)⟩
     ·rw [if_neg c18] at H
      have c18b0 : decide (2000 < (l0.length : Int)) = false := decide_eq_false c18
      have c18b1 : decide (2000 < l0.length) = false := decide_eq_false (by omega)
      clear c18
      obtain rfl := Option.some.inj H
      obtain ⟨Ao19, co19, eo19⟩ := Kd.R_slice HO_10.out
      subst eo19
      go_wp2
      go_ret
      exact ⟨by first | rfl | (simp [errW_none, errW_some] <;> rfl) | (simp [*, errW_none, errW_some] <;> rfl), by repeat (first | (with_reducible first | exact HB.out | apply below_alloc | apply pw_below_drewN | apply below_drew1) | exact HB.out)⟩
    ·replace c17 := Bool.eq_false_iff.mpr c17
     subst c17
     have H1 : (some false) = some r := by rw [if_neg (show ¬ (false = true) by decide)] at H; exact H
     clear H
     have H := H1
     clear H1
     obtain rfl := Option.some.inj H
     go_wp2
     go_ret
     exact ⟨by first | rfl | (simp [errW_none, errW_some] <;> rfl) | (simp [*, errW_none, errW_some] <;> rfl), by repeat (first | (with_reducible first | exact HB.out | apply below_alloc | apply pw_below_drewN | apply below_drew1) | exact HB.out)⟩
   ·replace c16 := Bool.eq_false_iff.mpr c16
    subst c16
    have H1 : (catchwordlaw02_FrameTurned.l0 kj6 a1 a2 y185 t189 false 0) = some r := by rw [if_neg (show ¬ (false = true) by decide)] at H; exact H
    clear H
    have H := H1
    clear H1
    have H' := Aside0.mk H
    clear H
    go_wp2
    go_loopg [11, 12] kj6 (fun kq v11 v12 w' => ∃ (x10_2 : List Int) (x11_2 : Bool) (x12_2 : Int), v11 = .bool x11_2 ∧ v12 = .int .i64 x12_2 ∧ Aside0 (catchwordlaw02_FrameTurned.l0 kq a1 a2 y185 x10_2 x11_2 x12_2 = some r) ∧ Aside0 (kq ≤ kj6) ∧ Aside0 (Kd.R (Kd.int .u8) 33 w' w.heap.size (fun _ => True) (.slice (some adbv186) y185.length cbv186) y185) ∧ Aside0 (Kd.R (Kd.int .u8) 5 w' w.heap.size (fun _ => True) v190 x10_2) ∧ Aside0 (Below w.heap.size w w'))
    case atStart => exact ⟨(t189), (false), (0), (by first | rfl | (simp; done) | (simp [*]; done)), (by first | rfl | (simp; done) | (simp [*]; done)), H', ⟨Nat.le_refl _⟩, ⟨by (with_reducible repeat (first | apply Kd.R_alloc | apply Kd.R_drewN | apply Kd.R_drew)); exact HO_7.out⟩, ⟨by (with_reducible repeat (first | apply Kd.R_alloc | apply Kd.R_drewN | apply Kd.R_drew)); exact HO_10.out⟩, ⟨by repeat (first | (with_reducible first | exact HB.out | apply below_alloc | apply pw_below_drewN | apply below_drew1) | exact HB.out)⟩⟩
    case round =>
     clear H'
     try clear c1
     try clear p2
     try clear c5
     try clear p6
     try clear c9
     try clear c12
     try clear c13
     try clear c13b0
     try clear c13b1
     try clear c14
     try clear c14b0
     try clear c16
     try clear c17
     try clear c18
     try clear c18b0
     try clear c18b1
     try clear p2
     obtain ⟨x10_2, x11_2, x12_2, rfl, rfl, HA, HK2, HO_7, HO_10, HB⟩ := hrel
     cases gk with
     | zero => exact absurd HA.out (by simp [catchwordlaw02_FrameTurned.l0])
     | succ k2 =>
      have H := HA.out
      clear HA
      simp only [catchwordlaw02_FrameTurned.l0] at H
      by_cases c20 : x12_2 < 4
      ·rw [if_pos c20] at H
       have c20b0 : decide (x12_2 < 4) = true := decide_eq_true c20
       clear c20
       by_cases c21 : (wrap64 (a2 + x12_2)) < (x10_2.length : Int)
       ·rw [if_pos c21] at H
        have c21b0 : decide ((wrap64 (a2 + x12_2)) < (x10_2.length : Int)) = true := decide_eq_true c21
        clear c21
        obtain ⟨ji22, hji22⟩ : ∃ j_ : Int, (wrap64 (a2 + x12_2)) = j_ := ⟨_, rfl⟩
        replace H : (if 0 ≤ (ji22) then (if 0 ≤ x12_2 then (if x12_2 < (y185.length : Int) then ((some (x10_2.set ((ji22) : Int).toNat (Go.bits .xor .u8 (rd x10_2 (ji22)) (rd y185 x12_2)) : List Int)).bind fun y194 => (if x11_2 = true then (catchwordlaw02_FrameTurned.l0 k2 a1 a2 y185 y194 true (wrap64 (x12_2 + 1))) else (catchwordlaw02_FrameTurned.l0 k2 a1 a2 y185 y194 ((rd y185 x12_2) != 0) (wrap64 (x12_2 + 1))))) else (none)) else (none)) else (none)) = some r := by first | (rw [hji22] at H; exact H) | (simp only [hji22] at H ⊢; exact H)
        (try rw [hji22] at c21b0)
        have hji22w : (IntKind.i64.wrap (a2 + x12_2)) = ji22 := (i64_w _).trans hji22
        by_cases c23 : 0 ≤ (ji22)
        ·rw [if_pos c23] at H
         have c23b0 : decide (0 ≤ (ji22)) = true := decide_eq_true c23
         clear c23
         by_cases c24 : 0 ≤ x12_2
         ·rw [if_pos c24] at H
          have c24b0 : decide (0 ≤ x12_2) = true := decide_eq_true c24
          clear c24
          by_cases c25 : x12_2 < (y185.length : Int)
          ·rw [if_pos c25] at H
           have c25b0 : decide (x12_2 < (y185.length : Int)) = true := decide_eq_true c25
           clear c25
           obtain ⟨y194, hy194⟩ : ∃ y_ : List Int, y_ = (x10_2.set ((ji22) : Int).toNat (Go.bits .xor .u8 (rd x10_2 (ji22)) (rd y185 x12_2))) := ⟨_, rfl⟩
           replace H : (if x11_2 = true then (catchwordlaw02_FrameTurned.l0 k2 a1 a2 y185 y194 true (wrap64 (x12_2 + 1))) else (catchwordlaw02_FrameTurned.l0 k2 a1 a2 y185 y194 ((rd y185 x12_2) != 0) (wrap64 (x12_2 + 1)))) = some r := by first | (rw [hy194]; with_reducible exact H) | (have H2_ := (Option.bind_some _ _).symm.trans H; rw [hy194]; with_reducible exact H2_) | (have H2_ := (Option.bind_some _ _).symm.trans H; with_reducible exact H2_) | with_reducible exact H | (rw [hy194]; exact H) | exact H
           have Ny194 := Aside0.mk hy194
           clear hy194
           by_cases c27 : x11_2 = true
           ·subst c27
            have H1 : (catchwordlaw02_FrameTurned.l0 k2 a1 a2 y185 y194 true (wrap64 (x12_2 + 1))) = some r := by rw [if_pos rfl] at H; exact H
            clear H
            have H := H1
            clear H1
            have H' := Aside0.mk H
            clear H
            obtain ⟨Ao28, co28, eo28⟩ := Kd.R_slice HO_10.out
            subst eo28
            try go_wp2
            have n0_ := Aside0.mk (Kd.R_drew HO_7.out)
            have n1_ := Aside0.mk (Kd.R_drew HO_10.out)
            have n2_ := Aside0.mk (below_drew1 HB.out)
            clear HO_7
            clear HO_10
            clear HB
            have HO_7 := n0_
            have HO_10 := n1_
            have HB := n2_
            clear n0_ n1_ n2_
            have p192 : 0 ≤ ((ji22) : Int) := of_decide_eq_true (by first | (with_reducible assumption) | assumption)
            have q192 : (ji22) < (x10_2.length : Int) := of_decide_eq_true (by first | (with_reducible assumption) | assumption)
            obtain ⟨ad192, e192, hx192_0⟩ := Kd.at_int (Kd.R_reads' HO_10.out).2.2 (ji22) p192 q192
            cases e192
            replace p192 := eq_true p192
            replace q192 := eq_true q192
            have p193 : 0 ≤ (x12_2 : Int) := of_decide_eq_true (by first | (with_reducible assumption) | assumption)
            have q193 : x12_2 < (y185.length : Int) := of_decide_eq_true (by first | (with_reducible assumption) | assumption)
            obtain ⟨ad193, e193, hx193_0⟩ := Kd.at_int (Kd.R_reads' HO_7.out).2.2 x12_2 p193 q193
            obtain rfl : adbv186 = ad193 := (by injection e193)
            have qb193 : (x12_2 < 4) = True := eq_true (by have e_ := q193; (first | (have e_ := of_eq_true e_; rw [Ny185.out] at e_; exact e_) | (rw [Ny185.out] at e_; exact e_)))
            replace p193 := eq_true p193
            replace q193 := eq_true q193
            have p26 : 0 ≤ ((ji22) : Int) := of_decide_eq_true (by first | (with_reducible assumption) | assumption)
            have q26 : ((ji22) : Int) < ((x10_2.length : Int) : Int) := of_decide_eq_true (by first | (with_reducible assumption) | assumption)
            obtain ⟨go26, co26, eo26, gb26, gl26, cl26, HG26⟩ := Kd.R_form HO_10.out (by omega)
            (first | cases eo26 | (injection eo26 with ea_ en_ ec_; (first | subst ea_ | (injection ea_ with ea_; subst ea_)); subst ec_; clear en_))
            have GB26 := Aside0.mk gb26
            have GG26 := Aside0.mk HG26
            clear gb26 gl26 HG26
            (first | simp only [add_plain] at hx192_0 | skip)
            obtain ⟨hx26_0, hf26_0⟩ := Kd.R_celln 0 HO_10.out ((ji22) : Int) p26 q26
            replace p26 := eq_true p26
            replace q26 := eq_true q26
            have HP30 := Kd.R_putn HO_10.out ((ji22) : Int) (Go.bits .xor .u8 (rd x10_2 (ji22)) (rd y185 x12_2))
            rw [← Ny194.out] at HP30
            have HQ30 := Aside0.mk HP30
            clear HP30
            refine start_ (n := 16) (S := fun w' => w'.cell? ⟨go26, ((ji22)).toNat, none⟩ = some (.int .u8 (rd x10_2 (ji22))) ∧ w'.cell? (adbv186.add (x12_2).toNat) = some (.int .u8 (rd y185 x12_2))) (ds := [15]) #[false, false, false, false, false, false, false, false, false, false, false, false, false, false, false, false] (by kernel_rfl) rfl rfl ⟨hx192_0, hx193_0⟩ (fun hHeld => ?_); refine with_tabW catchwordlaw02_FrameTurned.tab9 catchwordlaw02_FrameTurned.bits9 (fun HT_ HW_ => ?_)
            generalize wr.drew = w29 at HO_7 HO_10 HB GG26 HQ30 hf26_0 hx192_0 hx193_0 hx26_0 hHeld ⊢
            refine pure_ (i := 0) (N := some 62) (v := ?_) (a' := ?_) #[true, false, false, false, false, false, false, false, false, false, false, false, false, false, false, false] rfl rfl (any_of HT_.out (by kernel_rfl)) (fun _ _ _ h => h) (Or.inl ⟨by rfl, ?_⟩) ?_ ?_
            rotate_left
            ·intro w'
             go_simp
             with_reducible rfl
            rotate_left
            ·simp only [Act.put, List.setIfInBounds_toArray, List.set_cons_zero, List.set_cons_succ, i64_w, i32_w]
             rfl
            refine pure_ (i := 1) (N := some 63) (v := ?_) (a' := ?_) #[true, true, false, false, false, false, false, false, false, false, false, false, false, false, false, false] rfl rfl (any_of HT_.out (by kernel_rfl)) (fun _ _ _ h => h) (Or.inl ⟨by rfl, ?_⟩) ?_ ?_
            rotate_left
            ·intro w'
             go_simp
             with_reducible rfl
            rotate_left
            ·simp only [Act.put, List.setIfInBounds_toArray, List.set_cons_zero, List.set_cons_succ, i64_w, i32_w]
             rfl
            refine pure_ (i := 2) (N := some 64) (v := ?_) (a' := ?_) #[true, true, true, false, false, false, false, false, false, false, false, false, false, false, false, false] rfl rfl (any_of HT_.out (by kernel_rfl)) (fun _ _ _ h => h) (Or.inl ⟨by rfl, ?_⟩) ?_ ?_
            rotate_left
            ·intro w'
             go_simp
             with_reducible rfl
            rotate_left
            ·simp only [Act.put, List.setIfInBounds_toArray, List.set_cons_zero, List.set_cons_succ, i64_w, i32_w]
             rfl
            refine pure_ (i := 3) (N := some 65) (v := ?_) (a' := ?_) #[true, true, true, true, false, false, false, false, false, false, false, false, false, false, false, false] rfl rfl (any_of HT_.out (by kernel_rfl)) (fun _ _ _ h => h) (Or.inl ⟨by rfl, ?_⟩) ?_ ?_
            rotate_left
            ·intro w'
             go_simp
             with_reducible rfl
            rotate_left
            ·simp only [Act.put, List.setIfInBounds_toArray, List.set_cons_zero, List.set_cons_succ, i64_w, i32_w]
             rfl
            refine pure_ (i := 4) (N := some 66) (v := ?_) (a' := ?_) #[true, true, true, true, true, false, false, false, false, false, false, false, false, false, false, false] rfl rfl (any_of HT_.out (by kernel_rfl)) (fun _ _ _ h => h) (Or.inl ⟨by rfl, ?_⟩) ?_ ?_
            rotate_left
            ·intro w'
             go_simp
             with_reducible rfl
            rotate_left
            ·simp only [Act.put, List.setIfInBounds_toArray, List.set_cons_zero, List.set_cons_succ, i64_w, i32_w]
             rfl
            refine pure_ (i := 5) (N := some 67) (v := ?_) (a' := ?_) #[true, true, true, true, true, true, false, false, false, false, false, false, false, false, false, false] rfl rfl (any_of HT_.out (by kernel_rfl)) (fun _ _ _ h => h) (Or.inl ⟨by rfl, ?_⟩) ?_ ?_
            rotate_left
            ·intro w'
             go_simp
             with_reducible rfl
            rotate_left
            ·simp only [Act.put, List.setIfInBounds_toArray, List.set_cons_zero, List.set_cons_succ, i64_w, i32_w]
             rfl
            refine pure_ (i := 6) (N := some 68) (v := ?_) (a' := ?_) #[true, true, true, true, true, true, true, false, false, false, false, false, false, false, false, false] rfl rfl (any_of HT_.out (by kernel_rfl)) (fun _ _ _ h => h) (Or.inl ⟨by rfl, ?_⟩) ?_ ?_
            rotate_left
            ·intro w'
             go_simp
             with_reducible rfl
            rotate_left
            ·simp only [Act.put, List.setIfInBounds_toArray, List.set_cons_zero, List.set_cons_succ, i64_w, i32_w]
             rfl
            refine pure_ (i := 7) (N := some 69) (v := ?_) (a' := ?_) #[true, true, true, true, true, true, true, true, false, false, false, false, false, false, false, false] rfl rfl (any_of HT_.out (by kernel_rfl)) (fun _ _ _ h => h) (Or.inl ⟨by rfl, ?_⟩) ?_ ?_
            rotate_left
            ·intro w'
             go_simp
             with_reducible rfl
            rotate_left
            ·simp only [Act.put, List.setIfInBounds_toArray, List.set_cons_zero, List.set_cons_succ, i64_w, i32_w]
             rfl
            refine pure_ (i := 8) (N := some 70) (v := ?_) (a' := ?_) #[true, true, true, true, true, true, true, true, true, false, false, false, false, false, false, false] rfl rfl (any_of HT_.out (by kernel_rfl)) (fun _ _ _ h => h) (Or.inl ⟨by rfl, ?_⟩) ?_ ?_
            rotate_left
            ·intro w'
             go_simp
             with_reducible rfl
            rotate_left
            ·simp only [Act.put, List.setIfInBounds_toArray, List.set_cons_zero, List.set_cons_succ, i64_w, i32_w]
             rfl
            refine pure_ (i := 10) (N := some 72) (v := ?_) (a' := ?_) #[true, true, true, true, true, true, true, true, true, false, true, false, false, false, false, false] rfl rfl (any_of HT_.out (by kernel_rfl)) (fun _ _ _ h => h) (Or.inl ⟨by rfl, ?_⟩) ?_ ?_
            rotate_left
            ·intro w'
             go_simp
             with_reducible rfl
            rotate_left
            ·simp only [Act.put, List.setIfInBounds_toArray, List.set_cons_zero, List.set_cons_succ, i64_w, i32_w]
             rfl
            refine pure_ (i := 11) (N := some 73) (v := ?_) (a' := ?_) #[true, true, true, true, true, true, true, true, true, false, true, true, false, false, false, false] rfl rfl (any_of HT_.out (by kernel_rfl)) (fun _ _ _ h => h) (Or.inl ⟨by rfl, ?_⟩) ?_ ?_
            rotate_left
            ·intro w'
             go_simp
             with_reducible rfl
            rotate_left
            ·simp only [Act.put, List.setIfInBounds_toArray, List.set_cons_zero, List.set_cons_succ, i64_w, i32_w]
             rfl
            refine take_ (i := 9) (N := some 71) (v := ?_) (a' := ?_) #[true, true, true, true, true, true, true, true, true, true, true, true, false, false, false, false] rfl rfl (take_ofW HT_.out HW_.out (by kernel_rfl)) (fun _ _ _ h => h) (Or.inl ⟨by rfl, ?_⟩) hHeld ?_ ?_
            rotate_left
            ·rintro w' ⟨s0, s1⟩
             go_simp
             with_reducible rfl
            rotate_left
            ·simp only [Act.put, List.setIfInBounds_toArray, List.set_cons_zero, List.set_cons_succ, i64_w, i32_w]
             rfl
            refine take_ (i := 12) (N := some 74) (v := ?_) (a' := ?_) #[true, true, true, true, true, true, true, true, true, true, true, true, true, false, false, false] rfl rfl (take_ofW HT_.out HW_.out (by kernel_rfl)) (fun _ _ _ h => h) (Or.inl ⟨by rfl, ?_⟩) hHeld ?_ ?_
            rotate_left
            ·rintro w' ⟨s0, s1⟩
             go_simp
             with_reducible rfl
            rotate_left
            ·simp only [Act.put, List.setIfInBounds_toArray, List.set_cons_zero, List.set_cons_succ, i64_w, i32_w]
             rfl
            refine pure_ (i := 13) (N := some 75) (v := ?_) (a' := ?_) #[true, true, true, true, true, true, true, true, true, true, true, true, true, true, false, false] rfl rfl (any_of HT_.out (by kernel_rfl)) (fun _ _ _ h => h) (Or.inl ⟨by rfl, ?_⟩) ?_ ?_
            rotate_left
            ·intro w'
             go_simp
             with_reducible rfl
            rotate_left
            ·simp only [Act.put, List.setIfInBounds_toArray, List.set_cons_zero, List.set_cons_succ, i64_w, i32_w]
             rfl
            refine pure_ (i := 14) (N := some 76) (v := ?_) (a' := ?_) #[true, true, true, true, true, true, true, true, true, true, true, true, true, true, true, false] rfl rfl (any_of HT_.out (by kernel_rfl)) (fun _ _ _ h => h) (Or.inl ⟨by rfl, ?_⟩) ?_ ?_
            rotate_left
            ·intro w'
             go_simp
             with_reducible rfl
            rotate_left
            ·simp only [Act.put, List.setIfInBounds_toArray, List.set_cons_zero, List.set_cons_succ, i64_w, i32_w]
             rfl
            refine last_ (i := 15) (N := none) #[true, true, true, true, true, true, true, true, true, true, true, true, true, true, true, true] rfl rfl (one_of HT_.out (by kernel_rfl)) (by decide) (fun K hK => ?_)
            refine skip_ (w1 := ?_) (by rfl) rfl ?_ ?_
            rotate_left
            ·go_simp
             rfl
            refine hK.out _ _ ?_
            clear hK K
            refine done_ (done_of HT_.out (by kernel_rfl)) ?_
            try go_wp2
            go_roundg k2
            case measure => have := HJ6.out; have := HK2.out; omega
            case rel => exact ⟨(y194), (true), (wrap64 (x12_2 + 1)), (by first | rfl | (simp; done) | (simp [*]; done)), (by first | rfl | (simp; done) | (simp [*]; done)), H', ⟨by have := HJ6.out; have := HK2.out; omega⟩, ⟨by (with_reducible repeat (first | apply Kd.R_alloc | apply Kd.R_drewN | apply Kd.R_drew)); exact Kd.R_mono (Kd.R_far (p := ⟨go26, ((ji22) : Int).toNat, none⟩) (Kd.R_types HO_7.out GG26.out (by decide)) (fun _ hk => hk.2) (.int .u8 (Go.bits .xor .u8 (rd x10_2 (ji22)) (rd y185 x12_2)))) (fun _ hk => trivial)⟩, ⟨by (with_reducible repeat (first | apply Kd.R_alloc | apply Kd.R_drewN | apply Kd.R_drew)); exact HQ30.out⟩, ⟨by repeat (first | (with_reducible first | exact HB.out | apply below_alloc | apply pw_below_drewN | apply below_drew1 | refine below_set ?_ GB26.out) | exact HB.out)⟩⟩
           ·replace c27 := Bool.eq_false_iff.mpr c27
            subst c27
            have H1 : (catchwordlaw02_FrameTurned.l0 k2 a1 a2 y185 y194 ((rd y185 x12_2) != 0) (wrap64 (x12_2 + 1))) = some r := by rw [if_neg (show ¬ (false = true) by decide)] at H; exact H
            clear H
            have H := H1
            clear H1
            have H' := Aside0.mk H
            clear H
            obtain ⟨Ao31, co31, eo31⟩ := Kd.R_slice HO_10.out
            subst eo31
            try go_wp2
            have n0_ := Aside0.mk (Kd.R_drew HO_7.out)
            have n1_ := Aside0.mk (Kd.R_drew HO_10.out)
            have n2_ := Aside0.mk (below_drew1 HB.out)
            clear HO_7
            clear HO_10
            clear HB
            have HO_7 := n0_
            have HO_10 := n1_
            have HB := n2_
            clear n0_ n1_ n2_
            have p192 : 0 ≤ ((ji22) : Int) := of_decide_eq_true (by first | (with_reducible assumption) | assumption)
            have q192 : (ji22) < (x10_2.length : Int) := of_decide_eq_true (by first | (with_reducible assumption) | assumption)
            obtain ⟨ad192, e192, hx192_0⟩ := Kd.at_int (Kd.R_reads' HO_10.out).2.2 (ji22) p192 q192
            cases e192
            replace p192 := eq_true p192
            replace q192 := eq_true q192
            have p193 : 0 ≤ (x12_2 : Int) := of_decide_eq_true (by first | (with_reducible assumption) | assumption)
            have q193 : x12_2 < (y185.length : Int) := of_decide_eq_true (by first | (with_reducible assumption) | assumption)
            obtain ⟨ad193, e193, hx193_0⟩ := Kd.at_int (Kd.R_reads' HO_7.out).2.2 x12_2 p193 q193
            obtain rfl : adbv186 = ad193 := (by injection e193)
            have qb193 : (x12_2 < 4) = True := eq_true (by have e_ := q193; (first | (have e_ := of_eq_true e_; rw [Ny185.out] at e_; exact e_) | (rw [Ny185.out] at e_; exact e_)))
            replace p193 := eq_true p193
            replace q193 := eq_true q193
            have p26 : 0 ≤ ((ji22) : Int) := of_decide_eq_true (by first | (with_reducible assumption) | assumption)
            have q26 : ((ji22) : Int) < ((x10_2.length : Int) : Int) := of_decide_eq_true (by first | (with_reducible assumption) | assumption)
            obtain ⟨go26, co26, eo26, gb26, gl26, cl26, HG26⟩ := Kd.R_form HO_10.out (by omega)
            (first | cases eo26 | (injection eo26 with ea_ en_ ec_; (first | subst ea_ | (injection ea_ with ea_; subst ea_)); subst ec_; clear en_))
            have GB26 := Aside0.mk gb26
            have GG26 := Aside0.mk HG26
            clear gb26 gl26 HG26
            (first | simp only [add_plain] at hx192_0 | skip)
            obtain ⟨hx26_0, hf26_0⟩ := Kd.R_celln 0 HO_10.out ((ji22) : Int) p26 q26
            replace p26 := eq_true p26
            replace q26 := eq_true q26
            have HP33 := Kd.R_putn HO_10.out ((ji22) : Int) (Go.bits .xor .u8 (rd x10_2 (ji22)) (rd y185 x12_2))
            rw [← Ny194.out] at HP33
            have HQ33 := Aside0.mk HP33
            clear HP33
            refine start_ (n := 16) (S := fun w' => w'.cell? ⟨go26, ((ji22)).toNat, none⟩ = some (.int .u8 (rd x10_2 (ji22))) ∧ w'.cell? (adbv186.add (x12_2).toNat) = some (.int .u8 (rd y185 x12_2))) (ds := [15]) #[false, false, false, false, false, false, false, false, false, false, false, false, false, false, false, false] (by kernel_rfl) rfl rfl ⟨hx192_0, hx193_0⟩ (fun hHeld => ?_); refine with_tabW catchwordlaw02_FrameTurned.tab9 catchwordlaw02_FrameTurned.bits9 (fun HT_ HW_ => ?_)
            generalize wr.drew = w32 at HO_7 HO_10 HB GG26 HQ33 hf26_0 hx192_0 hx193_0 hx26_0 hHeld ⊢
            refine pure_ (i := 0) (N := some 62) (v := ?_) (a' := ?_) #[true, false, false, false, false, false, false, false, false, false, false, false, false, false, false, false] rfl rfl (any_of HT_.out (by kernel_rfl)) (fun _ _ _ h => h) (Or.inl ⟨by rfl, ?_⟩) ?_ ?_
            rotate_left
            ·intro w'
             go_simp
             with_reducible rfl
            rotate_left
            ·simp only [Act.put, List.setIfInBounds_toArray, List.set_cons_zero, List.set_cons_succ, i64_w, i32_w]
             rfl
            refine pure_ (i := 1) (N := some 63) (v := ?_) (a' := ?_) #[true, true, false, false, false, false, false, false, false, false, false, false, false, false, false, false] rfl rfl (any_of HT_.out (by kernel_rfl)) (fun _ _ _ h => h) (Or.inl ⟨by rfl, ?_⟩) ?_ ?_
            rotate_left
            ·intro w'
             go_simp
             with_reducible rfl
            rotate_left
            ·simp only [Act.put, List.setIfInBounds_toArray, List.set_cons_zero, List.set_cons_succ, i64_w, i32_w]
             rfl
            refine pure_ (i := 2) (N := some 64) (v := ?_) (a' := ?_) #[true, true, true, false, false, false, false, false, false, false, false, false, false, false, false, false] rfl rfl (any_of HT_.out (by kernel_rfl)) (fun _ _ _ h => h) (Or.inl ⟨by rfl, ?_⟩) ?_ ?_
            rotate_left
            ·intro w'
             go_simp
             with_reducible rfl
            rotate_left
            ·simp only [Act.put, List.setIfInBounds_toArray, List.set_cons_zero, List.set_cons_succ, i64_w, i32_w]
             rfl
            refine pure_ (i := 3) (N := some 65) (v := ?_) (a' := ?_) #[true, true, true, true, false, false, false, false, false, false, false, false, false, false, false, false] rfl rfl (any_of HT_.out (by kernel_rfl)) (fun _ _ _ h => h) (Or.inl ⟨by rfl, ?_⟩) ?_ ?_
            rotate_left
            ·intro w'
             go_simp
             with_reducible rfl
            rotate_left
            ·simp only [Act.put, List.setIfInBounds_toArray, List.set_cons_zero, List.set_cons_succ, i64_w, i32_w]
             rfl
            refine pure_ (i := 4) (N := some 66) (v := ?_) (a' := ?_) #[true, true, true, true, true, false, false, false, false, false, false, false, false, false, false, false] rfl rfl (any_of HT_.out (by kernel_rfl)) (fun _ _ _ h => h) (Or.inl ⟨by rfl, ?_⟩) ?_ ?_
            rotate_left
            ·intro w'
             go_simp
             with_reducible rfl
            rotate_left
            ·simp only [Act.put, List.setIfInBounds_toArray, List.set_cons_zero, List.set_cons_succ, i64_w, i32_w]
             rfl
            refine pure_ (i := 5) (N := some 67) (v := ?_) (a' := ?_) #[true, true, true, true, true, true, false, false, false, false, false, false, false, false, false, false] rfl rfl (any_of HT_.out (by kernel_rfl)) (fun _ _ _ h => h) (Or.inl ⟨by rfl, ?_⟩) ?_ ?_
            rotate_left
            ·intro w'
             go_simp
             with_reducible rfl
            rotate_left
            ·simp only [Act.put, List.setIfInBounds_toArray, List.set_cons_zero, List.set_cons_succ, i64_w, i32_w]
             rfl
            refine pure_ (i := 6) (N := some 68) (v := ?_) (a' := ?_) #[true, true, true, true, true, true, true, false, false, false, false, false, false, false, false, false] rfl rfl (any_of HT_.out (by kernel_rfl)) (fun _ _ _ h => h) (Or.inl ⟨by rfl, ?_⟩) ?_ ?_
            rotate_left
            ·intro w'
             go_simp
             with_reducible rfl
            rotate_left
            ·simp only [Act.put, List.setIfInBounds_toArray, List.set_cons_zero, List.set_cons_succ, i64_w, i32_w]
             rfl
            refine pure_ (i := 7) (N := some 69) (v := ?_) (a' := ?_) #[true, true, true, true, true, true, true, true, false, false, false, false, false, false, false, false] rfl rfl (any_of HT_.out (by kernel_rfl)) (fun _ _ _ h => h) (Or.inl ⟨by rfl, ?_⟩) ?_ ?_
            rotate_left
            ·intro w'
             go_simp
             with_reducible rfl
            rotate_left
            ·simp only [Act.put, List.setIfInBounds_toArray, List.set_cons_zero, List.set_cons_succ, i64_w, i32_w]
             rfl
            refine pure_ (i := 8) (N := some 70) (v := ?_) (a' := ?_) #[true, true, true, true, true, true, true, true, true, false, false, false, false, false, false, false] rfl rfl (any_of HT_.out (by kernel_rfl)) (fun _ _ _ h => h) (Or.inl ⟨by rfl, ?_⟩) ?_ ?_
            rotate_left
            ·intro w'
             go_simp
             with_reducible rfl
            rotate_left
            ·simp only [Act.put, List.setIfInBounds_toArray, List.set_cons_zero, List.set_cons_succ, i64_w, i32_w]
             rfl
            refine pure_ (i := 10) (N := some 72) (v := ?_) (a' := ?_) #[true, true, true, true, true, true, true, true, true, false, true, false, false, false, false, false] rfl rfl (any_of HT_.out (by kernel_rfl)) (fun _ _ _ h => h) (Or.inl ⟨by rfl, ?_⟩) ?_ ?_
            rotate_left
            ·intro w'
             go_simp
             with_reducible rfl
            rotate_left
            ·simp only [Act.put, List.setIfInBounds_toArray, List.set_cons_zero, List.set_cons_succ, i64_w, i32_w]
             rfl
            refine pure_ (i := 11) (N := some 73) (v := ?_) (a' := ?_) #[true, true, true, true, true, true, true, true, true, false, true, true, false, false, false, false] rfl rfl (any_of HT_.out (by kernel_rfl)) (fun _ _ _ h => h) (Or.inl ⟨by rfl, ?_⟩) ?_ ?_
            rotate_left
            ·intro w'
             go_simp
             with_reducible rfl
            rotate_left
            ·simp only [Act.put, List.setIfInBounds_toArray, List.set_cons_zero, List.set_cons_succ, i64_w, i32_w]
             rfl
            refine take_ (i := 9) (N := some 71) (v := ?_) (a' := ?_) #[true, true, true, true, true, true, true, true, true, true, true, true, false, false, false, false] rfl rfl (take_ofW HT_.out HW_.out (by kernel_rfl)) (fun _ _ _ h => h) (Or.inl ⟨by rfl, ?_⟩) hHeld ?_ ?_
            rotate_left
            ·rintro w' ⟨s0, s1⟩
             go_simp
             with_reducible rfl
            rotate_left
            ·simp only [Act.put, List.setIfInBounds_toArray, List.set_cons_zero, List.set_cons_succ, i64_w, i32_w]
             rfl
            refine take_ (i := 12) (N := some 74) (v := ?_) (a' := ?_) #[true, true, true, true, true, true, true, true, true, true, true, true, true, false, false, false] rfl rfl (take_ofW HT_.out HW_.out (by kernel_rfl)) (fun _ _ _ h => h) (Or.inl ⟨by rfl, ?_⟩) hHeld ?_ ?_
            rotate_left
            ·rintro w' ⟨s0, s1⟩
             go_simp
             with_reducible rfl
            rotate_left
            ·simp only [Act.put, List.setIfInBounds_toArray, List.set_cons_zero, List.set_cons_succ, i64_w, i32_w]
             rfl
            refine pure_ (i := 13) (N := some 75) (v := ?_) (a' := ?_) #[true, true, true, true, true, true, true, true, true, true, true, true, true, true, false, false] rfl rfl (any_of HT_.out (by kernel_rfl)) (fun _ _ _ h => h) (Or.inl ⟨by rfl, ?_⟩) ?_ ?_
            rotate_left
            ·intro w'
             go_simp
             with_reducible rfl
            rotate_left
            ·simp only [Act.put, List.setIfInBounds_toArray, List.set_cons_zero, List.set_cons_succ, i64_w, i32_w]
             rfl
            refine pure_ (i := 14) (N := some 76) (v := ?_) (a' := ?_) #[true, true, true, true, true, true, true, true, true, true, true, true, true, true, true, false] rfl rfl (any_of HT_.out (by kernel_rfl)) (fun _ _ _ h => h) (Or.inl ⟨by rfl, ?_⟩) ?_ ?_
            rotate_left
            ·intro w'
             go_simp
             with_reducible rfl
            rotate_left
            ·simp only [Act.put, List.setIfInBounds_toArray, List.set_cons_zero, List.set_cons_succ, i64_w, i32_w]
             rfl
            refine last_ (i := 15) (N := none) #[true, true, true, true, true, true, true, true, true, true, true, true, true, true, true, true] rfl rfl (one_of HT_.out (by kernel_rfl)) (by decide) (fun K hK => ?_)
            refine skip_ (w1 := ?_) (by rfl) rfl ?_ ?_
            rotate_left
            ·go_simp
             rfl
            refine hK.out _ _ ?_
            clear hK K
            refine done_ (done_of HT_.out (by kernel_rfl)) ?_
            have p195 : 0 ≤ (x12_2 : Int) := of_decide_eq_true (by first | (with_reducible assumption) | assumption)
            have q195 : x12_2 < (y185.length : Int) := of_decide_eq_true (by first | (with_reducible assumption) | assumption)
            obtain ⟨ad195, e195, hx195_0⟩ := Kd.at_int (Kd.R_reads' HO_7.out).2.2 x12_2 p195 q195
            obtain rfl : adbv186 = ad195 := (by injection e195)
            have qb195 : (x12_2 < 4) = True := eq_true (by have e_ := q195; (first | (have e_ := of_eq_true e_; rw [Ny185.out] at e_; exact e_) | (rw [Ny185.out] at e_; exact e_)))
            have hn195_0 : adbv186.block ≠ go26 := Kd.own_blk (Kd.R_ne HO_7.out GG26.out (by decide))
            replace hx195_0 := (cell_far (p := ⟨go26, ((ji22) : Int).toNat, none⟩) (by first | (rw [add_block]; exact hn195_0) | (show (Addr.add _ _).block ≠ _; rw [add_block]; exact hn195_0) | exact hn195_0) (.int .u8 (Go.bits .xor .u8 (rd x10_2 (ji22)) (rd y185 x12_2)))).trans hx195_0
            clear hn195_0
            replace p195 := eq_true p195
            replace q195 := eq_true q195
            try go_wp2
            go_roundg k2
            case measure => have := HJ6.out; have := HK2.out; omega
            case rel => exact ⟨(y194), (((rd y185 x12_2) != 0)), (wrap64 (x12_2 + 1)), (by first | rfl | (simp; done) | (simp [*]; done)), (by first | rfl | (simp; done) | (simp [*]; done)), H', ⟨by have := HJ6.out; have := HK2.out; omega⟩, ⟨by (with_reducible repeat (first | apply Kd.R_alloc | apply Kd.R_drewN | apply Kd.R_drew)); exact Kd.R_mono (Kd.R_far (p := ⟨go26, ((ji22) : Int).toNat, none⟩) (Kd.R_types HO_7.out GG26.out (by decide)) (fun _ hk => hk.2) (.int .u8 (Go.bits .xor .u8 (rd x10_2 (ji22)) (rd y185 x12_2)))) (fun _ hk => trivial)⟩, ⟨by (with_reducible repeat (first | apply Kd.R_alloc | apply Kd.R_drewN | apply Kd.R_drew)); exact HQ33.out⟩, ⟨by repeat (first | (with_reducible first | exact HB.out | apply below_alloc | apply pw_below_drewN | apply below_drew1 | refine below_set ?_ GB26.out) | exact HB.out)⟩⟩
          ·rw [if_neg c25] at H
           exact absurd H (by simp)
         ·rw [if_neg c24] at H
          exact absurd H (by simp)
        ·rw [if_neg c23] at H
         exact absurd H (by simp)
       ·rw [if_neg c21] at H
        have c21b0 : decide ((wrap64 (a2 + x12_2)) < (x10_2.length : Int)) = false := decide_eq_false c21
        clear c21
        replace H := Option.bind_eq_some_iff.mp H
        obtain ⟨⟨t196, t197⟩, A340, H⟩ := H
        replace H : (if x11_2 = true then (if (t196.length : Int) = 0 then (if t197 = 5 then (some true) else (some (t197 == 6))) else (some false)) else (some true)) = some r := H
        have A34 := Aside0.mk A340
        clear A340
        by_cases c35 : x11_2 = true
        ·subst c35
         have H1 : (if (t196.length : Int) = 0 then (if t197 = 5 then (some true) else (some (t197 == 6))) else (some false)) = some r := by rw [if_pos rfl] at H; exact H
         clear H
         have H := H1
         clear H1
         by_cases c36 : (t196.length : Int) = 0
         ·rw [if_pos c36] at H
          have c36b0 : ((t196.length : Int) == 0) = true := beq_iff_eq.mpr c36
          have c36b1 : ((t196.length : Int) != 0) = false := bne_eq_false_iff_eq.mpr c36
          clear c36
          by_cases c37 : t197 = 5
          ·rw [if_pos c37] at H
           have c37b0 : (t197 == 5) = true := beq_iff_eq.mpr c37
           have c37b1 : (t197 != 5) = false := bne_eq_false_iff_eq.mpr c37
           clear c37
           obtain rfl := Option.some.inj H
           obtain ⟨Ao38, co38, eo38⟩ := Kd.R_slice HO_10.out
           subst eo38
           go_wp2_with (first | ((with_reducible refine gate_callee (f := 10) rfl ?_); refine goesL_ (some 87) rfl rfl Try.func10 (by kernel_rfl) rfl #[.slice Ao38 x10_2.length co38, .int .u8 a1] rfl (by (try simp only [List.map_toArray, List.map_cons, List.map_nil]); first | done | rfl | (simp only [List.length_drop, List.length_take]; rfl)) ?_; (with_reducible refine (frame_Open.calls k2 _ _ x10_2 a1 t196 t197 _ ?side1 ?side2 A34.out).mono ?_); (case side1 => repeat (first | exact (Kd.R_reads' HO_10.out).2.2 | (with_reducible refine Kd.C_alloc ?_ _) | (with_reducible refine Kd.C_drewN ?_ _) | (with_reducible refine Kd.C_drew ?_))); (case side2 => exact (Kd.R_reads' HO_10.out).2.1); rintro e w39 ⟨v198, rfl, ho0, hb⟩; refine ⟨_, rfl, ?_⟩; have n0_ := Aside0.mk (Kd.R_below (by (with_reducible repeat (first | apply Kd.R_alloc | apply Kd.R_drewN | apply Kd.R_drew)); exact HO_7.out) hb); have n1_ := Aside0.mk (Kd.R_elder' (by (with_reducible repeat (first | apply Kd.R_alloc | apply Kd.R_drewN | apply Kd.R_drew)); exact HO_10.out) (Kd.R_base ho0) hb); have n2_ := Aside0.mk (Kd.R_lower (Kd.R_new' ho0 (Kd.R_lt (by (with_reducible repeat (first | apply Kd.R_alloc | apply Kd.R_drewN | apply Kd.R_drew)); exact HO_10.out))) (below_size (by repeat (first | (with_reducible first | exact HB.out | apply below_alloc | apply pw_below_drewN | apply below_drew1) | exact HB.out)))); have n3_ := Aside0.mk (below_step (by repeat (first | (with_reducible first | exact HB.out | apply below_alloc | apply pw_below_drewN | apply below_drew1) | exact HB.out)) hb); clear HO_7; clear HO_10; clear HB; have HO_7 := n0_; have HO_10 := n1_; have HO199 := n2_; have HB := n3_; clear n0_ n1_ n2_ n3_; (try clear hb); (try clear hb2); (try clear hk); (try clear hi); (try clear ho0); obtain ⟨Ao40, co40, eo40⟩ := Kd.R_slice HO199.out; subst eo40))
           go_ret
           exact ⟨by first | rfl | (simp [errW_none, errW_some] <;> rfl) | (simp [*, errW_none, errW_some] <;> rfl), by repeat (first | (with_reducible first | exact HB.out | apply below_alloc | apply pw_below_drewN | apply below_drew1) | exact HB.out)⟩
          ·rw [if_neg c37] at H
           have c37b0 : (t197 == 5) = false := beq_eq_false_iff_ne.mpr c37
           have c37b1 : (t197 != 5) = true := bne_iff_ne.mpr c37
           obtain rfl := Option.some.inj H
           obtain ⟨Ao41, co41, eo41⟩ := Kd.R_slice HO_10.out
           subst eo41
           go_wp2_with (first | ((with_reducible refine gate_callee (f := 10) rfl ?_); refine goesL_ (some 87) rfl rfl Try.func10 (by kernel_rfl) rfl #[.slice Ao41 x10_2.length co41, .int .u8 a1] rfl (by (try simp only [List.map_toArray, List.map_cons, List.map_nil]); first | done | rfl | (simp only [List.length_drop, List.length_take]; rfl)) ?_; (with_reducible refine (frame_Open.calls k2 _ _ x10_2 a1 t196 t197 _ ?side1 ?side2 A34.out).mono ?_); (case side1 => repeat (first | exact (Kd.R_reads' HO_10.out).2.2 | (with_reducible refine Kd.C_alloc ?_ _) | (with_reducible refine Kd.C_drewN ?_ _) | (with_reducible refine Kd.C_drew ?_))); (case side2 => exact (Kd.R_reads' HO_10.out).2.1); rintro e w42 ⟨v198, rfl, ho0, hb⟩; refine ⟨_, rfl, ?_⟩; have n0_ := Aside0.mk (Kd.R_below (by (with_reducible repeat (first | apply Kd.R_alloc | apply Kd.R_drewN | apply Kd.R_drew)); exact HO_7.out) hb); have n1_ := Aside0.mk (Kd.R_elder' (by (with_reducible repeat (first | apply Kd.R_alloc | apply Kd.R_drewN | apply Kd.R_drew)); exact HO_10.out) (Kd.R_base ho0) hb); have n2_ := Aside0.mk (Kd.R_lower (Kd.R_new' ho0 (Kd.R_lt (by (with_reducible repeat (first | apply Kd.R_alloc | apply Kd.R_drewN | apply Kd.R_drew)); exact HO_10.out))) (below_size (by repeat (first | (with_reducible first | exact HB.out | apply below_alloc | apply pw_below_drewN | apply below_drew1) | exact HB.out)))); have n3_ := Aside0.mk (below_step (by repeat (first | (with_reducible first | exact HB.out | apply below_alloc | apply pw_below_drewN | apply below_drew1) | exact HB.out)) hb); clear HO_7; clear HO_10; clear HB; have HO_7 := n0_; have HO_10 := n1_; have HO199 := n2_; have HB := n3_; clear n0_ n1_ n2_ n3_; (try clear hb); (try clear hb2); (try clear hk); (try clear hi); (try clear ho0); obtain ⟨Ao43, co43, eo43⟩ := Kd.R_slice HO199.out; subst eo43))
           go_ret
           exact ⟨by first | rfl | (simp [errW_none, errW_some] <;> rfl) | (simp [*, errW_none, errW_some] <;> rfl), by repeat (first | (with_reducible first | exact HB.out | apply below_alloc | apply pw_below_drewN | apply below_drew1) | exact HB.out)⟩
         ·rw [if_neg c36] at H
          have c36b0 : ((t196.length : Int) == 0) = false := beq_eq_false_iff_ne.mpr c36
          have c36b1 : ((t196.length : Int) != 0) = true := bne_iff_ne.mpr c36
          have c36b2 : ¬ (t196 = []) := fun h_ => c36 (by rw [h_]; rfl)
          obtain rfl := Option.some.inj H
          obtain ⟨Ao44, co44, eo44⟩ := Kd.R_slice HO_10.out
          subst eo44
          go_wp2_with (first | ((with_reducible refine gate_callee (f := 10) rfl ?_); refine goesL_ (some 87) rfl rfl Try.func10 (by kernel_rfl) rfl #[.slice Ao44 x10_2.length co44, .int .u8 a1] rfl (by (try simp only [List.map_toArray, List.map_cons, List.map_nil]); first | done | rfl | (simp only [List.length_drop, List.length_take]; rfl)) ?_; (with_reducible refine (frame_Open.calls k2 _ _ x10_2 a1 t196 t197 _ ?side1 ?side2 A34.out).mono ?_); (case side1 => repeat (first | exact (Kd.R_reads' HO_10.out).2.2 | (with_reducible refine Kd.C_alloc ?_ _) | (with_reducible refine Kd.C_drewN ?_ _) | (with_reducible refine Kd.C_drew ?_))); (case side2 => exact (Kd.R_reads' HO_10.out).2.1); rintro e w45 ⟨v198, rfl, ho0, hb⟩; refine ⟨_, rfl, ?_⟩; have n0_ := Aside0.mk (Kd.R_below (by (with_reducible repeat (first | apply Kd.R_alloc | apply Kd.R_drewN | apply Kd.R_drew)); exact HO_7.out) hb); have n1_ := Aside0.mk (Kd.R_elder' (by (with_reducible repeat (first | apply Kd.R_alloc | apply Kd.R_drewN | apply Kd.R_drew)); exact HO_10.out) (Kd.R_base ho0) hb); have n2_ := Aside0.mk (Kd.R_lower (Kd.R_new' ho0 (Kd.R_lt (by (with_reducible repeat (first | apply Kd.R_alloc | apply Kd.R_drewN | apply Kd.R_drew)); exact HO_10.out))) (below_size (by repeat (first | (with_reducible first | exact HB.out | apply below_alloc | apply pw_below_drewN | apply below_drew1) | exact HB.out)))); have n3_ := Aside0.mk (below_step (by repeat (first | (with_reducible first | exact HB.out | apply below_alloc | apply pw_below_drewN | apply below_drew1) | exact HB.out)) hb); clear HO_7; clear HO_10; clear HB; have HO_7 := n0_; have HO_10 := n1_; have HO199 := n2_; have HB := n3_; clear n0_ n1_ n2_ n3_; (try clear hb); (try clear hb2); (try clear hk); (try clear hi); (try clear ho0); obtain ⟨Ao46, co46, eo46⟩ := Kd.R_slice HO199.out; subst eo46))
          go_ret
          exact ⟨by first | rfl | (simp [errW_none, errW_some] <;> rfl) | (simp [*, errW_none, errW_some] <;> rfl), by repeat (first | (with_reducible first | exact HB.out | apply below_alloc | apply pw_below_drewN | apply below_drew1) | exact HB.out)⟩
        ·replace c35 := Bool.eq_false_iff.mpr c35
         subst c35
         have H1 : (some true) = some r := by rw [if_neg (show ¬ (false = true) by decide)] at H; exact H
         clear H
         have H := H1
         clear H1
         obtain rfl := Option.some.inj H
         obtain ⟨Ao47, co47, eo47⟩ := Kd.R_slice HO_10.out
         subst eo47
         go_wp2_with (first | ((with_reducible refine gate_callee (f := 10) rfl ?_); refine goesL_ (some 87) rfl rfl Try.func10 (by kernel_rfl) rfl #[.slice Ao47 x10_2.length co47, .int .u8 a1] rfl (by (try simp only [List.map_toArray, List.map_cons, List.map_nil]); first | done | rfl | (simp only [List.length_drop, List.length_take]; rfl)) ?_; (with_reducible refine (frame_Open.calls k2 _ _ x10_2 a1 t196 t197 _ ?side1 ?side2 A34.out).mono ?_); (case side1 => repeat (first | exact (Kd.R_reads' HO_10.out).2.2 | (with_reducible refine Kd.C_alloc ?_ _) | (with_reducible refine Kd.C_drewN ?_ _) | (with_reducible refine Kd.C_drew ?_))); (case side2 => exact (Kd.R_reads' HO_10.out).2.1); rintro e w48 ⟨v198, rfl, ho0, hb⟩; refine ⟨_, rfl, ?_⟩; have n0_ := Aside0.mk (Kd.R_below (by (with_reducible repeat (first | apply Kd.R_alloc | apply Kd.R_drewN | apply Kd.R_drew)); exact HO_7.out) hb); have n1_ := Aside0.mk (Kd.R_elder' (by (with_reducible repeat (first | apply Kd.R_alloc | apply Kd.R_drewN | apply Kd.R_drew)); exact HO_10.out) (Kd.R_base ho0) hb); have n2_ := Aside0.mk (Kd.R_lower (Kd.R_new' ho0 (Kd.R_lt (by (with_reducible repeat (first | apply Kd.R_alloc | apply Kd.R_drewN | apply Kd.R_drew)); exact HO_10.out))) (below_size (by repeat (first | (with_reducible first | exact HB.out | apply below_alloc | apply pw_below_drewN | apply below_drew1) | exact HB.out)))); have n3_ := Aside0.mk (below_step (by repeat (first | (with_reducible first | exact HB.out | apply below_alloc | apply pw_below_drewN | apply below_drew1) | exact HB.out)) hb); clear HO_7; clear HO_10; clear HB; have HO_7 := n0_; have HO_10 := n1_; have HO199 := n2_; have HB := n3_; clear n0_ n1_ n2_ n3_; (try clear hb); (try clear hb2); (try clear hk); (try clear hi); (try clear ho0)))
         go_ret
         exact ⟨by first | rfl | (simp [errW_none, errW_some] <;> rfl) | (simp [*, errW_none, errW_some] <;> rfl), by repeat (first | (with_reducible first | exact HB.out | apply below_alloc | apply pw_below_drewN | apply below_drew1) | exact HB.out)⟩
      ·rw [if_neg c20] at H
       have c20b0 : decide (x12_2 < 4) = false := decide_eq_false c20
       clear c20
       replace H := Option.bind_eq_some_iff.mp H
       obtain ⟨⟨t200, t201⟩, A490, H⟩ := H
       replace H : (if x11_2 = true then (if (t200.length : Int) = 0 then (if t201 = 5 then (some true) else (some (t201 == 6))) else (some false)) else (some true)) = some r := H
       have A49 := Aside0.mk A490
       clear A490
       by_cases c50 : x11_2 = true
       ·subst c50
        have H1 : (if (t200.length : Int) = 0 then (if t201 = 5 then (some true) else (some (t201 == 6))) else (some false)) = some r := by rw [if_pos rfl] at H; exact H
        clear H
        have H := H1
        clear H1
        by_cases c51 : (t200.length : Int) = 0
        ·rw [if_pos c51] at H
         have c51b0 : ((t200.length : Int) == 0) = true := beq_iff_eq.mpr c51
         have c51b1 : ((t200.length : Int) != 0) = false := bne_eq_false_iff_eq.mpr c51
         clear c51
         by_cases c52 : t201 = 5
         ·rw [if_pos c52] at H
          have c52b0 : (t201 == 5) = true := beq_iff_eq.mpr c52
          have c52b1 : (t201 != 5) = false := bne_eq_false_iff_eq.mpr c52
          clear c52
          obtain rfl := Option.some.inj H
          obtain ⟨Ao53, co53, eo53⟩ := Kd.R_slice HO_10.out
          subst eo53
          go_wp2_with (first | ((with_reducible refine gate_callee (f := 10) rfl ?_); refine goesL_ (some 87) rfl rfl Try.func10 (by kernel_rfl) rfl #[.slice Ao53 x10_2.length co53, .int .u8 a1] rfl (by (try simp only [List.map_toArray, List.map_cons, List.map_nil]); first | done | rfl | (simp only [List.length_drop, List.length_take]; rfl)) ?_; (with_reducible refine (frame_Open.calls k2 _ _ x10_2 a1 t200 t201 _ ?side1 ?side2 A49.out).mono ?_); (case side1 => repeat (first | exact (Kd.R_reads' HO_10.out).2.2 | (with_reducible refine Kd.C_alloc ?_ _) | (with_reducible refine Kd.C_drewN ?_ _) | (with_reducible refine Kd.C_drew ?_))); (case side2 => exact (Kd.R_reads' HO_10.out).2.1); rintro e w54 ⟨v202, rfl, ho0, hb⟩; refine ⟨_, rfl, ?_⟩; have n0_ := Aside0.mk (Kd.R_below (by (with_reducible repeat (first | apply Kd.R_alloc | apply Kd.R_drewN | apply Kd.R_drew)); exact HO_7.out) hb); have n1_ := Aside0.mk (Kd.R_elder' (by (with_reducible repeat (first | apply Kd.R_alloc | apply Kd.R_drewN | apply Kd.R_drew)); exact HO_10.out) (Kd.R_base ho0) hb); have n2_ := Aside0.mk (Kd.R_lower (Kd.R_new' ho0 (Kd.R_lt (by (with_reducible repeat (first | apply Kd.R_alloc | apply Kd.R_drewN | apply Kd.R_drew)); exact HO_10.out))) (below_size (by repeat (first | (with_reducible first | exact HB.out | apply below_alloc | apply pw_below_drewN | apply below_drew1) | exact HB.out)))); have n3_ := Aside0.mk (below_step (by repeat (first | (with_reducible first | exact HB.out | apply below_alloc | apply pw_below_drewN | apply below_drew1) | exact HB.out)) hb); clear HO_7; clear HO_10; clear HB; have HO_7 := n0_; have HO_10 := n1_; have HO203 := n2_; have HB := n3_; clear n0_ n1_ n2_ n3_; (try clear hb); (try clear hb2); (try clear hk); (try clear hi); (try clear ho0); obtain ⟨Ao55, co55, eo55⟩ := Kd.R_slice HO203.out; subst eo55))
          go_ret
          exact ⟨by first | rfl | (simp [errW_none, errW_some] <;> rfl) | (simp [*, errW_none, errW_some] <;> rfl), by repeat (first | (with_reducible first | exact HB.out | apply below_alloc | apply pw_below_drewN | apply below_drew1) | exact HB.out)⟩
         ·rw [if_neg c52] at H
          have c52b0 : (t201 == 5) = false := beq_eq_false_iff_ne.mpr c52
          have c52b1 : (t201 != 5) = true := bne_iff_ne.mpr c52
          obtain rfl := Option.some.inj H
          obtain ⟨Ao56, co56, eo56⟩ := Kd.R_slice HO_10.out
          subst eo56
          go_wp2_with (first | ((with_reducible refine gate_callee (f := 10) rfl ?_); refine goesL_ (some 87) rfl rfl Try.func10 (by kernel_rfl) rfl #[.slice Ao56 x10_2.length co56, .int .u8 a1] rfl (by (try simp only [List.map_toArray, List.map_cons, List.map_nil]); first | done | rfl | (simp only [List.length_drop, List.length_take]; rfl)) ?_; (with_reducible refine (frame_Open.calls k2 _ _ x10_2 a1 t200 t201 _ ?side1 ?side2 A49.out).mono ?_); (case side1 => repeat (first | exact (Kd.R_reads' HO_10.out).2.2 | (with_reducible refine Kd.C_alloc ?_ _) | (with_reducible refine Kd.C_drewN ?_ _) | (with_reducible refine Kd.C_drew ?_))); (case side2 => exact (Kd.R_reads' HO_10.out).2.1); rintro e w57 ⟨v202, rfl, ho0, hb⟩; refine ⟨_, rfl, ?_⟩; have n0_ := Aside0.mk (Kd.R_below (by (with_reducible repeat (first | apply Kd.R_alloc | apply Kd.R_drewN | apply Kd.R_drew)); exact HO_7.out) hb); have n1_ := Aside0.mk (Kd.R_elder' (by (with_reducible repeat (first | apply Kd.R_alloc | apply Kd.R_drewN | apply Kd.R_drew)); exact HO_10.out) (Kd.R_base ho0) hb); have n2_ := Aside0.mk (Kd.R_lower (Kd.R_new' ho0 (Kd.R_lt (by (with_reducible repeat (first | apply Kd.R_alloc | apply Kd.R_drewN | apply Kd.R_drew)); exact HO_10.out))) (below_size (by repeat (first | (with_reducible first | exact HB.out | apply below_alloc | apply pw_below_drewN | apply below_drew1) | exact HB.out)))); have n3_ := Aside0.mk (below_step (by repeat (first | (with_reducible first | exact HB.out | apply below_alloc | apply pw_below_drewN | apply below_drew1) | exact HB.out)) hb); clear HO_7; clear HO_10; clear HB; have HO_7 := n0_; have HO_10 := n1_; have HO203 := n2_; have HB := n3_; clear n0_ n1_ n2_ n3_; (try clear hb); (try clear hb2); (try clear hk); (try clear hi); (try clear ho0); obtain ⟨Ao58, co58, eo58⟩ := Kd.R_slice HO203.out; subst eo58))
          go_ret
          exact ⟨by first | rfl | (simp [errW_none, errW_some] <;> rfl) | (simp [*, errW_none, errW_some] <;> rfl), by repeat (first | (with_reducible first | exact HB.out | apply below_alloc | apply pw_below_drewN | apply below_drew1) | exact HB.out)⟩
        ·rw [if_neg c51] at H
         have c51b0 : ((t200.length : Int) == 0) = false := beq_eq_false_iff_ne.mpr c51
         have c51b1 : ((t200.length : Int) != 0) = true := bne_iff_ne.mpr c51
         have c51b2 : ¬ (t200 = []) := fun h_ => c51 (by rw [h_]; rfl)
         obtain rfl := Option.some.inj H
         obtain ⟨Ao59, co59, eo59⟩ := Kd.R_slice HO_10.out
         subst eo59
         go_wp2_with (first | ((with_reducible refine gate_callee (f := 10) rfl ?_); refine goesL_ (some 87) rfl rfl Try.func10 (by kernel_rfl) rfl #[.slice Ao59 x10_2.length co59, .int .u8 a1] rfl (by (try simp only [List.map_toArray, List.map_cons, List.map_nil]); first | done | rfl | (simp only [List.length_drop, List.length_take]; rfl)) ?_; (with_reducible refine (frame_Open.calls k2 _ _ x10_2 a1 t200 t201 _ ?side1 ?side2 A49.out).mono ?_); (case side1 => repeat (first | exact (Kd.R_reads' HO_10.out).2.2 | (with_reducible refine Kd.C_alloc ?_ _) | (with_reducible refine Kd.C_drewN ?_ _) | (with_reducible refine Kd.C_drew ?_))); (case side2 => exact (Kd.R_reads' HO_10.out).2.1); rintro e w60 ⟨v202, rfl, ho0, hb⟩; refine ⟨_, rfl, ?_⟩; have n0_ := Aside0.mk (Kd.R_below (by (with_reducible repeat (first | apply Kd.R_alloc | apply Kd.R_drewN | apply Kd.R_drew)); exact HO_7.out) hb); have n1_ := Aside0.mk (Kd.R_elder' (by (with_reducible repeat (first | apply Kd.R_alloc | apply Kd.R_drewN | apply Kd.R_drew)); exact HO_10.out) (Kd.R_base ho0) hb); have n2_ := Aside0.mk (Kd.R_lower (Kd.R_new' ho0 (Kd.R_lt (by (with_reducible repeat (first | apply Kd.R_alloc | apply Kd.R_drewN | apply Kd.R_drew)); exact HO_10.out))) (below_size (by repeat (first | (with_reducible first | exact HB.out | apply below_alloc | apply pw_below_drewN | apply below_drew1) | exact HB.out)))); have n3_ := Aside0.mk (below_step (by repeat (first | (with_reducible first | exact HB.out | apply below_alloc | apply pw_below_drewN | apply below_drew1) | exact HB.out)) hb); clear HO_7; clear HO_10; clear HB; have HO_7 := n0_; have HO_10 := n1_; have HO203 := n2_; have HB := n3_; clear n0_ n1_ n2_ n3_; (try clear hb); (try clear hb2); (try clear hk); (try clear hi); (try clear ho0); obtain ⟨Ao61, co61, eo61⟩ := Kd.R_slice HO203.out; subst eo61))
         go_ret
         exact ⟨by first | rfl | (simp [errW_none, errW_some] <;> rfl) | (simp [*, errW_none, errW_some] <;> rfl), by repeat (first | (with_reducible first | exact HB.out | apply below_alloc | apply pw_below_drewN | apply below_drew1) | exact HB.out)⟩
       ·replace c50 := Bool.eq_false_iff.mpr c50
        subst c50
        have H1 : (some true) = some r := by rw [if_neg (show ¬ (false = true) by decide)] at H; exact H
        clear H
        have H := H1
        clear H1
        obtain rfl := Option.some.inj H
        obtain ⟨Ao62, co62, eo62⟩ := Kd.R_slice HO_10.out
        subst eo62
        go_wp2_with (first | ((with_reducible refine gate_callee (f := 10) rfl ?_); refine goesL_ (some 87) rfl rfl Try.func10 (by kernel_rfl) rfl #[.slice Ao62 x10_2.length co62, .int .u8 a1] rfl (by (try simp only [List.map_toArray, List.map_cons, List.map_nil]); first | done | rfl | (simp only [List.length_drop, List.length_take]; rfl)) ?_; (with_reducible refine (frame_Open.calls k2 _ _ x10_2 a1 t200 t201 _ ?side1 ?side2 A49.out).mono ?_); (case side1 => repeat (first | exact (Kd.R_reads' HO_10.out).2.2 | (with_reducible refine Kd.C_alloc ?_ _) | (with_reducible refine Kd.C_drewN ?_ _) | (with_reducible refine Kd.C_drew ?_))); (case side2 => exact (Kd.R_reads' HO_10.out).2.1); rintro e w63 ⟨v202, rfl, ho0, hb⟩; refine ⟨_, rfl, ?_⟩; have n0_ := Aside0.mk (Kd.R_below (by (with_reducible repeat (first | apply Kd.R_alloc | apply Kd.R_drewN | apply Kd.R_drew)); exact HO_7.out) hb); have n1_ := Aside0.mk (Kd.R_elder' (by (with_reducible repeat (first | apply Kd.R_alloc | apply Kd.R_drewN | apply Kd.R_drew)); exact HO_10.out) (Kd.R_base ho0) hb); have n2_ := Aside0.mk (Kd.R_lower (Kd.R_new' ho0 (Kd.R_lt (by (with_reducible repeat (first | apply Kd.R_alloc | apply Kd.R_drewN | apply Kd.R_drew)); exact HO_10.out))) (below_size (by repeat (first | (with_reducible first | exact HB.out | apply below_alloc | apply pw_below_drewN | apply below_drew1) | exact HB.out)))); have n3_ := Aside0.mk (below_step (by repeat (first | (with_reducible first | exact HB.out | apply below_alloc | apply pw_below_drewN | apply below_drew1) | exact HB.out)) hb); clear HO_7; clear HO_10; clear HB; have HO_7 := n0_; have HO_10 := n1_; have HO203 := n2_; have HB := n3_; clear n0_ n1_ n2_ n3_; (try clear hb); (try clear hb2); (try clear hk); (try clear hi); (try clear ho0)))
        go_ret
        exact ⟨by first | rfl | (simp [errW_none, errW_some] <;> rfl) | (simp [*, errW_none, errW_some] <;> rfl), by repeat (first | (with_reducible first | exact HB.out | apply below_alloc | apply pw_below_drewN | apply below_drew1) | exact HB.out)⟩

/-- THE ONE PURE STATEMENT of catchwordlaw02_FrameTurned. -/
def catchwordlaw02_FrameTurned.Pure : Prop := ∀ (l0 : List Int) (a1 : Int) (a2 : Int) (a3_0 : Int) (a3_1 : Int) (a3_2 : Int) (a3_3 : Int), (l0.length * 1 ≤ 140737488351232 ∧ ∀ y0 ∈ l0, (Lit.int .u8 y0).wf = true) → (Lit.int .u8 a1).wf = true → (Lit.int .i64 a2).wf = true → (Lit.int .u8 a3_0).wf = true → (Lit.int .u8 a3_1).wf = true → (Lit.int .u8 a3_2).wf = true → (Lit.int .u8 a3_3).wf = true → ∃ k, catchwordlaw02_FrameTurned.f k l0 a1 a2 a3_0 a3_1 a3_2 a3_3 = some true

end Go.Proofs.Ytoedahdhlcagkaa.PFrameTurned
