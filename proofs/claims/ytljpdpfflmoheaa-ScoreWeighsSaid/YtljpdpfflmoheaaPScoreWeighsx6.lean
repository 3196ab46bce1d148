-- LAID BY this session's own printer (wip/pr): Lean checks it
import Derived.Test.YtljpdpfflmoheaaPScoreWeighsx0
import Derived.Test.YtljpdpfflmoheaaPScoreWeighsx1
import Derived.Test.YtljpdpfflmoheaaPScoreWeighsx3
import Derived.Test.YtljpdpfflmoheaaPScoreWeighsx5
namespace Go.Proofs.Ytljpdpfflmoheaa.PScoreWeighs
open Go.RowKit Go.Proofs.YtljpdpfflmoheaaW.PrintWords Go.Proofs.YtljpdpfflmoheaaW.PrintLast Go.Proofs.YtljpdpfflmoheaaW.PrintMore
attribute [local go_sem] max2_int min2_int max_two min_two max_three min_three max_four min_four   -- for this text's walks alone
set_option linter.unusedVariables false
set_option linter.unusedSimpArgs false

attribute [local go_sem high] eqA24
/-! ### catchwordlaw19_ScoreWeighs: function 4 -/
mutual
def catchwordlaw19_ScoreWeighs.j0 : Nat → Int → Int → Int → List (S24) → Bool → Bool → Option (Bool)
 | 0, _, _, _, _, _, _ => none
 | k + 1, x0, x1, x2, x3, x9, x21 => if x21 = true then (some x9) else ((score_All.f k x3).bind fun bt197 => ((catchwordref19_All.f k x3).bind fun bt201 => (if (bt197.1 == bt201.1 && (bt197.2.1 == bt201.2.1)) = true then (if (bt197.2.2 == bt201.2.2) = true then ((score_Weight.f k x0 x1 x2).bind fun bt205 => ((catchwordref19_Weight.f k x0 x1 x2).bind fun bt207 => (catchwordlaw19_ScoreWeighs.j1 k (bt205.1 == bt207.1 && (bt205.2 == bt207.2))))) else (catchwordlaw19_ScoreWeighs.j1 k false)) else (catchwordlaw19_ScoreWeighs.j1 k false))))
def catchwordlaw19_ScoreWeighs.j1 : Nat → Bool → Option (Bool)
 | 0, _ => none
 | k + 1, x8 => some x8
end
def catchwordlaw19_ScoreWeighs.f (k : Nat) (a0 : Int) (a1 : Int) (a2 : Int) (l3 : List (S24)) : Option (Bool) := (catchwordlaw19_awake.f k).bind fun t196 => (if t196 = true then (catchwordlaw19_ScoreWeighs.j0 k a0 a1 a2 l3 t196 (decide ((l3.length : Int) > 100))) else (catchwordlaw19_ScoreWeighs.j0 k a0 a1 a2 l3 t196 true))
theorem catchwordlaw19_ScoreWeighs.mono_l : ∀ k, (∀ y0 y1 y2 y3 y4 y5, LeO (catchwordlaw19_ScoreWeighs.j0 k y0 y1 y2 y3 y4 y5) (catchwordlaw19_ScoreWeighs.j0 (k + 1) y0 y1 y2 y3 y4 y5)) ∧ (∀ y0, LeO (catchwordlaw19_ScoreWeighs.j1 k y0) (catchwordlaw19_ScoreWeighs.j1 (k + 1) y0))
 | 0 => ⟨fun _ _ _ _ _ _ r h => by simp [catchwordlaw19_ScoreWeighs.j0] at h, fun _ r h => by simp [catchwordlaw19_ScoreWeighs.j1] at h⟩
 | k + 1 => by
  obtain ⟨ih0, ih1⟩ := catchwordlaw19_ScoreWeighs.mono_l k
  refine ⟨?_, ?_⟩
  ·intro y0 y1 y2 y3 y4 y5
   unfold catchwordlaw19_ScoreWeighs.j0
   repeat' first
   | (with_reducible exact ih0 _ _ _ _ _ _)
   | (with_reducible exact ih1 _)
   | (with_reducible exact catchwordlaw19_awake.mono _)
   | (with_reducible exact catchwordref19_All.mono _ _)
   | (with_reducible exact catchwordref19_Weight.mono _ _ _ _)
   | (with_reducible exact score_All.mono _ _)
   | (with_reducible exact score_Weight.mono _ _ _ _)
   | (with_reducible exact LeO.refl _)
   | (with_reducible exact LeO.none _)
   | (with_reducible refine LeO.ite ?_ ?_)
   | (with_reducible refine LeO.bind ?_ (fun _ => ?_))
   | exact ih0 _ _ _ _ _ _
   | exact ih1 _
   | exact catchwordlaw19_awake.mono _
   | exact catchwordref19_All.mono _ _
   | exact catchwordref19_Weight.mono _ _ _ _
   | exact score_All.mono _ _
   | exact score_Weight.mono _ _ _ _
   | exact LeO.none _
   | refine LeO.ite ?_ ?_
   | refine LeO.bind ?_ (fun _ => ?_)
  ·intro y0
   unfold catchwordlaw19_ScoreWeighs.j1
   repeat' first
   | (with_reducible exact ih0 _ _ _ _ _ _)
   | (with_reducible exact ih1 _)
   | (with_reducible exact catchwordlaw19_awake.mono _)
   | (with_reducible exact catchwordref19_All.mono _ _)
   | (with_reducible exact catchwordref19_Weight.mono _ _ _ _)
   | (with_reducible exact score_All.mono _ _)
   | (with_reducible exact score_Weight.mono _ _ _ _)
   | (with_reducible exact LeO.refl _)
   | (with_reducible exact LeO.none _)
   | (with_reducible refine LeO.ite ?_ ?_)
   | (with_reducible refine LeO.bind ?_ (fun _ => ?_))
   | exact ih0 _ _ _ _ _ _
   | exact ih1 _
   | exact catchwordlaw19_awake.mono _
   | exact catchwordref19_All.mono _ _
   | exact catchwordref19_Weight.mono _ _ _ _
   | exact score_All.mono _ _
   | exact score_Weight.mono _ _ _ _
   | exact LeO.none _
   | refine LeO.ite ?_ ?_
   | refine LeO.bind ?_ (fun _ => ?_)
theorem catchwordlaw19_ScoreWeighs.mono : ∀ a0 a1 a2 a3 k, LeO (catchwordlaw19_ScoreWeighs.f k a0 a1 a2 a3) (catchwordlaw19_ScoreWeighs.f (k + 1) a0 a1 a2 a3) := by
 intro a0 a1 a2 a3 k
 obtain ⟨ih0, ih1⟩ := catchwordlaw19_ScoreWeighs.mono_l k
 unfold catchwordlaw19_ScoreWeighs.f
 repeat' first
   | (with_reducible exact ih0 _ _ _ _ _ _)
   | (with_reducible exact ih1 _)
   | (with_reducible exact catchwordlaw19_awake.mono _)
   | (with_reducible exact catchwordref19_All.mono _ _)
   | (with_reducible exact catchwordref19_Weight.mono _ _ _ _)
   | (with_reducible exact score_All.mono _ _)
   | (with_reducible exact score_Weight.mono _ _ _ _)
   | (with_reducible exact LeO.refl _)
   | (with_reducible exact LeO.none _)
   | (with_reducible refine LeO.ite ?_ ?_)
   | (with_reducible refine LeO.bind ?_ (fun _ => ?_))
   | exact ih0 _ _ _ _ _ _
   | exact ih1 _
   | exact catchwordlaw19_awake.mono _
   | exact catchwordref19_All.mono _ _
   | exact catchwordref19_Weight.mono _ _ _ _
   | exact score_All.mono _ _
   | exact score_Weight.mono _ _ _ _
   | exact LeO.none _
   | refine LeO.ite ?_ ?_
   | refine LeO.bind ?_ (fun _ => ?_)
set_option maxHeartbeats 8000000 in
set_option maxRecDepth 100000 in
theorem catchwordlaw19_ScoreWeighs.calls (k : Nat) (a0 : Int) (a1 : Int) (a2 : Int) (A3 : Option Addr) (c3 : Nat) (l3 : List (S24)) (r : Bool) (w : World) (hr3 : Kd.C k24 w A3 l3.length l3) (hc3 : l3.length ≤ c3) (h : catchwordlaw19_ScoreWeighs.f k a0 a1 a2 l3 = some r) :
  Calls Try.prog 4 #[.int .i64 a0, .int .i64 a1, .int .i64 a2, .slice A3 l3.length c3] w fun e w' => e = .returned (.bool r) ∧ Below w.heap.size w w' := by
 have hu24 := Try.underlying24
 have HR3 := Aside0.mk hr3
 have HC3 := Aside0.mk hc3
 clear hr3 hc3
 have HB := Aside0.mk (Below.refl w.heap.size w)
 have H : ((catchwordlaw19_awake.f k).bind fun t196 => (if t196 = true then (catchwordlaw19_ScoreWeighs.j0 k a0 a1 a2 l3 t196 (decide ((l3.length : Int) > 100))) else (catchwordlaw19_ScoreWeighs.j0 k a0 a1 a2 l3 t196 true))) = some r := h
 clear h
 replace H := Option.bind_eq_some_iff.mp H
 obtain ⟨t196, A50, H⟩ := H
 replace H : (if t196 = true then (catchwordlaw19_ScoreWeighs.j0 k a0 a1 a2 l3 t196 (decide ((l3.length : Int) > 100))) else (catchwordlaw19_ScoreWeighs.j0 k a0 a1 a2 l3 t196 true)) = some r := H
 have A5 := Aside0.mk A50
 clear A50
 have HC6 := Aside0.mk H
 clear H
 go_enter Try.func4, Try.ntmps4
 go_upto_region 2 with (first | ((with_reducible refine gate_callee (f := 9) rfl ?_); refine goesL_ (some 14) rfl rfl Try.func9 (by kernel_rfl) rfl #[] rfl (by (try simp only [List.map_toArray, List.map_cons, List.map_nil]); first | done | rfl | (simp only [List.length_drop, List.length_take]; rfl)) ?_; (with_reducible refine (catchwordlaw19_awake.calls k  t196 _ A5.out).mono ?_); rintro e w7 ⟨rfl, hb⟩; refine ⟨_, rfl, ?_⟩; have n0_ := Aside0.mk (below_step (by repeat (first | (with_reducible first | exact HB.out | apply below_alloc | apply pw_below_drewN | apply below_drew1) | exact HB.out)) hb); clear HB; have HB := n0_; clear n0_; (try clear hb); (try clear hb2); (try clear hk); (try clear hi)))
 (try simp only [Act.put, List.setIfInBounds_toArray, List.set_cons_zero, List.set_cons_succ])
 go_cut [21] (fun v21 wc => ∃ (kq : Nat) (x21_5 : Bool), v21 = .bool x21_5 ∧ Aside0 (catchwordlaw19_ScoreWeighs.j0 kq a0 a1 a2 l3 t196 x21_5 = some r) ∧ Aside0 (kq ≤ k) ∧ Aside0 (Below w.heap.size w wc))
 case first =>
  have H := HC6.out
  clear HC6
  by_cases c8 : t196 = true
  ·subst c8
   have H1 : (catchwordlaw19_ScoreWeighs.j0 k a0 a1 a2 l3 true (decide ((l3.length : Int) > 100))) = some r := by rw [if_pos rfl] at H; exact H
   clear H
   have H := H1
   clear H1
   have H' := Aside0.mk H
   clear H
   go_wp2
   go_meet
   case rel => exact ⟨_, (decide ((l3.length : Int) > 100)), (by first | rfl | (simp; done) | (simp [*]; done)), H', ⟨by first | omega | exact Nat.le_refl _⟩, ⟨by repeat (first | (with_reducible first | exact HB.out | apply below_alloc | apply pw_below_drewN | apply below_drew1) | exact HB.out)⟩⟩
  ·replace c8 := Bool.eq_false_iff.mpr c8
   subst c8
   have H1 : (catchwordlaw19_ScoreWeighs.j0 k a0 a1 a2 l3 false true) = some r := by rw [if_neg (show ¬ (false = true) by decide)] at H; exact H
   clear H
   have H := H1
   clear H1
   have H' := Aside0.mk H
   clear H
   go_wp2
   go_meet
   case rel => exact ⟨_, (true), (by first | rfl | (simp; done) | (simp [*]; done)), H', ⟨by first | omega | exact Nat.le_refl _⟩, ⟨by repeat (first | (with_reducible first | exact HB.out | apply below_alloc | apply pw_below_drewN | apply below_drew1) | exact HB.out)⟩⟩
 case rest =>
  clear HC6
  try clear p2
  try clear c3
  try clear c4
  try clear c8
  obtain ⟨kq, x21_5, rfl, HA, HJ5, HB⟩ := hcut
  cases kq with
  | zero => exact absurd HA.out (by simp [catchwordlaw19_ScoreWeighs.j0])
  | succ kj5 =>
   have H := HA.out
   clear HA
   simp only [catchwordlaw19_ScoreWeighs.j0] at H
   by_cases c9 : x21_5 = true
   ·subst c9
    have H1 : (some t196) = some r := by rw [if_pos rfl] at H; exact H
    clear H
    have H := H1
    clear H1
    obtain rfl := Option.some.inj H
    go_wp2
    go_ret
    exact ⟨by first | rfl | (simp [errW_none, errW_some] <;> rfl) | (simp [*, errW_none, errW_some] <;> rfl), by repeat (first | (with_reducible first | exact HB.out | apply below_alloc | apply pw_below_drewN | apply below_drew1) | exact HB.out)⟩
   ·replace c9 := Bool.eq_false_iff.mpr c9
    subst c9
    have H1 : ((score_All.f kj5 l3).bind fun bt197 => ((catchwordref19_All.f kj5 l3).bind fun bt201 => (if (bt197.1 == bt201.1 && (bt197.2.1 == bt201.2.1)) = true then (if (bt197.2.2 == bt201.2.2) = true then ((score_Weight.f kj5 a0 a1 a2).bind fun bt205 => ((catchwordref19_Weight.f kj5 a0 a1 a2).bind fun bt207 => (catchwordlaw19_ScoreWeighs.j1 kj5 (bt205.1 == bt207.1 && (bt205.2 == bt207.2))))) else (catchwordlaw19_ScoreWeighs.j1 kj5 false)) else (catchwordlaw19_ScoreWeighs.j1 kj5 false)))) = some r := by rw [if_neg (show ¬ (false = true) by decide)] at H; exact H
    clear H
    have H := H1
    clear H1
    replace H := Option.bind_eq_some_iff.mp H
    obtain ⟨⟨t197, t198, t199⟩, A100, H⟩ := H
    replace H : ((catchwordref19_All.f kj5 l3).bind fun bt201 => (if (t197 == bt201.1 && (t198 == bt201.2.1)) = true then (if (t199 == bt201.2.2) = true then ((score_Weight.f kj5 a0 a1 a2).bind fun bt205 => ((catchwordref19_Weight.f kj5 a0 a1 a2).bind fun bt207 => (catchwordlaw19_ScoreWeighs.j1 kj5 (bt205.1 == bt207.1 && (bt205.2 == bt207.2))))) else (catchwordlaw19_ScoreWeighs.j1 kj5 false)) else (catchwordlaw19_ScoreWeighs.j1 kj5 false))) = some r := H
    have A10 := Aside0.mk A100
    clear A100
    replace H := Option.bind_eq_some_iff.mp H
    obtain ⟨⟨t201, t202, t203⟩, A110, H⟩ := H
    replace H : (if (t197 == t201 && (t198 == t202)) = true then (if (t199 == t203) = true then ((score_Weight.f kj5 a0 a1 a2).bind fun bt205 => ((catchwordref19_Weight.f kj5 a0 a1 a2).bind fun bt207 => (catchwordlaw19_ScoreWeighs.j1 kj5 (bt205.1 == bt207.1 && (bt205.2 == bt207.2))))) else (catchwordlaw19_ScoreWeighs.j1 kj5 false)) else (catchwordlaw19_ScoreWeighs.j1 kj5 false)) = some r := H
    have A11 := Aside0.mk A110
    clear A110
    have HC12 := Aside0.mk H
    clear H
    go_upto_region 6 with (first | ((with_reducible refine gate_callee (f := 18) rfl ?_); refine goesL_ (some 25) rfl rfl Try.func18 (by kernel_rfl) rfl #[.slice A3 l3.length c3] rfl (by (try simp only [List.map_toArray, List.map_cons, List.map_nil]); first | done | rfl | (simp only [List.length_drop, List.length_take]; rfl)) ?_; (with_reducible refine (score_All.calls kj5 _ _ l3 t197 t198 t199 _ ?side1 ?side2 A10.out).mono ?_); (case side1 => repeat (first | exact (Kd.C_below HR3.out HB.out) | (with_reducible refine Kd.C_alloc ?_ _) | (with_reducible refine Kd.C_drewN ?_ _) | (with_reducible refine Kd.C_drew ?_))); (case side2 => exact HC3.out); rintro e w13 ⟨rfl, hb⟩; refine ⟨_, rfl, ?_⟩; have n0_ := Aside0.mk (below_step (by repeat (first | (with_reducible first | exact HB.out | apply below_alloc | apply pw_below_drewN | apply below_drew1) | exact HB.out)) hb); clear HB; have HB := n0_; clear n0_; (try clear hb); (try clear hb2); (try clear hk); (try clear hi)) | ((with_reducible refine gate_dst (N := 10) rfl ?_); (try (refine gate_guard (by rfl) ?_; dsimp only)); refine box_event ?hg (N := 10) ?hd (cs := #[.int .u64 0, .int .u64 0]) (t := 24) ?hr ?_; (case hd => rfl); (case hg => rfl); (case hr => first | (go_simp; done) | (go_simp; rfl)); intro gb200 hg w14 hbox hb; have n0_ := Aside0.mk (below_step (by repeat (first | (with_reducible first | exact HB.out | apply below_alloc | apply pw_below_drewN | apply below_drew1) | exact HB.out)) hb); have n1_ := Aside0.mk (hbox); have n2_ := Aside0.mk ((by rw [hg]; exact (below_size (by repeat (first | (with_reducible first | exact HB.out | apply below_alloc | apply pw_below_drewN | apply below_drew1) | exact HB.out))) : w.heap.size ≤ gb200)); have n3_ := Aside0.mk ((by rw [hg]; exact (below_size (by repeat (first | (with_reducible first | exact HB.out | apply below_alloc | apply pw_below_drewN | apply below_drew1) | exact HB.out))) : w.heap.size ≤ gb200)); clear HB; have HB := n0_; have BK200 := n1_; have GW200 := n2_; have GE200 := n3_; clear n0_ n1_ n2_ n3_; clear hb hbox hg; have hcz15_0 : w14.cell? ⟨gb200, 0, none⟩ = some (.int .u64 0) := (blk_cell BK200.out 0).trans rfl; have hcz15_1 : w14.cell? ⟨gb200, 1, none⟩ = some (.int .u64 0) := (blk_cell BK200.out 1).trans rfl; have hfz15_0 := blk_frozen BK200.out 0; have hfz15_1 := blk_frozen BK200.out 1) | ((with_reducible refine gate_callee (f := 19) rfl ?_); refine goesL_ (some 30) rfl rfl Try.func19 (by kernel_rfl) rfl #[.slice A3 l3.length c3] rfl (by (try simp only [List.map_toArray, List.map_cons, List.map_nil]); first | done | rfl | (simp only [List.length_drop, List.length_take]; rfl)) ?_; (with_reducible refine (catchwordref19_All.calls kj5 _ _ l3 t201 t202 t203 _ ?side1 ?side2 A11.out).mono ?_); (case side1 => exact Kd.C_below HR3.out (by repeat (first | (with_reducible first | exact HB.out | apply below_alloc | apply pw_below_drewN | apply below_drew1 | refine below_set ?_ GE200.out) | exact HB.out))); (case side2 => exact HC3.out); rintro e w16 ⟨rfl, hb⟩; refine ⟨_, rfl, ?_⟩; have n0_ := Aside0.mk (blk_below (g := gb200) (o := .cells #[.int .u64 t197, .int .u64 t198] 24 (0, 0)) (by (with_reducible repeat (first | refine blk_drewN ?_ _ | refine blk_drew ?_ | refine blk_alloc ?_ _)); refine blk_put (cs := #[.int .u64 t197, .int .u64 0]) ?_ 1 _ rfl; (with_reducible repeat (first | refine blk_drewN ?_ _ | refine blk_drew ?_ | refine blk_alloc ?_ _)); refine blk_put (cs := #[.int .u64 0, .int .u64 0]) ?_ 0 _ rfl; (with_reducible repeat (first | refine blk_drewN ?_ _ | refine blk_drew ?_ | refine blk_alloc ?_ _)); exact BK200.out) hb); have n1_ := Aside0.mk (below_step (by repeat (first | (with_reducible first | exact HB.out | apply below_alloc | apply pw_below_drewN | apply below_drew1 | refine below_set ?_ GE200.out) | exact HB.out)) hb); clear BK200; clear HB; have BK200 := n0_; have HB := n1_; clear n0_ n1_; (try clear hb); (try clear hb2); (try clear hk); (try clear hi)) | ((with_reducible refine gate_dst (N := 12) rfl ?_); (try (refine gate_guard (by rfl) ?_; dsimp only)); refine box_event ?hg (N := 12) ?hd (cs := #[.int .u64 0, .int .u64 0]) (t := 24) ?hr ?_; (case hd => rfl); (case hg => rfl); (case hr => first | (go_simp; done) | (go_simp; rfl)); intro gb204 hg w17 hbox hb; have n0_ := Aside0.mk (blk_below (g := gb200) (o := .cells #[.int .u64 t197, .int .u64 t198] 24 (0, 0)) (by (with_reducible repeat (first | refine blk_drewN ?_ _ | refine blk_drew ?_ | refine blk_alloc ?_ _)); exact BK200.out) hb); have n1_ := Aside0.mk (below_step (by repeat (first | (with_reducible first | exact HB.out | apply below_alloc | apply pw_below_drewN | apply below_drew1 | refine below_set ?_ GE200.out) | exact HB.out)) hb); have n2_ := Aside0.mk (hbox); have n3_ := Aside0.mk ((by rw [hg]; exact (below_size (by repeat (first | (with_reducible first | exact HB.out | apply below_alloc | apply pw_below_drewN | apply below_drew1 | refine below_set ?_ GE200.out) | exact HB.out))) : w.heap.size ≤ gb204)); have n4_ := Aside0.mk ((by rw [hg]; exact (below_size (by repeat (first | (with_reducible first | exact HB.out | apply below_alloc | apply pw_below_drewN | apply below_drew1 | refine below_set ?_ GE200.out) | exact HB.out))) : w.heap.size ≤ gb204)); have n5_ := Aside0.mk ((by rw [hg]; exact Nat.ne_of_lt (blk_lt (g := gb200) (o := .cells #[.int .u64 t197, .int .u64 t198] 24 (0, 0)) (by (with_reducible repeat (first | refine blk_drewN ?_ _ | refine blk_drew ?_ | refine blk_alloc ?_ _)); exact BK200.out)) : gb200 ≠ gb204)); have n6_ := Aside0.mk ((by rw [hg]; exact Nat.ne_of_gt (blk_lt (g := gb200) (o := .cells #[.int .u64 t197, .int .u64 t198] 24 (0, 0)) (by (with_reducible repeat (first | refine blk_drewN ?_ _ | refine blk_drew ?_ | refine blk_alloc ?_ _)); exact BK200.out)) : gb204 ≠ gb200)); clear BK200; clear HB; have BK200 := n0_; have HB := n1_; have BK204 := n2_; have GW204 := n3_; have GE204 := n4_; have NB200_204 := n5_; have NB204_200 := n6_; clear n0_ n1_ n2_ n3_ n4_ n5_ n6_; clear hb hbox hg; have hnb18 := NB204_200.out; have hnc18 := NB200_204.out; have hcz19_0 : w17.cell? ⟨gb204, 0, none⟩ = some (.int .u64 0) := (blk_cell BK204.out 0).trans rfl; have hcz19_1 : w17.cell? ⟨gb204, 1, none⟩ = some (.int .u64 0) := (blk_cell BK204.out 1).trans rfl; have hfz19_0 := blk_frozen BK204.out 0; have hfz19_1 := blk_frozen BK204.out 1))
    (try simp only [Act.put, List.setIfInBounds_toArray, List.set_cons_zero, List.set_cons_succ])
    go_cut [8] (fun v8 wc => ∃ (kq : Nat) (x8_11 : Bool), v8 = .bool x8_11 ∧ Aside0 (catchwordlaw19_ScoreWeighs.j1 kq x8_11 = some r) ∧ Aside0 (kq ≤ kj5) ∧ Aside0 (wc.heap[gb200]? = some (.cells #[.int .u64 t197, .int .u64 t198] 24 (0, 0))) ∧ Aside0 (wc.heap[gb204]? = some (.cells #[.int .u64 t201, .int .u64 t202] 24 (0, 0))) ∧ Aside0 (Below w.heap.size w wc))
    case first =>
     have H := HC12.out
     clear HC12
     by_cases c20 : (t197 == t201 && (t198 == t202)) = true
     ·rw [if_pos c20] at H
      have c20b0 : (t197 == t201 && (t198 == t202)) = true := c20
      (try (have c20b1 : decide (t197 = t201 && (t198 == t202)) = true := by simpa using c20))
      (try (have c20b2 : (t197 == t201 && (t198 == t202)) = true := by simpa using c20))
      clear c20
      (first | rw [c20b0] | (simp only [i64_w, i32_w]; rw [c20b0]) | skip)
      by_cases c21 : (t199 == t203) = true
      ·rw [if_pos c21] at H
       have c21b0 : (t199 == t203) = true := c21
       (try (have c21b1 : decide (t199 = t203) = true := by simpa using c21))
       (try (have c21b2 : (t199 == t203) = true := by simpa using c21))
       clear c21
       replace H := Option.bind_eq_some_iff.mp H
       obtain ⟨⟨t205, t206⟩, A220, H⟩ := H
       replace H : ((catchwordref19_Weight.f kj5 a0 a1 a2).bind fun bt207 => (catchwordlaw19_ScoreWeighs.j1 kj5 (t205 == bt207.1 && (t206 == bt207.2)))) = some r := H
       have A22 := Aside0.mk A220
       clear A220
       replace H := Option.bind_eq_some_iff.mp H
       obtain ⟨⟨t207, t208⟩, A230, H⟩ := H
       replace H : (catchwordlaw19_ScoreWeighs.j1 kj5 (t205 == t207 && (t206 == t208))) = some r := H
       have A23 := Aside0.mk A230
       clear A230
       have H' := Aside0.mk H
       clear H
       have hnb24 := NB200_204.out
       have hnc24 := NB204_200.out
       have hcz25_0 : w17.cell? ⟨gb200, 0, none⟩ = some (.int .u64 t197) := (blk_cell BK200.out 0).trans rfl
       have hcz25_1 : w17.cell? ⟨gb200, 1, none⟩ = some (.int .u64 t198) := (blk_cell BK200.out 1).trans rfl
       have hfz25_0 := blk_frozen BK200.out 0
       have hfz25_1 := blk_frozen BK200.out 1
       have hcz26_0 : w17.cell? ⟨gb204, 0, none⟩ = some (.int .u64 0) := (blk_cell BK204.out 0).trans rfl
       have hcz26_1 : w17.cell? ⟨gb204, 1, none⟩ = some (.int .u64 0) := (blk_cell BK204.out 1).trans rfl
       have hfz26_0 := blk_frozen BK204.out 0
       have hfz26_1 := blk_frozen BK204.out 1
       go_wp2_with (first | (go_at_call 20; (with_reducible refine (score_Weight.calls kj5 a0 a1 a2 t205 t206 _ A22.out).mono ?_); rintro e w27 ⟨rfl, hb⟩; have n0_ := Aside0.mk (blk_below (g := gb200) (o := .cells #[.int .u64 t197, .int .u64 t198] 24 (0, 0)) (by (with_reducible repeat (first | refine blk_drewN ?_ _ | refine blk_drew ?_ | refine blk_alloc ?_ _)); refine blk_far ?_ NB200_204.out _; (with_reducible repeat (first | refine blk_drewN ?_ _ | refine blk_drew ?_ | refine blk_alloc ?_ _)); refine blk_far ?_ NB200_204.out _; (with_reducible repeat (first | refine blk_drewN ?_ _ | refine blk_drew ?_ | refine blk_alloc ?_ _)); exact BK200.out) hb); have n1_ := Aside0.mk (blk_below (g := gb204) (o := .cells #[.int .u64 t201, .int .u64 t202] 24 (0, 0)) (by (with_reducible repeat (first | refine blk_drewN ?_ _ | refine blk_drew ?_ | refine blk_alloc ?_ _)); refine blk_put (cs := #[.int .u64 t201, .int .u64 0]) ?_ 1 _ rfl; (with_reducible repeat (first | refine blk_drewN ?_ _ | refine blk_drew ?_ | refine blk_alloc ?_ _)); refine blk_put (cs := #[.int .u64 0, .int .u64 0]) ?_ 0 _ rfl; (with_reducible repeat (first | refine blk_drewN ?_ _ | refine blk_drew ?_ | refine blk_alloc ?_ _)); exact BK204.out) hb); have n2_ := Aside0.mk (below_step (by repeat (first | (with_reducible first | exact HB.out | apply below_alloc | apply pw_below_drewN | apply below_drew1 | refine below_set ?_ GE200.out | refine below_set ?_ GE204.out) | exact HB.out)) hb); clear BK200; clear BK204; clear HB; have BK200 := n0_; have BK204 := n1_; have HB := n2_; clear n0_ n1_ n2_; (try clear hb); (try clear hb2); (try clear hk); (try clear hi)) | (go_at_call 21; (with_reducible refine (catchwordref19_Weight.calls kj5 a0 a1 a2 t207 t208 _ A23.out).mono ?_); rintro e w28 ⟨rfl, hb⟩; have n0_ := Aside0.mk (blk_below (g := gb200) (o := .cells #[.int .u64 t197, .int .u64 t198] 24 (0, 0)) (by (with_reducible repeat (first | refine blk_drewN ?_ _ | refine blk_drew ?_ | refine blk_alloc ?_ _)); exact BK200.out) hb); have n1_ := Aside0.mk (blk_below (g := gb204) (o := .cells #[.int .u64 t201, .int .u64 t202] 24 (0, 0)) (by (with_reducible repeat (first | refine blk_drewN ?_ _ | refine blk_drew ?_ | refine blk_alloc ?_ _)); exact BK204.out) hb); have n2_ := Aside0.mk (below_step (by repeat (first | (with_reducible first | exact HB.out | apply below_alloc | apply pw_below_drewN | apply below_drew1 | refine below_set ?_ GE200.out | refine below_set ?_ GE204.out) | exact HB.out)) hb); clear BK200; clear BK204; clear HB; have BK200 := n0_; have BK204 := n1_; have HB := n2_; clear n0_ n1_ n2_; (try clear hb); (try clear hb2); (try clear hk); (try clear hi)))
       go_meet
       case rel => exact ⟨_, ((t205 == t207 && (t206 == t208))), (by first | rfl | (simp; done) | (simp [*]; done)), H', ⟨by have := HJ5.out; first | omega | exact Nat.le_refl _⟩, ⟨by (with_reducible repeat (first | refine blk_drewN ?_ _ | refine blk_drew ?_ | refine blk_alloc ?_ _)); exact BK200.out⟩, ⟨by (with_reducible repeat (first | refine blk_drewN ?_ _ | refine blk_drew ?_ | refine blk_alloc ?_ _)); exact BK204.out⟩, ⟨by repeat (first | (with_reducible first | exact HB.out | apply below_alloc | apply pw_below_drewN | apply below_drew1 | refine below_set ?_ GE200.out | refine below_set ?_ GE204.out) | exact HB.out)⟩⟩
      ·rw [if_neg c21] at H
       have c21b0 : (t199 == t203) = false := by simpa using c21
       (try (have c21b1 : decide (t199 = t203) = false := by simpa using c21))
       (try (have c21b2 : (t199 == t203) = false := by simpa using c21))
       (try (have c21b3 : ¬ (t199 = t203) := by simpa using c21))
       clear c21
       have H' := Aside0.mk H
       clear H
       have hnb29 := NB200_204.out
       have hnc29 := NB204_200.out
       have hcz30_0 : w17.cell? ⟨gb200, 0, none⟩ = some (.int .u64 t197) := (blk_cell BK200.out 0).trans rfl
       have hcz30_1 : w17.cell? ⟨gb200, 1, none⟩ = some (.int .u64 t198) := (blk_cell BK200.out 1).trans rfl
       have hfz30_0 := blk_frozen BK200.out 0
       have hfz30_1 := blk_frozen BK200.out 1
       have hcz31_0 : w17.cell? ⟨gb204, 0, none⟩ = some (.int .u64 0) := (blk_cell BK204.out 0).trans rfl
       have hcz31_1 : w17.cell? ⟨gb204, 1, none⟩ = some (.int .u64 0) := (blk_cell BK204.out 1).trans rfl
       have hfz31_0 := blk_frozen BK204.out 0
       have hfz31_1 := blk_frozen BK204.out 1
       go_wp2
       go_meet
       case rel => exact ⟨_, (false), (by first | rfl | (simp; done) | (simp [*]; done)), H', ⟨by have := HJ5.out; first | omega | exact Nat.le_refl _⟩, ⟨by (with_reducible repeat (first | refine blk_drewN ?_ _ | refine blk_drew ?_ | refine blk_alloc ?_ _)); refine blk_far ?_ NB200_204.out _; (with_reducible repeat (first | refine blk_drewN ?_ _ | refine blk_drew ?_ | refine blk_alloc ?_ _)); refine blk_far ?_ NB200_204.out _; (with_reducible repeat (first | refine blk_drewN ?_ _ | refine blk_drew ?_ | refine blk_alloc ?_ _)); exact BK200.out⟩, ⟨by (with_reducible repeat (first | refine blk_drewN ?_ _ | refine blk_drew ?_ | refine blk_alloc ?_ _)); refine blk_put (cs := #[.int .u64 t201, .int .u64 0]) ?_ 1 _ rfl; (with_reducible repeat (first | refine blk_drewN ?_ _ | refine blk_drew ?_ | refine blk_alloc ?_ _)); refine blk_put (cs := #[.int .u64 0, .int .u64 0]) ?_ 0 _ rfl; (with_reducible repeat (first | refine blk_drewN ?_ _ | refine blk_drew ?_ | refine blk_alloc ?_ _)); exact BK204.out⟩, ⟨by repeat (first | (with_reducible first | exact HB.out | apply below_alloc | apply pw_below_drewN | apply below_drew1 | refine below_set ?_ GE200.out | refine below_set ?_ GE204.out) | exact HB.out)⟩⟩
     ·rw [if_neg c20] at H
      have c20b0 : (t197 == t201 && (t198 == t202)) = false := by simpa using c20
      (try (have c20b1 : decide (t197 = t201 && (t198 == t202)) = false := by simpa using c20))
      (try (have c20b2 : (t197 == t201 && (t198 == t202)) = false := by simpa using c20))
      (try (have c20b3 : ¬ (t197 = t201 && (t198 == t202)) := by simpa using c20))
      clear c20
      (first | rw [c20b0] | (simp only [i64_w, i32_w]; rw [c20b0]) | skip)
      have H' := Aside0.mk H
      clear H
      have hnb32 := NB200_204.out
      have hnc32 := NB204_200.out
      have hcz33_0 : w17.cell? ⟨gb200, 0, none⟩ = some (.int .u64 t197) := (blk_cell BK200.out 0).trans rfl
      have hcz33_1 : w17.cell? ⟨gb200, 1, none⟩ = some (.int .u64 t198) := (blk_cell BK200.out 1).trans rfl
      have hfz33_0 := blk_frozen BK200.out 0
      have hfz33_1 := blk_frozen BK200.out 1
      have hcz34_0 : w17.cell? ⟨gb204, 0, none⟩ = some (.int .u64 0) := (blk_cell BK204.out 0).trans rfl
      have hcz34_1 : w17.cell? ⟨gb204, 1, none⟩ = some (.int .u64 0) := (blk_cell BK204.out 1).trans rfl
      have hfz34_0 := blk_frozen BK204.out 0
      have hfz34_1 := blk_frozen BK204.out 1
      go_wp2
      go_meet
      case rel => exact ⟨_, (false), (by first | rfl | (simp; done) | (simp [*]; done)), H', ⟨by have := HJ5.out; first | omega | exact Nat.le_refl _⟩, ⟨by (with_reducible repeat (first | refine blk_drewN ?_ _ | refine blk_drew ?_ | refine blk_alloc ?_ _)); refine blk_far ?_ NB200_204.out _; (with_reducible repeat (first | refine blk_drewN ?_ _ | refine blk_drew ?_ | refine blk_alloc ?_ _)); refine blk_far ?_ NB200_204.out _; (with_reducible repeat (first | refine blk_drewN ?_ _ | refine blk_drew ?_ | refine blk_alloc ?_ _)); exact BK200.out⟩, ⟨by (with_reducible repeat (first | refine blk_drewN ?_ _ | refine blk_drew ?_ | refine blk_alloc ?_ _)); refine blk_put (cs := #[.int .u64 t201, .int .u64 0]) ?_ 1 _ rfl; (with_reducible repeat (first | refine blk_drewN ?_ _ | refine blk_drew ?_ | refine blk_alloc ?_ _)); refine blk_put (cs := #[.int .u64 0, .int .u64 0]) ?_ 0 _ rfl; (with_reducible repeat (first | refine blk_drewN ?_ _ | refine blk_drew ?_ | refine blk_alloc ?_ _)); exact BK204.out⟩, ⟨by repeat (first | (with_reducible first | exact HB.out | apply below_alloc | apply pw_below_drewN | apply below_drew1 | refine below_set ?_ GE200.out | refine below_set ?_ GE204.out) | exact HB.out)⟩⟩
    case rest =>
     clear HC12
     try clear c1
     try clear c2
     try clear p2
     try clear c3
     try clear c4
     try clear c8
     try clear c9
     try clear c18
     try clear c19
     try clear c20
     try clear c20b0
     try clear c20b1
     try clear c20b2
     try clear c21
     try clear c21b0
     try clear c21b1
     try clear c21b2
     try clear c24
     try clear c29
     try clear c32
     try clear hcz15_0
     try clear hcz15_1
     try clear hcz19_0
     try clear hcz19_1
     try clear hcz25_0
     try clear hcz25_1
     try clear hcz26_0
     try clear hcz26_1
     try clear hcz30_0
     try clear hcz30_1
     try clear hcz31_0
     try clear hcz31_1
     try clear hcz33_0
     try clear hcz33_1
     try clear hcz34_0
     try clear hcz34_1
     try clear hfz15_0
     try clear hfz15_1
     try clear hfz19_0
     try clear hfz19_1
     try clear hfz25_0
     try clear hfz25_1
     try clear hfz26_0
     try clear hfz26_1
     try clear hfz30_0
     try clear hfz30_1
     try clear hfz31_0
     try clear hfz31_1
     try clear hfz33_0
     try clear hfz33_1
     try clear hfz34_0
     try clear hfz34_1
     try clear p2
     obtain ⟨kq, x8_11, rfl, HA, HJ11, BK200, BK204, HB⟩ := hcut
     cases kq with
     | zero => exact absurd HA.out (by simp [catchwordlaw19_ScoreWeighs.j1])
     | succ kj11 =>
      have H := HA.out
      clear HA
      simp only [catchwordlaw19_ScoreWeighs.j1] at H
      obtain rfl := Option.some.inj H
      go_wp2
      go_ret
      exact ⟨by first | rfl | (simp [errW_none, errW_some] <;> rfl) | (simp [*, errW_none, errW_some] <;> rfl), by repeat (first | (with_reducible first | exact HB.out | apply below_alloc | apply pw_below_drewN | apply below_drew1 | refine below_set ?_ GE200.out | refine below_set ?_ GE204.out) | exact HB.out)⟩

/-- THE ONE PURE STATEMENT of catchwordlaw19_ScoreWeighs. -/
def catchwordlaw19_ScoreWeighs.Pure : Prop := ∀ (a0 : Int) (a1 : Int) (a2 : Int) (l3 : List (S24)), (Lit.int .i64 a0).wf = true → (Lit.int .i64 a1).wf = true → (Lit.int .i64 a2).wf = true → (l3.length * 16 ≤ 140737488351232 ∧ ∀ y0 ∈ l3, ((Lit.int .u64 y0.f0).wf = true ∧ (Lit.int .u64 y0.f1).wf = true)) → ∃ k, catchwordlaw19_ScoreWeighs.f k a0 a1 a2 l3 = some true

end Go.Proofs.Ytljpdpfflmoheaa.PScoreWeighs
