-- LAID BY this session's own printer (wip/pr): Lean checks it
import Derived.Test.YtljpdpfflmoheaaPScoreOrderx0
import Derived.Test.YtljpdpfflmoheaaPScoreOrderx1
import Derived.Test.YtljpdpfflmoheaaPScoreOrderx2
import Derived.Test.YtljpdpfflmoheaaPScoreOrderx3
namespace Go.Proofs.Ytljpdpfflmoheaa.PScoreOrder
open Go.RowKit Go.Proofs.YtljpdpfflmoheaaW.PrintWords Go.Proofs.YtljpdpfflmoheaaW.PrintLast Go.Proofs.YtljpdpfflmoheaaW.PrintMore
attribute [local go_sem] max2_int min2_int max_two min_two max_three min_three max_four min_four   -- for this text's walks alone
set_option linter.unusedVariables false
set_option linter.unusedSimpArgs false

attribute [local go_sem high] eqA24
/-! ### catchwordlaw19_ScoreOrder: function 5 -/
mutual
def catchwordlaw19_ScoreOrder.j0 : Nat → Bool → Bool → Int → Int → Int → Int → Int → Int → Option (Bool)
 | 0, _, _, _, _, _, _, _, _ => none
 | k + 1, x7, x27, x170000, x170001, x171000, x171001, x172000, x172001 => if x27 = true then (some x7) else ((score_Less.f k x170000 x170001 x171000 x171001).bind fun t176 => ((score_Less.f k x171000 x171001 x170000 x170001).bind fun t177 => (if t176 = true then (if (true == (!(x170000 == x171000) || (!(x170001 == x171001)))) = true then (if t177 = true then (catchwordlaw19_ScoreOrder.j1 k false) else ((score_Less.f k x171000 x171001 x172000 x172001).bind fun t178 => (if t178 = true then ((score_Less.f k x170000 x170001 x172000 x172001).bind fun t179 => (catchwordlaw19_ScoreOrder.j1 k t179)) else (catchwordlaw19_ScoreOrder.j1 k true)))) else (catchwordlaw19_ScoreOrder.j1 k false)) else (if (t177 == (!(x170000 == x171000) || (!(x170001 == x171001)))) = true then (catchwordlaw19_ScoreOrder.j1 k true) else (catchwordlaw19_ScoreOrder.j1 k false)))))
def catchwordlaw19_ScoreOrder.j1 : Nat → Bool → Option (Bool)
 | 0, _ => none
 | k + 1, x6 => some x6
end
def catchwordlaw19_ScoreOrder.f (k : Nat) (a0_0 : Int) (a0_1 : Int) (a1_0 : Int) (a1_1 : Int) (a2_0 : Int) (a2_1 : Int) : Option (Bool) := (catchwordlaw19_awake.f k).bind fun t172 => (if t172 = true then ((score_May.f k a0_0 a0_1).bind fun t173 => (if t173 = true then ((score_May.f k a1_0 a1_1).bind fun t174 => (if t174 = true then ((score_May.f k a2_0 a2_1).bind fun t175 => (catchwordlaw19_ScoreOrder.j0 k t172 (!t175) a0_0 a0_1 a1_0 a1_1 a2_0 a2_1)) else (catchwordlaw19_ScoreOrder.j0 k t172 true a0_0 a0_1 a1_0 a1_1 a2_0 a2_1))) else (catchwordlaw19_ScoreOrder.j0 k t172 true a0_0 a0_1 a1_0 a1_1 a2_0 a2_1))) else (catchwordlaw19_ScoreOrder.j0 k t172 true a0_0 a0_1 a1_0 a1_1 a2_0 a2_1))
theorem catchwordlaw19_ScoreOrder.mono_l : ∀ k, (∀ y0 y1 y2 y3 y4 y5 y6 y7, LeO (catchwordlaw19_ScoreOrder.j0 k y0 y1 y2 y3 y4 y5 y6 y7) (catchwordlaw19_ScoreOrder.j0 (k + 1) y0 y1 y2 y3 y4 y5 y6 y7)) ∧ (∀ y0, LeO (catchwordlaw19_ScoreOrder.j1 k y0) (catchwordlaw19_ScoreOrder.j1 (k + 1) y0))
 | 0 => ⟨fun _ _ _ _ _ _ _ _ r h => by simp [catchwordlaw19_ScoreOrder.j0] at h, fun _ r h => by simp [catchwordlaw19_ScoreOrder.j1] at h⟩
 | k + 1 => by
  obtain ⟨ih0, ih1⟩ := catchwordlaw19_ScoreOrder.mono_l k
  refine ⟨?_, ?_⟩
  ·intro y0 y1 y2 y3 y4 y5 y6 y7
   unfold catchwordlaw19_ScoreOrder.j0
   repeat' first
   | (with_reducible exact ih0 _ _ _ _ _ _ _ _)
   | (with_reducible exact ih1 _)
   | (with_reducible exact catchwordlaw19_awake.mono _)
   | (with_reducible exact score_Less.mono _ _ _ _ _)
   | (with_reducible exact score_May.mono _ _ _)
   | (with_reducible exact LeO.refl _)
   | (with_reducible exact LeO.none _)
   | (with_reducible refine LeO.ite ?_ ?_)
   | (with_reducible refine LeO.bind ?_ (fun _ => ?_))
   | exact ih0 _ _ _ _ _ _ _ _
   | exact ih1 _
   | exact catchwordlaw19_awake.mono _
   | exact score_Less.mono _ _ _ _ _
   | exact score_May.mono _ _ _
   | exact LeO.none _
   | refine LeO.ite ?_ ?_
   | refine LeO.bind ?_ (fun _ => ?_)
  ·intro y0
   unfold catchwordlaw19_ScoreOrder.j1
   repeat' first
   | (with_reducible exact ih0 _ _ _ _ _ _ _ _)
   | (with_reducible exact ih1 _)
   | (with_reducible exact catchwordlaw19_awake.mono _)
   | (with_reducible exact score_Less.mono _ _ _ _ _)
   | (with_reducible exact score_May.mono _ _ _)
   | (with_reducible exact LeO.refl _)
   | (with_reducible exact LeO.none _)
   | (with_reducible refine LeO.ite ?_ ?_)
   | (with_reducible refine LeO.bind ?_ (fun _ => ?_))
   | exact ih0 _ _ _ _ _ _ _ _
   | exact ih1 _
   | exact catchwordlaw19_awake.mono _
   | exact score_Less.mono _ _ _ _ _
   | exact score_May.mono _ _ _
   | exact LeO.none _
   | refine LeO.ite ?_ ?_
   | refine LeO.bind ?_ (fun _ => ?_)
theorem catchwordlaw19_ScoreOrder.mono : ∀ a0 a1 a2 a3 a4 a5 k, LeO (catchwordlaw19_ScoreOrder.f k a0 a1 a2 a3 a4 a5) (catchwordlaw19_ScoreOrder.f (k + 1) a0 a1 a2 a3 a4 a5) := by
 intro a0 a1 a2 a3 a4 a5 k
 obtain ⟨ih0, ih1⟩ := catchwordlaw19_ScoreOrder.mono_l k
 unfold catchwordlaw19_ScoreOrder.f
 repeat' first
   | (with_reducible exact ih0 _ _ _ _ _ _ _ _)
   | (with_reducible exact ih1 _)
   | (with_reducible exact catchwordlaw19_awake.mono _)
   | (with_reducible exact score_Less.mono _ _ _ _ _)
   | (with_reducible exact score_May.mono _ _ _)
   | (with_reducible exact LeO.refl _)
   | (with_reducible exact LeO.none _)
   | (with_reducible refine LeO.ite ?_ ?_)
   | (with_reducible refine LeO.bind ?_ (fun _ => ?_))
   | exact ih0 _ _ _ _ _ _ _ _
   | exact ih1 _
   | exact catchwordlaw19_awake.mono _
   | exact score_Less.mono _ _ _ _ _
   | exact score_May.mono _ _ _
   | exact LeO.none _
   | refine LeO.ite ?_ ?_
   | refine LeO.bind ?_ (fun _ => ?_)
set_option maxHeartbeats 8000000 in
set_option maxRecDepth 100000 in
theorem catchwordlaw19_ScoreOrder.calls (k : Nat) (a0_0 : Int) (a0_1 : Int) (a1_0 : Int) (a1_1 : Int) (a2_0 : Int) (a2_1 : Int) (r : Bool) (w : World) (h : catchwordlaw19_ScoreOrder.f k a0_0 a0_1 a1_0 a1_1 a2_0 a2_1 = some r) :
  Calls Try.prog 5 #[.agg #[.int .u64 a0_0, .int .u64 a0_1], .agg #[.int .u64 a1_0, .int .u64 a1_1], .agg #[.int .u64 a2_0, .int .u64 a2_1]] w fun e w' => e = .returned (.bool r) ∧ Below w.heap.size w w' := by
 have hu24 := Try.underlying24
 have HB := Aside0.mk (Below.refl w.heap.size w)
 have H : ((catchwordlaw19_awake.f k).bind fun t172 => (if t172 = true then ((score_May.f k a0_0 a0_1).bind fun t173 => (if t173 = true then ((score_May.f k a1_0 a1_1).bind fun t174 => (if t174 = true then ((score_May.f k a2_0 a2_1).bind fun t175 => (catchwordlaw19_ScoreOrder.j0 k t172 (!t175) a0_0 a0_1 a1_0 a1_1 a2_0 a2_1)) else (catchwordlaw19_ScoreOrder.j0 k t172 true a0_0 a0_1 a1_0 a1_1 a2_0 a2_1))) else (catchwordlaw19_ScoreOrder.j0 k t172 true a0_0 a0_1 a1_0 a1_1 a2_0 a2_1))) else (catchwordlaw19_ScoreOrder.j0 k t172 true a0_0 a0_1 a1_0 a1_1 a2_0 a2_1))) = some r := h
 clear h
 replace H := Option.bind_eq_some_iff.mp H
 obtain ⟨t172, A40, H⟩ := H
 replace H : (if t172 = true then ((score_May.f k a0_0 a0_1).bind fun t173 => (if t173 = true then ((score_May.f k a1_0 a1_1).bind fun t174 => (if t174 = true then ((score_May.f k a2_0 a2_1).bind fun t175 => (catchwordlaw19_ScoreOrder.j0 k t172 (!t175) a0_0 a0_1 a1_0 a1_1 a2_0 a2_1)) else (catchwordlaw19_ScoreOrder.j0 k t172 true a0_0 a0_1 a1_0 a1_1 a2_0 a2_1))) else (catchwordlaw19_ScoreOrder.j0 k t172 true a0_0 a0_1 a1_0 a1_1 a2_0 a2_1))) else (catchwordlaw19_ScoreOrder.j0 k t172 true a0_0 a0_1 a1_0 a1_1 a2_0 a2_1)) = some r := H
 have A4 := Aside0.mk A40
 clear A40
 have HC5 := Aside0.mk H
 clear H
 go_enter Try.func5, Try.ntmps5
 go_upto_region 2 with (first | ((with_reducible refine gate_dst (N := 3) rfl ?_); refine box_event ?hg (N := 3) ?hd (cs := #[.int .u64 a0_0, .int .u64 a0_1]) (t := 24) ?hr ?_; (case hd => rfl); (case hg => rfl); (case hr => first | (go_simp; done) | (go_simp; rfl)); intro gb169 hg w6 hbox hb; have n0_ := Aside0.mk (below_step (by repeat (first | (with_reducible first | exact HB.out | apply below_alloc | apply pw_below_drewN | apply below_drew1) | exact HB.out)) hb); have n1_ := Aside0.mk (hbox); have n2_ := Aside0.mk ((by rw [hg]; exact (below_size (by repeat (first | (with_reducible first | exact HB.out | apply below_alloc | apply pw_below_drewN | apply below_drew1) | exact HB.out))) : w.heap.size ≤ gb169)); have n3_ := Aside0.mk ((by rw [hg]; exact (below_size (by repeat (first | (with_reducible first | exact HB.out | apply below_alloc | apply pw_below_drewN | apply below_drew1) | exact HB.out))) : w.heap.size ≤ gb169)); clear HB; have HB := n0_; have BK169 := n1_; have GW169 := n2_; have GE169 := n3_; clear n0_ n1_ n2_ n3_; clear hb hbox hg) | ((with_reducible refine gate_dst (N := 4) rfl ?_); refine box_event ?hg (N := 4) ?hd (cs := #[.int .u64 a1_0, .int .u64 a1_1]) (t := 24) ?hr ?_; (case hd => rfl); (case hg => rfl); (case hr => first | (go_simp; done) | (go_simp; rfl)); intro gb170 hg w7 hbox hb; have n0_ := Aside0.mk (blk_below (g := gb169) (o := .cells #[.int .u64 a0_0, .int .u64 a0_1] 24 (0, 0)) (by (with_reducible repeat (first | refine blk_drewN ?_ _ | refine blk_drew ?_ | refine blk_alloc ?_ _)); exact BK169.out) hb); have n1_ := Aside0.mk (below_step (by repeat (first | (with_reducible first | exact HB.out | apply below_alloc | apply pw_below_drewN | apply below_drew1 | refine below_set ?_ GE169.out) | exact HB.out)) hb); have n2_ := Aside0.mk (hbox); have n3_ := Aside0.mk ((by rw [hg]; exact (below_size (by repeat (first | (with_reducible first | exact HB.out | apply below_alloc | apply pw_below_drewN | apply below_drew1 | refine below_set ?_ GE169.out) | exact HB.out))) : w.heap.size ≤ gb170)); have n4_ := Aside0.mk ((by rw [hg]; exact (below_size (by repeat (first | (with_reducible first | exact HB.out | apply below_alloc | apply pw_below_drewN | apply below_drew1 | refine below_set ?_ GE169.out) | exact HB.out))) : w.heap.size ≤ gb170)); have n5_ := Aside0.mk ((by rw [hg]; exact Nat.ne_of_lt (blk_lt (g := gb169) (o := .cells #[.int .u64 a0_0, .int .u64 a0_1] 24 (0, 0)) (by (with_reducible repeat (first | refine blk_drewN ?_ _ | refine blk_drew ?_ | refine blk_alloc ?_ _)); exact BK169.out)) : gb169 ≠ gb170)); have n6_ := Aside0.mk ((by rw [hg]; exact Nat.ne_of_gt (blk_lt (g := gb169) (o := .cells #[.int .u64 a0_0, .int .u64 a0_1] 24 (0, 0)) (by (with_reducible repeat (first | refine blk_drewN ?_ _ | refine blk_drew ?_ | refine blk_alloc ?_ _)); exact BK169.out)) : gb170 ≠ gb169)); clear BK169; clear HB; have BK169 := n0_; have HB := n1_; have BK170 := n2_; have GW170 := n3_; have GE170 := n4_; have NB169_170 := n5_; have NB170_169 := n6_; clear n0_ n1_ n2_ n3_ n4_ n5_ n6_; clear hb hbox hg) | ((with_reducible refine gate_dst (N := 5) rfl ?_); refine box_event ?hg (N := 5) ?hd (cs := #[.int .u64 a2_0, .int .u64 a2_1]) (t := 24) ?hr ?_; (case hd => rfl); (case hg => rfl); (case hr => first | (go_simp; done) | (go_simp; rfl)); intro gb171 hg w8 hbox hb; have n0_ := Aside0.mk (blk_below (g := gb169) (o := .cells #[.int .u64 a0_0, .int .u64 a0_1] 24 (0, 0)) (by (with_reducible repeat (first | refine blk_drewN ?_ _ | refine blk_drew ?_ | refine blk_alloc ?_ _)); exact BK169.out) hb); have n1_ := Aside0.mk (blk_below (g := gb170) (o := .cells #[.int .u64 a1_0, .int .u64 a1_1] 24 (0, 0)) (by (with_reducible repeat (first | refine blk_drewN ?_ _ | refine blk_drew ?_ | refine blk_alloc ?_ _)); exact BK170.out) hb); have n2_ := Aside0.mk (below_step (by repeat (first | (with_reducible first | exact HB.out | apply below_alloc | apply pw_below_drewN | apply below_drew1 | refine below_set ?_ GE169.out | refine below_set ?_ GE170.out) | exact HB.out)) hb); have n3_ := Aside0.mk (hbox); have n4_ := Aside0.mk ((by rw [hg]; exact (below_size (by repeat (first | (with_reducible first | exact HB.out | apply below_alloc | apply pw_below_drewN | apply below_drew1 | refine below_set ?_ GE169.out | refine below_set ?_ GE170.out) | exact HB.out))) : w.heap.size ≤ gb171)); have n5_ := Aside0.mk ((by rw [hg]; exact (below_size (by repeat (first | (with_reducible first | exact HB.out | apply below_alloc | apply pw_below_drewN | apply below_drew1 | refine below_set ?_ GE169.out | refine below_set ?_ GE170.out) | exact HB.out))) : w.heap.size ≤ gb171)); have n6_ := Aside0.mk ((by rw [hg]; exact Nat.ne_of_lt (blk_lt (g := gb169) (o := .cells #[.int .u64 a0_0, .int .u64 a0_1] 24 (0, 0)) (by (with_reducible repeat (first | refine blk_drewN ?_ _ | refine blk_drew ?_ | refine blk_alloc ?_ _)); exact BK169.out)) : gb169 ≠ gb171)); have n7_ := Aside0.mk ((by rw [hg]; exact Nat.ne_of_gt (blk_lt (g := gb169) (o := .cells #[.int .u64 a0_0, .int .u64 a0_1] 24 (0, 0)) (by (with_reducible repeat (first | refine blk_drewN ?_ _ | refine blk_drew ?_ | refine blk_alloc ?_ _)); exact BK169.out)) : gb171 ≠ gb169)); have n8_ := Aside0.mk ((by rw [hg]; exact Nat.ne_of_lt (blk_lt (g := gb170) (o := .cells #[.int .u64 a1_0, .int .u64 a1_1] 24 (0, 0)) (by (with_reducible repeat (first | refine blk_drewN ?_ _ | refine blk_drew ?_ | refine blk_alloc ?_ _)); exact BK170.out)) : gb170 ≠ gb171)); have n9_ := Aside0.mk ((by rw [hg]; exact Nat.ne_of_gt (blk_lt (g := gb170) (o := .cells #[.int .u64 a1_0, .int .u64 a1_1] 24 (0, 0)) (by (with_reducible repeat (first | refine blk_drewN ?_ _ | refine blk_drew ?_ | refine blk_alloc ?_ _)); exact BK170.out)) : gb171 ≠ gb170)); clear BK169; clear BK170; clear HB; have BK169 := n0_; have BK170 := n1_; have HB := n2_; have BK171 := n3_; have GW171 := n4_; have GE171 := n5_; have NB169_171 := n6_; have NB171_169 := n7_; have NB170_171 := n8_; have NB171_170 := n9_; clear n0_ n1_ n2_ n3_ n4_ n5_ n6_ n7_ n8_ n9_; clear hb hbox hg) | ((with_reducible refine gate_callee (f := 9) rfl ?_); refine goesL_ (some 10) rfl rfl Try.func9 (by kernel_rfl) rfl #[] rfl (by (try simp only [List.map_toArray, List.map_cons, List.map_nil]); first | done | rfl | (simp only [List.length_drop, List.length_take]; rfl)) ?_; (with_reducible refine (catchwordlaw19_awake.calls k  t172 _ A4.out).mono ?_); rintro e w9 ⟨rfl, hb⟩; refine ⟨_, rfl, ?_⟩; have n0_ := Aside0.mk (blk_below (g := gb169) (o := .cells #[.int .u64 a0_0, .int .u64 a0_1] 24 (0, 0)) (by (with_reducible repeat (first | refine blk_drewN ?_ _ | refine blk_drew ?_ | refine blk_alloc ?_ _)); exact BK169.out) hb); have n1_ := Aside0.mk (blk_below (g := gb170) (o := .cells #[.int .u64 a1_0, .int .u64 a1_1] 24 (0, 0)) (by (with_reducible repeat (first | refine blk_drewN ?_ _ | refine blk_drew ?_ | refine blk_alloc ?_ _)); exact BK170.out) hb); have n2_ := Aside0.mk (blk_below (g := gb171) (o := .cells #[.int .u64 a2_0, .int .u64 a2_1] 24 (0, 0)) (by (with_reducible repeat (first | refine blk_drewN ?_ _ | refine blk_drew ?_ | refine blk_alloc ?_ _)); exact BK171.out) hb); have n3_ := Aside0.mk (below_step (by repeat (first | (with_reducible first | exact HB.out | apply below_alloc | apply pw_below_drewN | apply below_drew1 | refine below_set ?_ GE169.out | refine below_set ?_ GE170.out | refine below_set ?_ GE171.out) | exact HB.out)) hb); clear BK169; clear BK170; clear BK171; clear HB; have BK169 := n0_; have BK170 := n1_; have BK171 := n2_; have HB := n3_; clear n0_ n1_ n2_ n3_; (try clear hb); (try clear hb2); (try clear hk); (try clear hi)))
 (try simp only [Act.put, List.setIfInBounds_toArray, List.set_cons_zero, List.set_cons_succ])
 go_cut [27] (fun v27 wc => ∃ (kq : Nat) (x27_4 : Bool), v27 = .bool x27_4 ∧ Aside0 (catchwordlaw19_ScoreOrder.j0 kq t172 x27_4 a0_0 a0_1 a1_0 a1_1 a2_0 a2_1 = some r) ∧ Aside0 (kq ≤ k) ∧ Aside0 (wc.heap[gb169]? = some (.cells #[.int .u64 a0_0, .int .u64 a0_1] 24 (0, 0))) ∧ Aside0 (wc.heap[gb170]? = some (.cells #[.int .u64 a1_0, .int .u64 a1_1] 24 (0, 0))) ∧ Aside0 (wc.heap[gb171]? = some (.cells #[.int .u64 a2_0, .int .u64 a2_1] 24 (0, 0))) ∧ Aside0 (Below w.heap.size w wc))
 case first =>
  have H := HC5.out
  clear HC5
  by_cases c10 : t172 = true
  ·subst c10
   have H1 : ((score_May.f k a0_0 a0_1).bind fun t173 => (if t173 = true then ((score_May.f k a1_0 a1_1).bind fun t174 => (if t174 = true then ((score_May.f k a2_0 a2_1).bind fun t175 => (catchwordlaw19_ScoreOrder.j0 k true (!t175) a0_0 a0_1 a1_0 a1_1 a2_0 a2_1)) else (catchwordlaw19_ScoreOrder.j0 k true true a0_0 a0_1 a1_0 a1_1 a2_0 a2_1))) else (catchwordlaw19_ScoreOrder.j0 k true true a0_0 a0_1 a1_0 a1_1 a2_0 a2_1))) = some r := by rw [if_pos rfl] at H; exact H
   clear H
   have H := H1
   clear H1
   replace H := Option.bind_eq_some_iff.mp H
   obtain ⟨t173, A110, H⟩ := H
   replace H : (if t173 = true then ((score_May.f k a1_0 a1_1).bind fun t174 => (if t174 = true then ((score_May.f k a2_0 a2_1).bind fun t175 => (catchwordlaw19_ScoreOrder.j0 k true (!t175) a0_0 a0_1 a1_0 a1_1 a2_0 a2_1)) else (catchwordlaw19_ScoreOrder.j0 k true true a0_0 a0_1 a1_0 a1_1 a2_0 a2_1))) else (catchwordlaw19_ScoreOrder.j0 k true true a0_0 a0_1 a1_0 a1_1 a2_0 a2_1)) = some r := H
   have A11 := Aside0.mk A110
   clear A110
   by_cases c12 : t173 = true
   ·subst c12
    have H1 : ((score_May.f k a1_0 a1_1).bind fun t174 => (if t174 = true then ((score_May.f k a2_0 a2_1).bind fun t175 => (catchwordlaw19_ScoreOrder.j0 k true (!t175) a0_0 a0_1 a1_0 a1_1 a2_0 a2_1)) else (catchwordlaw19_ScoreOrder.j0 k true true a0_0 a0_1 a1_0 a1_1 a2_0 a2_1))) = some r := by rw [if_pos rfl] at H; exact H
    clear H
    have H := H1
    clear H1
    replace H := Option.bind_eq_some_iff.mp H
    obtain ⟨t174, A130, H⟩ := H
    replace H : (if t174 = true then ((score_May.f k a2_0 a2_1).bind fun t175 => (catchwordlaw19_ScoreOrder.j0 k true (!t175) a0_0 a0_1 a1_0 a1_1 a2_0 a2_1)) else (catchwordlaw19_ScoreOrder.j0 k true true a0_0 a0_1 a1_0 a1_1 a2_0 a2_1)) = some r := H
    have A13 := Aside0.mk A130
    clear A130
    by_cases c14 : t174 = true
    ·subst c14
     have H1 : ((score_May.f k a2_0 a2_1).bind fun t175 => (catchwordlaw19_ScoreOrder.j0 k true (!t175) a0_0 a0_1 a1_0 a1_1 a2_0 a2_1)) = some r := by rw [if_pos rfl] at H; exact H
     clear H
     have H := H1
     clear H1
     replace H := Option.bind_eq_some_iff.mp H
     obtain ⟨t175, A150, H⟩ := H
     replace H : (catchwordlaw19_ScoreOrder.j0 k true (!t175) a0_0 a0_1 a1_0 a1_1 a2_0 a2_1) = some r := H
     have A15 := Aside0.mk A150
     clear A150
     have H' := Aside0.mk H
     clear H
     have hnb16 := NB169_170.out
     have hnc16 := NB170_169.out
     have hnb17 := NB169_171.out
     have hnc17 := NB171_169.out
     have hcz18_0 : w9.cell? ⟨gb169, 0, none⟩ = some (.int .u64 a0_0) := (blk_cell BK169.out 0).trans rfl
     have hcz18_1 : w9.cell? ⟨gb169, 1, none⟩ = some (.int .u64 a0_1) := (blk_cell BK169.out 1).trans rfl
     have hfz18_0 := blk_frozen BK169.out 0
     have hfz18_1 := blk_frozen BK169.out 1
     go_wp2_with (first | (go_at_call 14; (with_reducible refine (score_May.calls k a0_0 a0_1 true _ A11.out).mono ?_); rintro e w19 ⟨rfl, hb⟩; have n0_ := Aside0.mk (blk_below (g := gb169) (o := .cells #[.int .u64 a0_0, .int .u64 a0_1] 24 (0, 0)) (by (with_reducible repeat (first | refine blk_drewN ?_ _ | refine blk_drew ?_ | refine blk_alloc ?_ _)); exact BK169.out) hb); have n1_ := Aside0.mk (blk_below (g := gb170) (o := .cells #[.int .u64 a1_0, .int .u64 a1_1] 24 (0, 0)) (by (with_reducible repeat (first | refine blk_drewN ?_ _ | refine blk_drew ?_ | refine blk_alloc ?_ _)); exact BK170.out) hb); have n2_ := Aside0.mk (blk_below (g := gb171) (o := .cells #[.int .u64 a2_0, .int .u64 a2_1] 24 (0, 0)) (by (with_reducible repeat (first | refine blk_drewN ?_ _ | refine blk_drew ?_ | refine blk_alloc ?_ _)); exact BK171.out) hb); have n3_ := Aside0.mk (below_step (by repeat (first | (with_reducible first | exact HB.out | apply below_alloc | apply pw_below_drewN | apply below_drew1 | refine below_set ?_ GE169.out | refine below_set ?_ GE170.out | refine below_set ?_ GE171.out) | exact HB.out)) hb); clear BK169; clear BK170; clear BK171; clear HB; have BK169 := n0_; have BK170 := n1_; have BK171 := n2_; have HB := n3_; clear n0_ n1_ n2_ n3_; (try clear hb); (try clear hb2); (try clear hk); (try clear hi); have hnb20 := NB170_171.out; have hnc20 := NB171_170.out; have hcz21_0 : w19.cell? ⟨gb170, 0, none⟩ = some (.int .u64 a1_0) := (blk_cell BK170.out 0).trans rfl; have hcz21_1 : w19.cell? ⟨gb170, 1, none⟩ = some (.int .u64 a1_1) := (blk_cell BK170.out 1).trans rfl; have hfz21_0 := blk_frozen BK170.out 0; have hfz21_1 := blk_frozen BK170.out 1) | (go_at_call 14; (with_reducible refine (score_May.calls k a1_0 a1_1 true _ A13.out).mono ?_); rintro e w22 ⟨rfl, hb⟩; have n0_ := Aside0.mk (blk_below (g := gb169) (o := .cells #[.int .u64 a0_0, .int .u64 a0_1] 24 (0, 0)) (by (with_reducible repeat (first | refine blk_drewN ?_ _ | refine blk_drew ?_ | refine blk_alloc ?_ _)); exact BK169.out) hb); have n1_ := Aside0.mk (blk_below (g := gb170) (o := .cells #[.int .u64 a1_0, .int .u64 a1_1] 24 (0, 0)) (by (with_reducible repeat (first | refine blk_drewN ?_ _ | refine blk_drew ?_ | refine blk_alloc ?_ _)); exact BK170.out) hb); have n2_ := Aside0.mk (blk_below (g := gb171) (o := .cells #[.int .u64 a2_0, .int .u64 a2_1] 24 (0, 0)) (by (with_reducible repeat (first | refine blk_drewN ?_ _ | refine blk_drew ?_ | refine blk_alloc ?_ _)); exact BK171.out) hb); have n3_ := Aside0.mk (below_step (by repeat (first | (with_reducible first | exact HB.out | apply below_alloc | apply pw_below_drewN | apply below_drew1 | refine below_set ?_ GE169.out | refine below_set ?_ GE170.out | refine below_set ?_ GE171.out) | exact HB.out)) hb); clear BK169; clear BK170; clear BK171; clear HB; have BK169 := n0_; have BK170 := n1_; have BK171 := n2_; have HB := n3_; clear n0_ n1_ n2_ n3_; (try clear hb); (try clear hb2); (try clear hk); (try clear hi); have hcz23_0 : w22.cell? ⟨gb171, 0, none⟩ = some (.int .u64 a2_0) := (blk_cell BK171.out 0).trans rfl; have hcz23_1 : w22.cell? ⟨gb171, 1, none⟩ = some (.int .u64 a2_1) := (blk_cell BK171.out 1).trans rfl; have hfz23_0 := blk_frozen BK171.out 0; have hfz23_1 := blk_frozen BK171.out 1) | (go_at_call 14; (with_reducible refine (score_May.calls k a2_0 a2_1 t175 _ A15.out).mono ?_); rintro e w24 ⟨rfl, hb⟩; have n0_ := Aside0.mk (blk_below (g := gb169) (o := .cells #[.int .u64 a0_0, .int .u64 a0_1] 24 (0, 0)) (by (with_reducible repeat (first | refine blk_drewN ?_ _ | refine blk_drew ?_ | refine blk_alloc ?_ _)); exact BK169.out) hb); have n1_ := Aside0.mk (blk_below (g := gb170) (o := .cells #[.int .u64 a1_0, .int .u64 a1_1] 24 (0, 0)) (by (with_reducible repeat (first | refine blk_drewN ?_ _ | refine blk_drew ?_ | refine blk_alloc ?_ _)); exact BK170.out) hb); have n2_ := Aside0.mk (blk_below (g := gb171) (o := .cells #[.int .u64 a2_0, .int .u64 a2_1] 24 (0, 0)) (by (with_reducible repeat (first | refine blk_drewN ?_ _ | refine blk_drew ?_ | refine blk_alloc ?_ _)); exact BK171.out) hb); have n3_ := Aside0.mk (below_step (by repeat (first | (with_reducible first | exact HB.out | apply below_alloc | apply pw_below_drewN | apply below_drew1 | refine below_set ?_ GE169.out | refine below_set ?_ GE170.out | refine below_set ?_ GE171.out) | exact HB.out)) hb); clear BK169; clear BK170; clear BK171; clear HB; have BK169 := n0_; have BK170 := n1_; have BK171 := n2_; have HB := n3_; clear n0_ n1_ n2_ n3_; (try clear hb); (try clear hb2); (try clear hk); (try clear hi)))
     go_meet
     case rel => exact ⟨_, (!t175), (by first | rfl | (simp; done) | (simp [*]; done)), H', ⟨by first | omega | exact Nat.le_refl _⟩, ⟨by (with_reducible repeat (first | refine blk_drewN ?_ _ | refine blk_drew ?_ | refine blk_alloc ?_ _)); exact BK169.out⟩, ⟨by (with_reducible repeat (first | refine blk_drewN ?_ _ | refine blk_drew ?_ | refine blk_alloc ?_ _)); exact BK170.out⟩, ⟨by (with_reducible repeat (first | refine blk_drewN ?_ _ | refine blk_drew ?_ | refine blk_alloc ?_ _)); exact BK171.out⟩, ⟨by repeat (first | (with_reducible first | exact HB.out | apply below_alloc | apply pw_below_drewN | apply below_drew1 | refine below_set ?_ GE169.out | refine below_set ?_ GE170.out | refine below_set ?_ GE171.out) | exact HB.out)⟩⟩
    ·replace c14 := Bool.eq_false_iff.mpr c14
     subst c14
     have H1 : (catchwordlaw19_ScoreOrder.j0 k true true a0_0 a0_1 a1_0 a1_1 a2_0 a2_1) = some r := by rw [if_neg (show ¬ (false = true) by decide)] at H; exact H
     clear H
     have H := H1
     clear H1
     have H' := Aside0.mk H
     clear H
     have hnb25 := NB169_170.out
     have hnc25 := NB170_169.out
     have hnb26 := NB169_171.out
     have hnc26 := NB171_169.out
     have hcz27_0 : w9.cell? ⟨gb169, 0, none⟩ = some (.int .u64 a0_0) := (blk_cell BK169.out 0).trans rfl
     have hcz27_1 : w9.cell? ⟨gb169, 1, none⟩ = some (.int .u64 a0_1) := (blk_cell BK169.out 1).trans rfl
     have hfz27_0 := blk_frozen BK169.out 0
     have hfz27_1 := blk_frozen BK169.out 1
     go_wp2_with (first | (go_at_call 14; (with_reducible refine (score_May.calls k a0_0 a0_1 true _ A11.out).mono ?_); rintro e w28 ⟨rfl, hb⟩; have n0_ := Aside0.mk (blk_below (g := gb169) (o := .cells #[.int .u64 a0_0, .int .u64 a0_1] 24 (0, 0)) (by (with_reducible repeat (first | refine blk_drewN ?_ _ | refine blk_drew ?_ | refine blk_alloc ?_ _)); exact BK169.out) hb); have n1_ := Aside0.mk (blk_below (g := gb170) (o := .cells #[.int .u64 a1_0, .int .u64 a1_1] 24 (0, 0)) (by (with_reducible repeat (first | refine blk_drewN ?_ _ | refine blk_drew ?_ | refine blk_alloc ?_ _)); exact BK170.out) hb); have n2_ := Aside0.mk (blk_below (g := gb171) (o := .cells #[.int .u64 a2_0, .int .u64 a2_1] 24 (0, 0)) (by (with_reducible repeat (first | refine blk_drewN ?_ _ | refine blk_drew ?_ | refine blk_alloc ?_ _)); exact BK171.out) hb); have n3_ := Aside0.mk (below_step (by repeat (first | (with_reducible first | exact HB.out | apply below_alloc | apply pw_below_drewN | apply below_drew1 | refine below_set ?_ GE169.out | refine below_set ?_ GE170.out | refine below_set ?_ GE171.out) | exact HB.out)) hb); clear BK169; clear BK170; clear BK171; clear HB; have BK169 := n0_; have BK170 := n1_; have BK171 := n2_; have HB := n3_; clear n0_ n1_ n2_ n3_; (try clear hb); (try clear hb2); (try clear hk); (try clear hi); have hnb29 := NB170_171.out; have hnc29 := NB171_170.out; have hcz30_0 : w28.cell? ⟨gb170, 0, none⟩ = some (.int .u64 a1_0) := (blk_cell BK170.out 0).trans rfl; have hcz30_1 : w28.cell? ⟨gb170, 1, none⟩ = some (.int .u64 a1_1) := (blk_cell BK170.out 1).trans rfl; have hfz30_0 := blk_frozen BK170.out 0; have hfz30_1 := blk_frozen BK170.out 1) | (go_at_call 14; (with_reducible refine (score_May.calls k a1_0 a1_1 false _ A13.out).mono ?_); rintro e w31 ⟨rfl, hb⟩; have n0_ := Aside0.mk (blk_below (g := gb169) (o := .cells #[.int .u64 a0_0, .int .u64 a0_1] 24 (0, 0)) (by (with_reducible repeat (first | refine blk_drewN ?_ _ | refine blk_drew ?_ | refine blk_alloc ?_ _)); exact BK169.out) hb); have n1_ := Aside0.mk (blk_below (g := gb170) (o := .cells #[.int .u64 a1_0, .int .u64 a1_1] 24 (0, 0)) (by (with_reducible repeat (first | refine blk_drewN ?_ _ | refine blk_drew ?_ | refine blk_alloc ?_ _)); exact BK170.out) hb); have n2_ := Aside0.mk (blk_below (g := gb171) (o := .cells #[.int .u64 a2_0, .int .u64 a2_1] 24 (0, 0)) (by (with_reducible repeat (first | refine blk_drewN ?_ _ | refine blk_drew ?_ | refine blk_alloc ?_ _)); exact BK171.out) hb); have n3_ := Aside0.mk (below_step (by repeat (first | (with_reducible first | exact HB.out | apply below_alloc | apply pw_below_drewN | apply below_drew1 | refine below_set ?_ GE169.out | refine below_set ?_ GE170.out | refine below_set ?_ GE171.out) | exact HB.out)) hb); clear BK169; clear BK170; clear BK171; clear HB; have BK169 := n0_; have BK170 := n1_; have BK171 := n2_; have HB := n3_; clear n0_ n1_ n2_ n3_; (try clear hb); (try clear hb2); (try clear hk); (try clear hi)))
     go_meet
     case rel => exact ⟨_, (true), (by first | rfl | (simp; done) | (simp [*]; done)), H', ⟨by first | omega | exact Nat.le_refl _⟩, ⟨by (with_reducible repeat (first | refine blk_drewN ?_ _ | refine blk_drew ?_ | refine blk_alloc ?_ _)); exact BK169.out⟩, ⟨by (with_reducible repeat (first | refine blk_drewN ?_ _ | refine blk_drew ?_ | refine blk_alloc ?_ _)); exact BK170.out⟩, ⟨by (with_reducible repeat (first | refine blk_drewN ?_ _ | refine blk_drew ?_ | refine blk_alloc ?_ _)); exact BK171.out⟩, ⟨by repeat (first | (with_reducible first | exact HB.out | apply below_alloc | apply pw_below_drewN | apply below_drew1 | refine below_set ?_ GE169.out | refine below_set ?_ GE170.out | refine below_set ?_ GE171.out) | exact HB.out)⟩⟩
   ·replace c12 := Bool.eq_false_iff.mpr c12
    subst c12
    have H1 : (catchwordlaw19_ScoreOrder.j0 k true true a0_0 a0_1 a1_0 a1_1 a2_0 a2_1) = some r := by rw [if_neg (show ¬ (false = true) by decide)] at H; exact H
    clear H
    have H := H1
    clear H1
    have H' := Aside0.mk H
    clear H
    have hnb32 := NB169_170.out
    have hnc32 := NB170_169.out
    have hnb33 := NB169_171.out
    have hnc33 := NB171_169.out
    have hcz34_0 : w9.cell? ⟨gb169, 0, none⟩ = some (.int .u64 a0_0) := (blk_cell BK169.out 0).trans rfl
    have hcz34_1 : w9.cell? ⟨gb169, 1, none⟩ = some (.int .u64 a0_1) := (blk_cell BK169.out 1).trans rfl
    have hfz34_0 := blk_frozen BK169.out 0
    have hfz34_1 := blk_frozen BK169.out 1
    go_wp2_with (first | (go_at_call 14; (with_reducible refine (score_May.calls k a0_0 a0_1 false _ A11.out).mono ?_); rintro e w35 ⟨rfl, hb⟩; have n0_ := Aside0.mk (blk_below (g := gb169) (o := .cells #[.int .u64 a0_0, .int .u64 a0_1] 24 (0, 0)) (by (with_reducible repeat (first | refine blk_drewN ?_ _ | refine blk_drew ?_ | refine blk_alloc ?_ _)); exact BK169.out) hb); have n1_ := Aside0.mk (blk_below (g := gb170) (o := .cells #[.int .u64 a1_0, .int .u64 a1_1] 24 (0, 0)) (by (with_reducible repeat (first | refine blk_drewN ?_ _ | refine blk_drew ?_ | refine blk_alloc ?_ _)); exact BK170.out) hb); have n2_ := Aside0.mk (blk_below (g := gb171) (o := .cells #[.int .u64 a2_0, .int .u64 a2_1] 24 (0, 0)) (by (with_reducible repeat (first | refine blk_drewN ?_ _ | refine blk_drew ?_ | refine blk_alloc ?_ _)); exact BK171.out) hb); have n3_ := Aside0.mk (below_step (by repeat (first | (with_reducible first | exact HB.out | apply below_alloc | apply pw_below_drewN | apply below_drew1 | refine below_set ?_ GE169.out | refine below_set ?_ GE170.out | refine below_set ?_ GE171.out) | exact HB.out)) hb); clear BK169; clear BK170; clear BK171; clear HB; have BK169 := n0_; have BK170 := n1_; have BK171 := n2_; have HB := n3_; clear n0_ n1_ n2_ n3_; (try clear hb); (try clear hb2); (try clear hk); (try clear hi)))
    go_meet
    case rel => exact ⟨_, (true), (by first | rfl | (simp; done) | (simp [*]; done)), H', ⟨by first | omega | exact Nat.le_refl _⟩, ⟨by (with_reducible repeat (first | refine blk_drewN ?_ _ | refine blk_drew ?_ | refine blk_alloc ?_ _)); exact BK169.out⟩, ⟨by (with_reducible repeat (first | refine blk_drewN ?_ _ | refine blk_drew ?_ | refine blk_alloc ?_ _)); exact BK170.out⟩, ⟨by (with_reducible repeat (first | refine blk_drewN ?_ _ | refine blk_drew ?_ | refine blk_alloc ?_ _)); exact BK171.out⟩, ⟨by repeat (first | (with_reducible first | exact HB.out | apply below_alloc | apply pw_below_drewN | apply below_drew1 | refine below_set ?_ GE169.out | refine below_set ?_ GE170.out | refine below_set ?_ GE171.out) | exact HB.out)⟩⟩
  ·replace c10 := Bool.eq_false_iff.mpr c10
   subst c10
   have H1 : (catchwordlaw19_ScoreOrder.j0 k false true a0_0 a0_1 a1_0 a1_1 a2_0 a2_1) = some r := by rw [if_neg (show ¬ (false = true) by decide)] at H; exact H
   clear H
   have H := H1
   clear H1
   have H' := Aside0.mk H
   clear H
   go_wp2
   go_meet
   case rel => exact ⟨_, (true), (by first | rfl | (simp; done) | (simp [*]; done)), H', ⟨by first | omega | exact Nat.le_refl _⟩, ⟨by (with_reducible repeat (first | refine blk_drewN ?_ _ | refine blk_drew ?_ | refine blk_alloc ?_ _)); exact BK169.out⟩, ⟨by (with_reducible repeat (first | refine blk_drewN ?_ _ | refine blk_drew ?_ | refine blk_alloc ?_ _)); exact BK170.out⟩, ⟨by (with_reducible repeat (first | refine blk_drewN ?_ _ | refine blk_drew ?_ | refine blk_alloc ?_ _)); exact BK171.out⟩, ⟨by repeat (first | (with_reducible first | exact HB.out | apply below_alloc | apply pw_below_drewN | apply below_drew1 | refine below_set ?_ GE169.out | refine below_set ?_ GE170.out | refine below_set ?_ GE171.out) | exact HB.out)⟩⟩
 case rest =>
  clear HC5
  try clear c1
  try clear c2
  try clear p2
  try clear c3
  try clear c5
  try clear c9
  try clear c10
  try clear c12
  try clear c14
  try clear c16
  try clear c17
  try clear c20
  try clear c25
  try clear c26
  try clear c29
  try clear c32
  try clear c33
  try clear hcz18_0
  try clear hcz18_1
  try clear hcz21_0
  try clear hcz21_1
  try clear hcz23_0
  try clear hcz23_1
  try clear hcz27_0
  try clear hcz27_1
  try clear hcz30_0
  try clear hcz30_1
  try clear hcz34_0
  try clear hcz34_1
  try clear hfz18_0
  try clear hfz18_1
  try clear hfz21_0
  try clear hfz21_1
  try clear hfz23_0
  try clear hfz23_1
  try clear hfz27_0
  try clear hfz27_1
  try clear hfz30_0
  try clear hfz30_1
  try clear hfz34_0
  try clear hfz34_1
  obtain ⟨kq, x27_4, rfl, HA, HJ4, BK169, BK170, BK171, HB⟩ := hcut
  cases kq with
  | zero => exact absurd HA.out (by simp [catchwordlaw19_ScoreOrder.j0])
  | succ kj4 =>
   have H := HA.out
   clear HA
   simp only [catchwordlaw19_ScoreOrder.j0] at H
   by_cases c36 : x27_4 = true
   ·subst c36
    have H1 : (some t172) = some r := by rw [if_pos rfl] at H; exact H
    clear H
    have H := H1
    clear H1
    obtain rfl := Option.some.inj H
    go_wp2
    go_ret
    exact ⟨by first | rfl | (simp [errW_none, errW_some] <;> rfl) | (simp [*, errW_none, errW_some] <;> rfl), by repeat (first | (with_reducible first | exact HB.out | apply below_alloc | apply pw_below_drewN | apply below_drew1 | refine below_set ?_ GE169.out | refine below_set ?_ GE170.out | refine below_set ?_ GE171.out) | exact HB.out)⟩
   ·replace c36 := Bool.eq_false_iff.mpr c36
    subst c36
    have H1 : ((score_Less.f kj4 a0_0 a0_1 a1_0 a1_1).bind fun t176 => ((score_Less.f kj4 a1_0 a1_1 a0_0 a0_1).bind fun t177 => (if t176 = true then (if (true == (!(a0_0 == a1_0) || (!(a0_1 == a1_1)))) = true then (if t177 = true then (catchwordlaw19_ScoreOrder.j1 kj4 false) else ((score_Less.f kj4 a1_0 a1_1 a2_0 a2_1).bind fun t178 => (if t178 = true then ((score_Less.f kj4 a0_0 a0_1 a2_0 a2_1).bind fun t179 => (catchwordlaw19_ScoreOrder.j1 kj4 t179)) else (catchwordlaw19_ScoreOrder.j1 kj4 true)))) else (catchwordlaw19_ScoreOrder.j1 kj4 false)) else (if (t177 == (!(a0_0 == a1_0) || (!(a0_1 == a1_1)))) = true then (catchwordlaw19_ScoreOrder.j1 kj4 true) else (catchwordlaw19_ScoreOrder.j1 kj4 false))))) = some r := by rw [if_neg (show ¬ (false = true) by decide)] at H; exact H
    clear H
    have H := H1
    clear H1
    replace H := Option.bind_eq_some_iff.mp H
    obtain ⟨t176, A370, H⟩ := H
    replace H : ((score_Less.f kj4 a1_0 a1_1 a0_0 a0_1).bind fun t177 => (if t176 = true then (if (true == (!(a0_0 == a1_0) || (!(a0_1 == a1_1)))) = true then (if t177 = true then (catchwordlaw19_ScoreOrder.j1 kj4 false) else ((score_Less.f kj4 a1_0 a1_1 a2_0 a2_1).bind fun t178 => (if t178 = true then ((score_Less.f kj4 a0_0 a0_1 a2_0 a2_1).bind fun t179 => (catchwordlaw19_ScoreOrder.j1 kj4 t179)) else (catchwordlaw19_ScoreOrder.j1 kj4 true)))) else (catchwordlaw19_ScoreOrder.j1 kj4 false)) else (if (t177 == (!(a0_0 == a1_0) || (!(a0_1 == a1_1)))) = true then (catchwordlaw19_ScoreOrder.j1 kj4 true) else (catchwordlaw19_ScoreOrder.j1 kj4 false)))) = some r := H
    have A37 := Aside0.mk A370
    clear A370
    replace H := Option.bind_eq_some_iff.mp H
    obtain ⟨t177, A380, H⟩ := H
    replace H : (if t176 = true then (if (true == (!(a0_0 == a1_0) || (!(a0_1 == a1_1)))) = true then (if t177 = true then (catchwordlaw19_ScoreOrder.j1 kj4 false) else ((score_Less.f kj4 a1_0 a1_1 a2_0 a2_1).bind fun t178 => (if t178 = true then ((score_Less.f kj4 a0_0 a0_1 a2_0 a2_1).bind fun t179 => (catchwordlaw19_ScoreOrder.j1 kj4 t179)) else (catchwordlaw19_ScoreOrder.j1 kj4 true)))) else (catchwordlaw19_ScoreOrder.j1 kj4 false)) else (if (t177 == (!(a0_0 == a1_0) || (!(a0_1 == a1_1)))) = true then (catchwordlaw19_ScoreOrder.j1 kj4 true) else (catchwordlaw19_ScoreOrder.j1 kj4 false))) = some r := H
    have A38 := Aside0.mk A380
    clear A380
    have HC39 := Aside0.mk H
    clear H
    have hnb40 := NB169_170.out
    have hnc40 := NB170_169.out
    have hnb41 := NB169_171.out
    have hnc41 := NB171_169.out
    have hcz42_0 : wc.cell? ⟨gb169, 0, none⟩ = some (.int .u64 a0_0) := (blk_cell BK169.out 0).trans rfl
    have hcz42_1 : wc.cell? ⟨gb169, 1, none⟩ = some (.int .u64 a0_1) := (blk_cell BK169.out 1).trans rfl
    have hfz42_0 := blk_frozen BK169.out 0
    have hfz42_1 := blk_frozen BK169.out 1
    have hnb43 := NB170_171.out
    have hnc43 := NB171_170.out
    have hcz44_0 : wc.cell? ⟨gb170, 0, none⟩ = some (.int .u64 a1_0) := (blk_cell BK170.out 0).trans rfl
    have hcz44_1 : wc.cell? ⟨gb170, 1, none⟩ = some (.int .u64 a1_1) := (blk_cell BK170.out 1).trans rfl
    have hfz44_0 := blk_frozen BK170.out 0
    have hfz44_1 := blk_frozen BK170.out 1
    go_upto_region 6 with (first | ((with_reducible refine gate_callee (f := 16) rfl ?_); refine goesL_ (some 31) rfl rfl Try.func16 (by kernel_rfl) rfl #[.agg #[.int .u64 a0_0, .int .u64 a0_1], .agg #[.int .u64 a1_0, .int .u64 a1_1]] rfl (by (try simp only [List.map_toArray, List.map_cons, List.map_nil]); first | done | rfl | (simp only [List.length_drop, List.length_take]; rfl)) ?_; (with_reducible refine (score_Less.calls kj4 a0_0 a0_1 a1_0 a1_1 t176 _ A37.out).mono ?_); rintro e w45 ⟨rfl, hb⟩; refine ⟨_, rfl, ?_⟩; have n0_ := Aside0.mk (blk_below (g := gb169) (o := .cells #[.int .u64 a0_0, .int .u64 a0_1] 24 (0, 0)) (by (with_reducible repeat (first | refine blk_drewN ?_ _ | refine blk_drew ?_ | refine blk_alloc ?_ _)); exact BK169.out) hb); have n1_ := Aside0.mk (blk_below (g := gb170) (o := .cells #[.int .u64 a1_0, .int .u64 a1_1] 24 (0, 0)) (by (with_reducible repeat (first | refine blk_drewN ?_ _ | refine blk_drew ?_ | refine blk_alloc ?_ _)); exact BK170.out) hb); have n2_ := Aside0.mk (blk_below (g := gb171) (o := .cells #[.int .u64 a2_0, .int .u64 a2_1] 24 (0, 0)) (by (with_reducible repeat (first | refine blk_drewN ?_ _ | refine blk_drew ?_ | refine blk_alloc ?_ _)); exact BK171.out) hb); have n3_ := Aside0.mk (below_step (by repeat (first | (with_reducible first | exact HB.out | apply below_alloc | apply pw_below_drewN | apply below_drew1 | refine below_set ?_ GE169.out | refine below_set ?_ GE170.out | refine below_set ?_ GE171.out) | exact HB.out)) hb); clear BK169; clear BK170; clear BK171; clear HB; have BK169 := n0_; have BK170 := n1_; have BK171 := n2_; have HB := n3_; clear n0_ n1_ n2_ n3_; (try clear hb); (try clear hb2); (try clear hk); (try clear hi); have hcz46_0 : w45.cell? ⟨gb170, 0, none⟩ = some (.int .u64 a1_0) := (blk_cell BK170.out 0).trans rfl; have hcz46_1 : w45.cell? ⟨gb170, 1, none⟩ = some (.int .u64 a1_1) := (blk_cell BK170.out 1).trans rfl; have hfz46_0 := blk_frozen BK170.out 0; have hfz46_1 := blk_frozen BK170.out 1; have hcz47_0 : w45.cell? ⟨gb169, 0, none⟩ = some (.int .u64 a0_0) := (blk_cell BK169.out 0).trans rfl; have hcz47_1 : w45.cell? ⟨gb169, 1, none⟩ = some (.int .u64 a0_1) := (blk_cell BK169.out 1).trans rfl; have hfz47_0 := blk_frozen BK169.out 0; have hfz47_1 := blk_frozen BK169.out 1) | ((with_reducible refine gate_callee (f := 16) rfl ?_); refine goesL_ (some 34) rfl rfl Try.func16 (by kernel_rfl) rfl #[.agg #[.int .u64 a1_0, .int .u64 a1_1], .agg #[.int .u64 a0_0, .int .u64 a0_1]] rfl (by (try simp only [List.map_toArray, List.map_cons, List.map_nil]); first | done | rfl | (simp only [List.length_drop, List.length_take]; rfl)) ?_; (with_reducible refine (score_Less.calls kj4 a1_0 a1_1 a0_0 a0_1 t177 _ A38.out).mono ?_); rintro e w48 ⟨rfl, hb⟩; refine ⟨_, rfl, ?_⟩; have n0_ := Aside0.mk (blk_below (g := gb169) (o := .cells #[.int .u64 a0_0, .int .u64 a0_1] 24 (0, 0)) (by (with_reducible repeat (first | refine blk_drewN ?_ _ | refine blk_drew ?_ | refine blk_alloc ?_ _)); exact BK169.out) hb); have n1_ := Aside0.mk (blk_below (g := gb170) (o := .cells #[.int .u64 a1_0, .int .u64 a1_1] 24 (0, 0)) (by (with_reducible repeat (first | refine blk_drewN ?_ _ | refine blk_drew ?_ | refine blk_alloc ?_ _)); exact BK170.out) hb); have n2_ := Aside0.mk (blk_below (g := gb171) (o := .cells #[.int .u64 a2_0, .int .u64 a2_1] 24 (0, 0)) (by (with_reducible repeat (first | refine blk_drewN ?_ _ | refine blk_drew ?_ | refine blk_alloc ?_ _)); exact BK171.out) hb); have n3_ := Aside0.mk (below_step (by repeat (first | (with_reducible first | exact HB.out | apply below_alloc | apply pw_below_drewN | apply below_drew1 | refine below_set ?_ GE169.out | refine below_set ?_ GE170.out | refine below_set ?_ GE171.out) | exact HB.out)) hb); clear BK169; clear BK170; clear BK171; clear HB; have BK169 := n0_; have BK170 := n1_; have BK171 := n2_; have HB := n3_; clear n0_ n1_ n2_ n3_; (try clear hb); (try clear hb2); (try clear hk); (try clear hi)))
    (try simp only [Act.put, List.setIfInBounds_toArray, List.set_cons_zero, List.set_cons_succ])
    go_cut [6] (fun v6 wc => ∃ (kq : Nat) (x6_38 : Bool), v6 = .bool x6_38 ∧ Aside0 (catchwordlaw19_ScoreOrder.j1 kq x6_38 = some r) ∧ Aside0 (kq ≤ kj4) ∧ Aside0 (wc.heap[gb169]? = some (.cells #[.int .u64 a0_0, .int .u64 a0_1] 24 (0, 0))) ∧ Aside0 (wc.heap[gb170]? = some (.cells #[.int .u64 a1_0, .int .u64 a1_1] 24 (0, 0))) ∧ Aside0 (wc.heap[gb171]? = some (.cells #[.int .u64 a2_0, .int .u64 a2_1] 24 (0, 0))) ∧ Aside0 (Below w.heap.size w wc))
    case first =>
     have H := HC39.out
     clear HC39
     by_cases c49 : t176 = true
     ·subst c49
      have H1 : (if (true == (!(a0_0 == a1_0) || (!(a0_1 == a1_1)))) = true then (if t177 = true then (catchwordlaw19_ScoreOrder.j1 kj4 false) else ((score_Less.f kj4 a1_0 a1_1 a2_0 a2_1).bind fun t178 => (if t178 = true then ((score_Less.f kj4 a0_0 a0_1 a2_0 a2_1).bind fun t179 => (catchwordlaw19_ScoreOrder.j1 kj4 t179)) else (catchwordlaw19_ScoreOrder.j1 kj4 true)))) else (catchwordlaw19_ScoreOrder.j1 kj4 false)) = some r := by rw [if_pos rfl] at H; exact H
      clear H
      have H := H1
      clear H1
      by_cases c50 : (true == (!(a0_0 == a1_0) || (!(a0_1 == a1_1)))) = true
      ·rw [if_pos c50] at H
       have c50b0 : (true == (!(a0_0 == a1_0) || (!(a0_1 == a1_1)))) = true := c50
       (try (have c50b1 : decide (true = (!(a0_0 == a1_0) || (!(a0_1 == a1_1)))) = true := by simpa using c50))
       (try (have c50b2 : (true == (!(a0_0 == a1_0) || (!(a0_1 == a1_1)))) = true := by simpa using c50))
       clear c50
       (first | rw [c50b0] | (simp only [i64_w, i32_w]; rw [c50b0]) | skip)
       by_cases c51 : t177 = true
       ·subst c51
        have H1 : (catchwordlaw19_ScoreOrder.j1 kj4 false) = some r := by rw [if_pos rfl] at H; exact H
        clear H
        have H := H1
        clear H1
        have H' := Aside0.mk H
        clear H
        have hnb52 := NB169_170.out
        have hnc52 := NB170_169.out
        have hnb53 := NB169_171.out
        have hnc53 := NB171_169.out
        have hcz54_0 : w48.cell? ⟨gb169, 0, none⟩ = some (.int .u64 a0_0) := (blk_cell BK169.out 0).trans rfl
        have hcz54_1 : w48.cell? ⟨gb169, 1, none⟩ = some (.int .u64 a0_1) := (blk_cell BK169.out 1).trans rfl
        have hfz54_0 := blk_frozen BK169.out 0
        have hfz54_1 := blk_frozen BK169.out 1
        have hnb55 := NB170_171.out
        have hnc55 := NB171_170.out
        have hcz56_0 : w48.cell? ⟨gb170, 0, none⟩ = some (.int .u64 a1_0) := (blk_cell BK170.out 0).trans rfl
        have hcz56_1 : w48.cell? ⟨gb170, 1, none⟩ = some (.int .u64 a1_1) := (blk_cell BK170.out 1).trans rfl
        have hfz56_0 := blk_frozen BK170.out 0
        have hfz56_1 := blk_frozen BK170.out 1
        go_wp2
        go_meet
        case rel => exact ⟨_, (false), (by first | rfl | (simp; done) | (simp [*]; done)), H', ⟨by have := HJ4.out; first | omega | exact Nat.le_refl _⟩, ⟨by (with_reducible repeat (first | refine blk_drewN ?_ _ | refine blk_drew ?_ | refine blk_alloc ?_ _)); exact BK169.out⟩, ⟨by (with_reducible repeat (first | refine blk_drewN ?_ _ | refine blk_drew ?_ | refine blk_alloc ?_ _)); exact BK170.out⟩, ⟨by (with_reducible repeat (first | refine blk_drewN ?_ _ | refine blk_drew ?_ | refine blk_alloc ?_ _)); exact BK171.out⟩, ⟨by repeat (first | (with_reducible first | exact HB.out | apply below_alloc | apply pw_below_drewN | apply below_drew1 | refine below_set ?_ GE169.out | refine below_set ?_ GE170.out | refine below_set ?_ GE171.out) | exact HB.out)⟩⟩
       ·replace c51 := Bool.eq_false_iff.mpr c51
        subst c51
        have H1 : ((score_Less.f kj4 a1_0 a1_1 a2_0 a2_1).bind fun t178 => (if t178 = true then ((score_Less.f kj4 a0_0 a0_1 a2_0 a2_1).bind fun t179 => (catchwordlaw19_ScoreOrder.j1 kj4 t179)) else (catchwordlaw19_ScoreOrder.j1 kj4 true))) = some r := by rw [if_neg (show ¬ (false = true) by decide)] at H; exact H
        clear H
        have H := H1
        clear H1
        replace H := Option.bind_eq_some_iff.mp H
        obtain ⟨t178, A570, H⟩ := H
        replace H : (if t178 = true then ((score_Less.f kj4 a0_0 a0_1 a2_0 a2_1).bind fun t179 => (catchwordlaw19_ScoreOrder.j1 kj4 t179)) else (catchwordlaw19_ScoreOrder.j1 kj4 true)) = some r := H
        have A57 := Aside0.mk A570
        clear A570
        by_cases c58 : t178 = true
        ·subst c58
         have H1 : ((score_Less.f kj4 a0_0 a0_1 a2_0 a2_1).bind fun t179 => (catchwordlaw19_ScoreOrder.j1 kj4 t179)) = some r := by rw [if_pos rfl] at H; exact H
         clear H
         have H := H1
         clear H1
         replace H := Option.bind_eq_some_iff.mp H
         obtain ⟨t179, A590, H⟩ := H
         replace H : (catchwordlaw19_ScoreOrder.j1 kj4 t179) = some r := H
         have A59 := Aside0.mk A590
         clear A590
         have H' := Aside0.mk H
         clear H
         have hnb60 := NB169_170.out
         have hnc60 := NB170_169.out
         have hnb61 := NB169_171.out
         have hnc61 := NB171_169.out
         have hcz62_0 : w48.cell? ⟨gb169, 0, none⟩ = some (.int .u64 a0_0) := (blk_cell BK169.out 0).trans rfl
         have hcz62_1 : w48.cell? ⟨gb169, 1, none⟩ = some (.int .u64 a0_1) := (blk_cell BK169.out 1).trans rfl
         have hfz62_0 := blk_frozen BK169.out 0
         have hfz62_1 := blk_frozen BK169.out 1
         have hnb63 := NB170_171.out
         have hnc63 := NB171_170.out
         have hcz64_0 : w48.cell? ⟨gb170, 0, none⟩ = some (.int .u64 a1_0) := (blk_cell BK170.out 0).trans rfl
         have hcz64_1 : w48.cell? ⟨gb170, 1, none⟩ = some (.int .u64 a1_1) := (blk_cell BK170.out 1).trans rfl
         have hfz64_0 := blk_frozen BK170.out 0
         have hfz64_1 := blk_frozen BK170.out 1
         have hcz65_0 : w48.cell? ⟨gb171, 0, none⟩ = some (.int .u64 a2_0) := (blk_cell BK171.out 0).trans rfl
         have hcz65_1 : w48.cell? ⟨gb171, 1, none⟩ = some (.int .u64 a2_1) := (blk_cell BK171.out 1).trans rfl
         have hfz65_0 := blk_frozen BK171.out 0
         have hfz65_1 := blk_frozen BK171.out 1
         go_wp2_with (first | (go_at_call 16; (with_reducible refine (score_Less.calls kj4 a1_0 a1_1 a2_0 a2_1 true _ A57.out).mono ?_); rintro e w66 ⟨rfl, hb⟩; have n0_ := Aside0.mk (blk_below (g := gb169) (o := .cells #[.int .u64 a0_0, .int .u64 a0_1] 24 (0, 0)) (by (with_reducible repeat (first | refine blk_drewN ?_ _ | refine blk_drew ?_ | refine blk_alloc ?_ _)); exact BK169.out) hb); have n1_ := Aside0.mk (blk_below (g := gb170) (o := .cells #[.int .u64 a1_0, .int .u64 a1_1] 24 (0, 0)) (by (with_reducible repeat (first | refine blk_drewN ?_ _ | refine blk_drew ?_ | refine blk_alloc ?_ _)); exact BK170.out) hb); have n2_ := Aside0.mk (blk_below (g := gb171) (o := .cells #[.int .u64 a2_0, .int .u64 a2_1] 24 (0, 0)) (by (with_reducible repeat (first | refine blk_drewN ?_ _ | refine blk_drew ?_ | refine blk_alloc ?_ _)); exact BK171.out) hb); have n3_ := Aside0.mk (below_step (by repeat (first | (with_reducible first | exact HB.out | apply below_alloc | apply pw_below_drewN | apply below_drew1 | refine below_set ?_ GE169.out | refine below_set ?_ GE170.out | refine below_set ?_ GE171.out) | exact HB.out)) hb); clear BK169; clear BK170; clear BK171; clear HB; have BK169 := n0_; have BK170 := n1_; have BK171 := n2_; have HB := n3_; clear n0_ n1_ n2_ n3_; (try clear hb); (try clear hb2); (try clear hk); (try clear hi); have hcz67_0 : w66.cell? ⟨gb169, 0, none⟩ = some (.int .u64 a0_0) := (blk_cell BK169.out 0).trans rfl; have hcz67_1 : w66.cell? ⟨gb169, 1, none⟩ = some (.int .u64 a0_1) := (blk_cell BK169.out 1).trans rfl; have hfz67_0 := blk_frozen BK169.out 0; have hfz67_1 := blk_frozen BK169.out 1; have hcz68_0 : w66.cell? ⟨gb171, 0, none⟩ = some (.int .u64 a2_0) := (blk_cell BK171.out 0).trans rfl; have hcz68_1 : w66.cell? ⟨gb171, 1, none⟩ = some (.int .u64 a2_1) := (blk_cell BK171.out 1).trans rfl; have hfz68_0 := blk_frozen BK171.out 0; have hfz68_1 := blk_frozen BK171.out 1) | (go_at_call 16; (with_reducible refine (score_Less.calls kj4 a0_0 a0_1 a2_0 a2_1 t179 _ A59.out).mono ?_); rintro e w69 ⟨rfl, hb⟩; have n0_ := Aside0.mk (blk_below (g := gb169) (o := .cells #[.int .u64 a0_0, .int .u64 a0_1] 24 (0, 0)) (by (with_reducible repeat (first | refine blk_drewN ?_ _ | refine blk_drew ?_ | refine blk_alloc ?_ _)); exact BK169.out) hb); have n1_ := Aside0.mk (blk_below (g := gb170) (o := .cells #[.int .u64 a1_0, .int .u64 a1_1] 24 (0, 0)) (by (with_reducible repeat (first | refine blk_drewN ?_ _ | refine blk_drew ?_ | refine blk_alloc ?_ _)); exact BK170.out) hb); have n2_ := Aside0.mk (blk_below (g := gb171) (o := .cells #[.int .u64 a2_0, .int .u64 a2_1] 24 (0, 0)) (by (with_reducible repeat (first | refine blk_drewN ?_ _ | refine blk_drew ?_ | refine blk_alloc ?_ _)); exact BK171.out) hb); have n3_ := Aside0.mk (below_step (by repeat (first | (with_reducible first | exact HB.out | apply below_alloc | apply pw_below_drewN | apply below_drew1 | refine below_set ?_ GE169.out | refine below_set ?_ GE170.out | refine below_set ?_ GE171.out) | exact HB.out)) hb); clear BK169; clear BK170; clear BK171; clear HB; have BK169 := n0_; have BK170 := n1_; have BK171 := n2_; have HB := n3_; clear n0_ n1_ n2_ n3_; (try clear hb); (try clear hb2); (try clear hk); (try clear hi)))
         go_meet
         case rel => exact ⟨_, (t179), (by first | rfl | (simp; done) | (simp [*]; done)), H', ⟨by have := HJ4.out; first | omega | exact Nat.le_refl _⟩, ⟨by (with_reducible repeat (first | refine blk_drewN ?_ _ | refine blk_drew ?_ | refine blk_alloc ?_ _)); exact BK169.out⟩, ⟨by (with_reducible repeat (first | refine blk_drewN ?_ _ | refine blk_drew ?_ | refine blk_alloc ?_ _)); exact BK170.out⟩, ⟨by (with_reducible repeat (first | refine blk_drewN ?_ _ | refine blk_drew ?_ | refine blk_alloc ?_ _)); exact BK171.out⟩, ⟨by repeat (first | (with_reducible first | exact HB.out | apply below_alloc | apply pw_below_drewN | apply below_drew1 | refine below_set ?_ GE169.out | refine below_set ?_ GE170.out | refine below_set ?_ GE171.out) | exact HB.out)⟩⟩
        ·replace c58 := Bool.eq_false_iff.mpr c58
         subst c58
         have H1 : (catchwordlaw19_ScoreOrder.j1 kj4 true) = some r := by rw [if_neg (show ¬ (false = true) by decide)] at H; exact H
         clear H
         have H := H1
         clear H1
         have H' := Aside0.mk H
         clear H
         have hnb70 := NB169_170.out
         have hnc70 := NB170_169.out
         have hnb71 := NB169_171.out
         have hnc71 := NB171_169.out
         have hcz72_0 : w48.cell? ⟨gb169, 0, none⟩ = some (.int .u64 a0_0) := (blk_cell BK169.out 0).trans rfl
         have hcz72_1 : w48.cell? ⟨gb169, 1, none⟩ = some (.int .u64 a0_1) := (blk_cell BK169.out 1).trans rfl
         have hfz72_0 := blk_frozen BK169.out 0
         have hfz72_1 := blk_frozen BK169.out 1
         have hnb73 := NB170_171.out
         have hnc73 := NB171_170.out
         have hcz74_0 : w48.cell? ⟨gb170, 0, none⟩ = some (.int .u64 a1_0) := (blk_cell BK170.out 0).trans rfl
         have hcz74_1 : w48.cell? ⟨gb170, 1, none⟩ = some (.int .u64 a1_1) := (blk_cell BK170.out 1).trans rfl
         have hfz74_0 := blk_frozen BK170.out 0
         have hfz74_1 := blk_frozen BK170.out 1
         have hcz75_0 : w48.cell? ⟨gb171, 0, none⟩ = some (.int .u64 a2_0) := (blk_cell BK171.out 0).trans rfl
         have hcz75_1 : w48.cell? ⟨gb171, 1, none⟩ = some (.int .u64 a2_1) := (blk_cell BK171.out 1).trans rfl
         have hfz75_0 := blk_frozen BK171.out 0
         have hfz75_1 := blk_frozen BK171.out 1
         go_wp2_with (first | (go_at_call 16; (with_reducible refine (score_Less.calls kj4 a1_0 a1_1 a2_0 a2_1 false _ A57.out).mono ?_); rintro e w76 ⟨rfl, hb⟩; have n0_ := Aside0.mk (blk_below (g := gb169) (o := .cells #[.int .u64 a0_0, .int .u64 a0_1] 24 (0, 0)) (by (with_reducible repeat (first | refine blk_drewN ?_ _ | refine blk_drew ?_ | refine blk_alloc ?_ _)); exact BK169.out) hb); have n1_ := Aside0.mk (blk_below (g := gb170) (o := .cells #[.int .u64 a1_0, .int .u64 a1_1] 24 (0, 0)) (by (with_reducible repeat (first | refine blk_drewN ?_ _ | refine blk_drew ?_ | refine blk_alloc ?_ _)); exact BK170.out) hb); have n2_ := Aside0.mk (blk_below (g := gb171) (o := .cells #[.int .u64 a2_0, .int .u64 a2_1] 24 (0, 0)) (by (with_reducible repeat (first | refine blk_drewN ?_ _ | refine blk_drew ?_ | refine blk_alloc ?_ _)); exact BK171.out) hb); have n3_ := Aside0.mk (below_step (by repeat (first | (with_reducible first | exact HB.out | apply below_alloc | apply pw_below_drewN | apply below_drew1 | refine below_set ?_ GE169.out | refine below_set ?_ GE170.out | refine below_set ?_ GE171.out) | exact HB.out)) hb); clear BK169; clear BK170; clear BK171; clear HB; have BK169 := n0_; have BK170 := n1_; have BK171 := n2_; have HB := n3_; clear n0_ n1_ n2_ n3_; (try clear hb); (try clear hb2); (try clear hk); (try clear hi)))
         go_meet
         case rel => exact ⟨_, (true), (by first | rfl | (simp; done) | (simp [*]; done)), H', ⟨by have := HJ4.out; first | omega | exact Nat.le_refl _⟩, ⟨by (with_reducible repeat (first | refine blk_drewN ?_ _ | refine blk_drew ?_ | refine blk_alloc ?_ _)); exact BK169.out⟩, ⟨by (with_reducible repeat (first | refine blk_drewN ?_ _ | refine blk_drew ?_ | refine blk_alloc ?_ _)); exact BK170.out⟩, ⟨by (with_reducible repeat (first | refine blk_drewN ?_ _ | refine blk_drew ?_ | refine blk_alloc ?_ _)); exact BK171.out⟩, ⟨by repeat (first | (with_reducible first | exact HB.out | apply below_alloc | apply pw_below_drewN | apply below_drew1 | refine below_set ?_ GE169.out | refine below_set ?_ GE170.out | refine below_set ?_ GE171.out) | exact HB.out)⟩⟩
      ·rw [if_neg c50] at H
       have c50b0 : (true == (!(a0_0 == a1_0) || (!(a0_1 == a1_1)))) = false := by simpa using c50
       (try (have c50b1 : decide (true = (!(a0_0 == a1_0) || (!(a0_1 == a1_1)))) = false := by simpa using c50))
       (try (have c50b2 : (true == (!(a0_0 == a1_0) || (!(a0_1 == a1_1)))) = false := by simpa using c50))
       (try (have c50b3 : ¬ (true = (!(a0_0 == a1_0) || (!(a0_1 == a1_1)))) := by simpa using c50))
       clear c50
       (first | rw [c50b0] | (simp only [i64_w, i32_w]; rw [c50b0]) | skip)
       have H' := Aside0.mk H
       clear H
       have hnb77 := NB169_170.out
       have hnc77 := NB170_169.out
       have hnb78 := NB169_171.out
       have hnc78 := NB171_169.out
       have hcz79_0 : w48.cell? ⟨gb169, 0, none⟩ = some (.int .u64 a0_0) := (blk_cell BK169.out 0).trans rfl
       have hcz79_1 : w48.cell? ⟨gb169, 1, none⟩ = some (.int .u64 a0_1) := (blk_cell BK169.out 1).trans rfl
       have hfz79_0 := blk_frozen BK169.out 0
       have hfz79_1 := blk_frozen BK169.out 1
       have hnb80 := NB170_171.out
       have hnc80 := NB171_170.out
       have hcz81_0 : w48.cell? ⟨gb170, 0, none⟩ = some (.int .u64 a1_0) := (blk_cell BK170.out 0).trans rfl
       have hcz81_1 : w48.cell? ⟨gb170, 1, none⟩ = some (.int .u64 a1_1) := (blk_cell BK170.out 1).trans rfl
       have hfz81_0 := blk_frozen BK170.out 0
       have hfz81_1 := blk_frozen BK170.out 1
       go_wp2
       go_meet
       case rel => exact ⟨_, (false), (by first | rfl | (simp; done) | (simp [*]; done)), H', ⟨by have := HJ4.out; first | omega | exact Nat.le_refl _⟩, ⟨by (with_reducible repeat (first | refine blk_drewN ?_ _ | refine blk_drew ?_ | refine blk_alloc ?_ _)); exact BK169.out⟩, ⟨by (with_reducible repeat (first | refine blk_drewN ?_ _ | refine blk_drew ?_ | refine blk_alloc ?_ _)); exact BK170.out⟩, ⟨by (with_reducible repeat (first | refine blk_drewN ?_ _ | refine blk_drew ?_ | refine blk_alloc ?_ _)); exact BK171.out⟩, ⟨by repeat (first | (with_reducible first | exact HB.out | apply below_alloc | apply pw_below_drewN | apply below_drew1 | refine below_set ?_ GE169.out | refine below_set ?_ GE170.out | refine below_set ?_ GE171.out) | exact HB.out)⟩⟩
     ·replace c49 := Bool.eq_false_iff.mpr c49
      subst c49
      have H1 : (if (t177 == (!(a0_0 == a1_0) || (!(a0_1 == a1_1)))) = true then (catchwordlaw19_ScoreOrder.j1 kj4 true) else (catchwordlaw19_ScoreOrder.j1 kj4 false)) = some r := by rw [if_neg (show ¬ (false = true) by decide)] at H; exact H
      clear H
      have H := H1
      clear H1
      by_cases c82 : (t177 == (!(a0_0 == a1_0) || (!(a0_1 == a1_1)))) = true
      ·rw [if_pos c82] at H
       have c82b0 : (t177 == (!(a0_0 == a1_0) || (!(a0_1 == a1_1)))) = true := c82
       (try (have c82b1 : decide (t177 = (!(a0_0 == a1_0) || (!(a0_1 == a1_1)))) = true := by simpa using c82))
       (try (have c82b2 : (t177 == (!(a0_0 == a1_0) || (!(a0_1 == a1_1)))) = true := by simpa using c82))
       clear c82
       have H' := Aside0.mk H
       clear H
       have hnb83 := NB169_170.out
       have hnc83 := NB170_169.out
       have hnb84 := NB169_171.out
       have hnc84 := NB171_169.out
       have hcz85_0 : w48.cell? ⟨gb169, 0, none⟩ = some (.int .u64 a0_0) := (blk_cell BK169.out 0).trans rfl
       have hcz85_1 : w48.cell? ⟨gb169, 1, none⟩ = some (.int .u64 a0_1) := (blk_cell BK169.out 1).trans rfl
       have hfz85_0 := blk_frozen BK169.out 0
       have hfz85_1 := blk_frozen BK169.out 1
       have hnb86 := NB170_171.out
       have hnc86 := NB171_170.out
       have hcz87_0 : w48.cell? ⟨gb170, 0, none⟩ = some (.int .u64 a1_0) := (blk_cell BK170.out 0).trans rfl
       have hcz87_1 : w48.cell? ⟨gb170, 1, none⟩ = some (.int .u64 a1_1) := (blk_cell BK170.out 1).trans rfl
       have hfz87_0 := blk_frozen BK170.out 0
       have hfz87_1 := blk_frozen BK170.out 1
       go_wp2
       go_meet
       case rel => exact ⟨_, (true), (by first | rfl | (simp; done) | (simp [*]; done)), H', ⟨by have := HJ4.out; first | omega | exact Nat.le_refl _⟩, ⟨by (with_reducible repeat (first | refine blk_drewN ?_ _ | refine blk_drew ?_ | refine blk_alloc ?_ _)); exact BK169.out⟩, ⟨by (with_reducible repeat (first | refine blk_drewN ?_ _ | refine blk_drew ?_ | refine blk_alloc ?_ _)); exact BK170.out⟩, ⟨by (with_reducible repeat (first | refine blk_drewN ?_ _ | refine blk_drew ?_ | refine blk_alloc ?_ _)); exact BK171.out⟩, ⟨by repeat (first | (with_reducible first | exact HB.out | apply below_alloc | apply pw_below_drewN | apply below_drew1 | refine below_set ?_ GE169.out | refine below_set ?_ GE170.out | refine below_set ?_ GE171.out) | exact HB.out)⟩⟩
      ·rw [if_neg c82] at H
       have c82b0 : (t177 == (!(a0_0 == a1_0) || (!(a0_1 == a1_1)))) = false := by simpa using c82
       (try (have c82b1 : decide (t177 = (!(a0_0 == a1_0) || (!(a0_1 == a1_1)))) = false := by simpa using c82))
       (try (have c82b2 : (t177 == (!(a0_0 == a1_0) || (!(a0_1 == a1_1)))) = false := by simpa using c82))
       (try (have c82b3 : ¬ (t177 = (!(a0_0 == a1_0) || (!(a0_1 == a1_1)))) := by simpa using c82))
       clear c82
       have H' := Aside0.mk H
       clear H
       have hnb88 := NB169_170.out
       have hnc88 := NB170_169.out
       have hnb89 := NB169_171.out
       have hnc89 := NB171_169.out
       have hcz90_0 : w48.cell? ⟨gb169, 0, none⟩ = some (.int .u64 a0_0) := (blk_cell BK169.out 0).trans rfl
       have hcz90_1 : w48.cell? ⟨gb169, 1, none⟩ = some (.int .u64 a0_1) := (blk_cell BK169.out 1).trans rfl
       have hfz90_0 := blk_frozen BK169.out 0
       have hfz90_1 := blk_frozen BK169.out 1
       have hnb91 := NB170_171.out
       have hnc91 := NB171_170.out
       have hcz92_0 : w48.cell? ⟨gb170, 0, none⟩ = some (.int .u64 a1_0) := (blk_cell BK170.out 0).trans rfl
       have hcz92_1 : w48.cell? ⟨gb170, 1, none⟩ = some (.int .u64 a1_1) := (blk_cell BK170.out 1).trans rfl
       have hfz92_0 := blk_frozen BK170.out 0
       have hfz92_1 := blk_frozen BK170.out 1
       go_wp2
       go_meet
       case rel => exact ⟨_, (false), (by first | rfl | (simp; done) | (simp [*]; done)), H', ⟨by have := HJ4.out; first | omega | exact Nat.le_refl _⟩, ⟨by (with_reducible repeat (first | refine blk_drewN ?_ _ | refine blk_drew ?_ | refine blk_alloc ?_ _)); exact BK169.out⟩, ⟨by (with_reducible repeat (first | refine blk_drewN ?_ _ | refine blk_drew ?_ | refine blk_alloc ?_ _)); exact BK170.out⟩, ⟨by (with_reducible repeat (first | refine blk_drewN ?_ _ | refine blk_drew ?_ | refine blk_alloc ?_ _)); exact BK171.out⟩, ⟨by repeat (first | (with_reducible first | exact HB.out | apply below_alloc | apply pw_below_drewN | apply below_drew1 | refine below_set ?_ GE169.out | refine below_set ?_ GE170.out | refine below_set ?_ GE171.out) | exact HB.out)⟩⟩
    case rest =>
     clear HC39
     try clear c1
     try clear c2
     try clear p2
     try clear c3
     try clear c4
     try clear c5
     try clear c6
     try clear c7
     try clear c8
     try clear c9
     try clear c10
     try clear c12
     try clear c14
     try clear c16
     try clear c17
     try clear c20
     try clear c25
     try clear c26
     try clear c29
     try clear c32
     try clear c33
     try clear c36
     try clear c40
     try clear c41
     try clear c43
     try clear c49
     try clear c50
     try clear c50b0
     try clear c50b1
     try clear c50b2
     try clear c51
     try clear c52
     try clear c53
     try clear c55
     try clear c58
     try clear c60
     try clear c61
     try clear c63
     try clear c70
     try clear c71
     try clear c73
     try clear c77
     try clear c78
     try clear c80
     try clear c82
     try clear c82b0
     try clear c82b1
     try clear c82b2
     try clear c83
     try clear c84
     try clear c86
     try clear c88
     try clear c89
     try clear c91
     try clear hcz18_0
     try clear hcz18_1
     try clear hcz21_0
     try clear hcz21_1
     try clear hcz23_0
     try clear hcz23_1
     try clear hcz27_0
     try clear hcz27_1
     try clear hcz30_0
     try clear hcz30_1
     try clear hcz34_0
     try clear hcz34_1
     try clear hcz42_0
     try clear hcz42_1
     try clear hcz44_0
     try clear hcz44_1
     try clear hcz46_0
     try clear hcz46_1
     try clear hcz47_0
     try clear hcz47_1
     try clear hcz54_0
     try clear hcz54_1
     try clear hcz56_0
     try clear hcz56_1
     try clear hcz62_0
     try clear hcz62_1
     try clear hcz64_0
     try clear hcz64_1
     try clear hcz65_0
     try clear hcz65_1
     try clear hcz67_0
     try clear hcz67_1
     try clear hcz68_0
     try clear hcz68_1
     try clear hcz72_0
     try clear hcz72_1
     try clear hcz74_0
     try clear hcz74_1
     try clear hcz75_0
     try clear hcz75_1
     try clear hcz79_0
     try clear hcz79_1
     try clear hcz81_0
     try clear hcz81_1
     try clear hcz85_0
     try clear hcz85_1
     try clear hcz87_0
     try clear hcz87_1
     try clear hcz90_0
     try clear hcz90_1
     try clear hcz92_0
     try clear hcz92_1
     try clear hfz18_0
     try clear hfz18_1
     try clear hfz21_0
     try clear hfz21_1
     try clear hfz23_0
     try clear hfz23_1
     try clear hfz27_0
     try clear hfz27_1
     try clear hfz30_0
     try clear hfz30_1
     try clear hfz34_0
     try clear hfz34_1
     try clear hfz42_0
     try clear hfz42_1
     try clear hfz44_0
     try clear hfz44_1
     try clear hfz46_0
     try clear hfz46_1
     try clear hfz47_0
     try clear hfz47_1
     try clear hfz54_0
     try clear hfz54_1
     try clear hfz56_0
     try clear hfz56_1
     try clear hfz62_0
     try clear hfz62_1
     try clear hfz64_0
     try clear hfz64_1
     try clear hfz65_0
     try clear hfz65_1
     try clear hfz67_0
     try clear hfz67_1
     try clear hfz68_0
     try clear hfz68_1
     try clear hfz72_0
     try clear hfz72_1
     try clear hfz74_0
     try clear hfz74_1
     try clear hfz75_0
     try clear hfz75_1
     try clear hfz79_0
     try clear hfz79_1
     try clear hfz81_0
     try clear hfz81_1
     try clear hfz85_0
     try clear hfz85_1
     try clear hfz87_0
     try clear hfz87_1
     try clear hfz90_0
     try clear hfz90_1
     try clear hfz92_0
     try clear hfz92_1
     try clear p2
     obtain ⟨kq, x6_38, rfl, HA, HJ38, BK169, BK170, BK171, HB⟩ := hcut
     cases kq with
     | zero => exact absurd HA.out (by simp [catchwordlaw19_ScoreOrder.j1])
     | succ kj38 =>
      have H := HA.out
      clear HA
      simp only [catchwordlaw19_ScoreOrder.j1] at H
      obtain rfl := Option.some.inj H
      go_wp2
      go_ret
      exact ⟨by first | rfl | (simp [errW_none, errW_some] <;> rfl) | (simp [*, errW_none, errW_some] <;> rfl), by repeat (first | (with_reducible first | exact HB.out | apply below_alloc | apply pw_below_drewN | apply below_drew1 | refine below_set ?_ GE169.out | refine below_set ?_ GE170.out | refine below_set ?_ GE171.out) | exact HB.out)⟩

/-- THE ONE PURE STATEMENT of catchwordlaw19_ScoreOrder. -/
def catchwordlaw19_ScoreOrder.Pure : Prop := ∀ (a0_0 : Int) (a0_1 : Int) (a1_0 : Int) (a1_1 : Int) (a2_0 : Int) (a2_1 : Int), (Lit.int .u64 a0_0).wf = true → (Lit.int .u64 a0_1).wf = true → (Lit.int .u64 a1_0).wf = true → (Lit.int .u64 a1_1).wf = true → (Lit.int .u64 a2_0).wf = true → (Lit.int .u64 a2_1).wf = true → ∃ k, catchwordlaw19_ScoreOrder.f k a0_0 a0_1 a1_0 a1_1 a2_0 a2_1 = some true

end Go.Proofs.Ytljpdpfflmoheaa.PScoreOrder
