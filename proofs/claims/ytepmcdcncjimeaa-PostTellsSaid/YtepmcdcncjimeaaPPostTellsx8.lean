-- LAID BY this session's own printer (wip/pr): Lean checks it
import Derived.Test.YtepmcdcncjimeaaPPostTellsx0
import Derived.Test.YtepmcdcncjimeaaPPostTellsx1
import Derived.Test.YtepmcdcncjimeaaPPostTellsx3
import Derived.Test.YtepmcdcncjimeaaPPostTellsx7
import Derived.Deep.RegionLaw
import Derived.Deep.RegionWith
import Derived.RangeFuncNested
import Derived.RangeFuncBound
import Derived.RangeFuncCalls
import Derived.RangeFuncLeaves
import Derived.RangeFuncFrom
import Derived.RangeFuncWrites
import Derived.RangeFuncBox
import Derived.Sort.LoopGhostIn
import Derived.OrdersIn
import Derived.TacticsInMore
import Derived.Shelf.Spec.SlicesInsert
import Derived.Shelf.Spec.SlicesInsertGrow
import Derived.Shelf.Abstract
import Derived.Test.YtepmcdcncjimeaaVList
namespace Go.Proofs.Ytepmcdcncjimeaa.PPostTells
open Go.RowKit Go.Proofs.YtepmcdcncjimeaaW.PrintWords Go.Proofs.YtepmcdcncjimeaaW.PrintLast Go.Proofs.YtepmcdcncjimeaaW.PrintMore
attribute [local go_sem] max2_int min2_int max_two min_two max_three min_three max_four min_four   -- for this text's walks alone
set_option linter.unusedVariables false
set_option linter.unusedSimpArgs false

/-! ### post_Unpack: function 22 -/
set_option maxHeartbeats 8000000 in
set_option maxRecDepth 100000 in
theorem cur_number (k g T : Nat) (A : Option Addr) (b : List Int) (c : Nat) (at_ : Int) (bad : Bool) (rest : List Value) (r1 r2 r3 : Int) (w : World) (hG : w.heap[g]? = some (curO A b c at_ bad rest T)) (hr : Kd.C (Kd.int .u8) w A b.length b) (hc : b.length ≤ c)
  (h : vint_Get.f k b at_ = some (r1, r2, r3)) : Calls Try.prog 45 #[.pointer (some ⟨g, 0, none⟩)] w fun e w' =>
   e = .returned (.int .i64 (if r3 = 0 then r1 else 0)) ∧ w'.heap[g]? = some (curO A b c (if r3 = 0 then r2 else at_) (if r3 = 0 then bad else true) rest T) ∧ w.grownBy w' (some g) := by
 have HG := Aside0.mk hG
 have HR := Aside0.mk hr
 have HC := Aside0.mk hc
 have A1 := Aside0.mk h
 have hc0 := cur_c0 hG
 have hc1 := cur_c1 hG
 clear hG hr hc h
 by_cases c3 : r3 = 0
 ·have c3a : (r3 != 0) = false := bne_eq_false_iff_eq.mpr c3
  rw [if_pos c3, if_pos c3, if_pos c3]
  clear c3
  go_enter Try.func45, Try.ntmps45
  go_wp2
  go_region_with (refine (vint_Get.calls k _ _ b at_ r1 r2 r3 _ ?side1 ?side2 A1.out).mono ?_; (case side1 => exact (Kd.C_drew HR.out)); (case side2 => exact HC.out); rintro e w4 ⟨rfl, hb⟩)
  all_goals
   have HG4 : Aside0 (w4.heap[g]? = some (curO A b c at_ bad rest T)) := ⟨blk_below (blk_drew HG.out) hb⟩
   have HB4 := Aside0.mk (grown_trans (grown_below (some g) (below_drew (Below.refl _ w))) (grown_below (some g) hb))
   clear hb hc0 hc1
   have hc1 := cur_c1 HG4.out
   have hf1 := cur_f HG4.out 1
   go_wp2
   go_ret
   exact ⟨rfl, cur_s1 HG4.out r2, grown_trans HB4.out (grown_set _ _ _ _)⟩
 ·have c3a : (r3 != 0) = true := bne_iff_ne.mpr c3
  rw [if_neg c3, if_neg c3, if_neg c3]
  clear c3
  go_enter Try.func45, Try.ntmps45
  go_wp2
  go_region_with (refine (vint_Get.calls k _ _ b at_ r1 r2 r3 _ ?side1 ?side2 A1.out).mono ?_; (case side1 => exact (Kd.C_drew HR.out)); (case side2 => exact HC.out); rintro e w4 ⟨rfl, hb⟩)
  all_goals
   have HG4 : Aside0 (w4.heap[g]? = some (curO A b c at_ bad rest T)) := ⟨blk_below (blk_drew HG.out) hb⟩
   have HB4 := Aside0.mk (grown_trans (grown_below (some g) (below_drew (Below.refl _ w))) (grown_below (some g) hb))
   clear hb hc0 hc1
   have hc2 := cur_c2 HG4.out
   have hf2 := cur_f HG4.out 2
   go_wp2
   go_ret
   exact ⟨rfl, cur_s2 HG4.out true, grown_trans HB4.out (grown_set _ _ _ _)⟩
set_option maxHeartbeats 8000000 in
set_option maxRecDepth 100000 in
theorem cur_list (k g T : Nat) (A : Option Addr) (b : List Int) (c : Nat) (at_ : Int) (bad : Bool) (rest : List Value) (r1 : List Int) (r2 r3 : Int) (w : World) (hG : w.heap[g]? = some (curO A b c at_ bad rest T)) (hr : Kd.C (Kd.int .u8) w A b.length b) (hc : b.length ≤ c)
  (h : vint_Read.f k b at_ = some (r1, r2, r3)) : Calls Try.prog 66 #[.pointer (some ⟨g, 0, none⟩)] w fun e w' => ∃ v : Value,
   e = .returned v ∧ Kd.R (Kd.int .i64) 3 w' w.heap.size (fun _ => True) v (if r3 = 0 then r1 else []) ∧ w'.heap[g]? = some (curO A b c (if r3 = 0 then r2 else at_) (if r3 = 0 then bad else true) rest T) ∧ w.grownBy w' (some g) := by
 have HG := Aside0.mk hG
 have HR := Aside0.mk hr
 have HC := Aside0.mk hc
 have A1 := Aside0.mk h
 have hc0 := cur_c0 hG
 have hc1 := cur_c1 hG
 have HLT := Aside0.mk (blk_lt hG)
 clear hG hr hc h
 by_cases c3 : r3 = 0
 ·have c3a : (r3 != 0) = false := bne_eq_false_iff_eq.mpr c3
  rw [if_pos c3, if_pos c3, if_pos c3]
  clear c3
  go_enter Try.func66, Try.ntmps66
  go_wp2
  go_region_with (refine (vint_Read.calls k _ _ b at_ r1 r2 r3 _ ?side1 ?side2 A1.out).mono ?_; (case side1 => exact (Kd.C_drew HR.out)); (case side2 => exact HC.out); rintro e w4 ⟨v4, rfl, ho, hb⟩)
  all_goals
   have HG4 : Aside0 (w4.heap[g]? = some (curO A b c at_ bad rest T)) := ⟨blk_below (blk_drew HG.out) hb⟩
   have HB4 := Aside0.mk (grown_trans (grown_below (some g) (below_drew (Below.refl _ w))) (grown_below (some g) hb))
   have HO4 := Aside0.mk (show Kd.R (Kd.int .i64) 3 w4 w.heap.size (fun _ => True) v4 r1 from ho)
   clear hb hc0 hc1 ho
   have hc1 := cur_c1 HG4.out
   have hf1 := cur_f HG4.out 1
   go_wp2
   go_ret
   exact ⟨_, rfl, R_past HO4.out (grown_set _ _ _ _) HLT.out, cur_s1 HG4.out r2, grown_trans HB4.out (grown_set _ _ _ _)⟩
 ·have c3a : (r3 != 0) = true := bne_iff_ne.mpr c3
  rw [if_neg c3, if_neg c3, if_neg c3]
  clear c3
  go_enter Try.func66, Try.ntmps66
  go_wp2
  go_region_with (refine (vint_Read.calls k _ _ b at_ r1 r2 r3 _ ?side1 ?side2 A1.out).mono ?_; (case side1 => exact (Kd.C_drew HR.out)); (case side2 => exact HC.out); rintro e w4 ⟨v4, rfl, ho, hb⟩)
  all_goals
   have HG4 : Aside0 (w4.heap[g]? = some (curO A b c at_ bad rest T)) := ⟨blk_below (blk_drew HG.out) hb⟩
   have HB4 := Aside0.mk (grown_trans (grown_below (some g) (below_drew (Below.refl _ w))) (grown_below (some g) hb))
   clear hb hc0 hc1 ho
   have hc2 := cur_c2 HG4.out
   have hf2 := cur_f HG4.out 2
   go_wp2
   go_ret
   exact ⟨_, rfl, Kd.R_nil _ _ _ _ _, cur_s2 HG4.out true, grown_trans HB4.out (grown_set _ _ _ _)⟩
set_option maxHeartbeats 8000000 in
set_option maxRecDepth 100000 in
theorem cur_ends (g T : Nat) (A : Option Addr) (b : List Int) (c : Nat) (at_ : Int) (bad : Bool) (rest : List Value) (w : World) (hG : w.heap[g]? = some (curO A b c at_ bad rest T)) :
  Calls Try.prog 48 #[.pointer (some ⟨g, 0, none⟩)] w fun e w' => e = .returned (.bool (!bad && (at_ == (b.length : Int)))) ∧ ∃ m, w' = w.drewN m := by
 have HG := Aside0.mk hG
 have hc0 := cur_c0 hG
 have hc1 := cur_c1 hG
 have hc2 := cur_c2 hG
 clear hG
 cases bad
 ·go_enter Try.func48, Try.ntmps48
  go_wp2
  go_quiet (fail)
  go_wp2
  go_ret
  exact ⟨by simp, _, rfl⟩
 ·go_enter Try.func48, Try.ntmps48
  go_wp2
  go_quiet (fail)
  go_wp2
  go_ret
  exact ⟨by simp, _, rfl⟩

def post_num (k : Nat) (b : List Int) (at_ : Int) (bad : Bool) : Option (Int × Int × Bool) := (vint_Get.f k b at_).bind fun r => some (if r.2.2 = 0 then r.1 else 0, if r.2.2 = 0 then r.2.1 else at_, if r.2.2 = 0 then bad else true)
theorem post_num.calls (k g T : Nat) (A : Option Addr) (b : List Int) (c : Nat) (at_ : Int) (bad : Bool) (rest : List Value) (r1 r2 : Int) (r3 : Bool) (w0 w : World) (hB : Below w0.heap.size w0 w) (hG : w.heap[g]? = some (curO A b c at_ bad rest T)) (hr : Kd.C (Kd.int .u8) w0 A b.length b) (hc : b.length ≤ c)
  (h : post_num k b at_ bad = some (r1, r2, r3)) : Calls Try.prog 45 #[.pointer (some ⟨g, 0, none⟩)] w fun e w' =>
   e = .returned (.int .i64 r1) ∧ w'.heap[g]? = some (curO A b c r2 r3 rest T) ∧ w.grownBy w' (some g) := by
 unfold post_num at h
 obtain ⟨⟨x, y, z⟩, h1, h2⟩ := Option.bind_eq_some_iff.mp h
 simp only [Option.some.injEq, Prod.mk.injEq] at h2
 obtain ⟨rfl, rfl, rfl⟩ := h2
 exact cur_number k g T A b c at_ bad rest x y z w hG (Kd.C_below hr hB) hc h1
def post_block (k : Nat) (b : List Int) (at_ : Int) (bad : Bool) : Option (List Int × Int × Int × Bool) := (post_num k b at_ bad).bind fun p => (post_num k b p.2.1 p.2.2).bind fun q =>
 if q.2.2 = true then some ([], 0, q.2.1, true) else if q.1 > wrap64 ((b.length : Int) - q.2.1) then some ([], 0, q.2.1, true)
 else if 0 ≤ q.2.1 then (if q.2.1 ≤ wrap64 (q.2.1 + q.1) then (if wrap64 (q.2.1 + q.1) ≤ (b.length : Int) then some ((b.take (wrap64 (q.2.1 + q.1)).toNat).drop q.2.1.toNat, p.1, wrap64 (q.2.1 + q.1), false) else none) else none) else none
def BlockPost (w0 w : World) (g T : Nat) (A : Option Addr) (b : List Int) (c : Nat) (rest : List Value) (r1 : List Int) (r2 r3 : Int) (r4 : Bool) (e : Ending) (w' : World) : Prop := ∃ (g2 : Nat) (A2 : Option Addr) (c2 : Nat),
   e = .returned (.pointer (some ⟨g2, 0, none⟩)) ∧ w.heap.size ≤ g2 ∧ w'.heap[g2]? = some (curO A2 r1 c2 0 false [.int .i64 r2] 70) ∧ Kd.C (Kd.int .u8) w0 A2 r1.length r1 ∧ r1.length ≤ c2 ∧ w'.heap[g]? = some (curO A b c r3 r4 rest T) ∧ w.grownBy w' (some g)

set_option maxHeartbeats 8000000 in
set_option maxRecDepth 100000 in
theorem post_block.calls (k g T : Nat) (A : Option Addr) (b : List Int) (c : Nat) (at_ : Int) (bad : Bool) (rest : List Value) (r1 : List Int) (r2 r3 : Int) (r4 : Bool) (w0 w : World) (hB : Below w0.heap.size w0 w) (hg : w0.heap.size ≤ g) (hG : w.heap[g]? = some (curO A b c at_ bad rest T)) (hr : Kd.C (Kd.int .u8) w0 A b.length b) (hc : b.length ≤ c)
  (h : post_block k b at_ bad = some (r1, r2, r3, r4)) : Calls Try.prog 46 #[.pointer (some ⟨g, 0, none⟩)] w fun e w' => BlockPost w0 w g T A b c rest r1 r2 r3 r4 e w' := by
 unfold post_block at h
 replace h := Option.bind_eq_some_iff.mp h
 obtain ⟨⟨x1, y1, z1⟩, h1, h3⟩ := h
 replace h3 := Option.bind_eq_some_iff.mp h3
 obtain ⟨⟨x2, y2, z2⟩, h2, h⟩ := h3
 simp only at h h2
 have HG := Aside0.mk hG
 have HR := Aside0.mk hr
 have HC := Aside0.mk hc
 have HB := Aside0.mk hB
 have HG0 := Aside0.mk hg
 have A1 := Aside0.mk h1
 have A2 := Aside0.mk h2
 have H := Aside0.mk h
 clear hG hr hc hB hg h1 h2 h
 go_enter Try.func46, Try.ntmps46
 go_wp2_with (go_at_call 45; first
  | (refine (post_num.calls k g T A b c at_ bad rest x1 y1 z1 w0 _ HB.out HG.out HR.out HC.out A1.out).mono ?_; clear A1; rintro e w4 ⟨rfl, hg4, hb4⟩; have HG4 := Aside0.mk hg4; have HB4 := Aside0.mk hb4; clear hg4 hb4)
  | (refine (post_num.calls k g T A b c y1 z1 rest x2 y2 z2 w0 _ (HB.out.grown HB4.out HB.out.size (fun j hj => by injection hj with hj; have := HG0.out; omega)) HG4.out HR.out HC.out A2.out).mono ?_; clear A2; rintro e w5 ⟨rfl, hg5, hb5⟩; have HG5 := Aside0.mk hg5; have HB5 := Aside0.mk (grown_trans HB4.out hb5); clear hg5 hb5 HG4 HB4))
 cases z2
 ·have H := H.out
  rw [if_neg (by decide)] at H
  have hc0 := cur_c0 HG5.out
  have hc1 := cur_c1 HG5.out
  have hc2 := cur_c2 HG5.out
  by_cases c1 : x2 > wrap64 ((b.length : Int) - y2)
  ·rw [if_pos c1] at H
   simp only [Option.some.injEq, Prod.mk.injEq] at H
   obtain ⟨rfl, rfl, rfl, rfl⟩ := H
   have c1b : decide (wrap64 ((b.length : Int) - y2) < x2) = true := decide_eq_true c1
   clear c1
   go_quiet (fail)
   have HGq : Aside0 ((w5.drewN nq).heap[g]? = some (curO A b c y2 false rest T)) := ⟨HG5.out⟩
   have HBq := Aside0.mk (grown_trans HB5.out (grown_below (some g) (pw_below_drewN (Below.refl _ w5) nq)))
   clear HB5 HG5 hc0 hc1 hc2
   generalize w5.drewN nq = wq at HGq HBq ⊢
   have hc2 := cur_c2 HGq.out
   have hf2 := cur_f HGq.out 2
   go_wp2
   go_ret
   unfold BlockPost
   exact ⟨wq.heap.size, none, 0, rfl, HBq.out.size, alloc_at _ _ _ (set_size _ _ _).symm, Kd.C_nil _ _, Nat.zero_le _, blk_alloc (cur_s2 HGq.out true) _, grown_trans HBq.out (grown_trans (grown_set _ _ _ _) (World.grownBy_alloc _ _ _))⟩
  ·rw [if_neg c1] at H
   have c1b : decide (wrap64 ((b.length : Int) - y2) < x2) = false := decide_eq_false c1
   clear c1
   by_cases e1 : 0 ≤ y2
   ·rw [if_pos e1] at H
    by_cases e2 : y2 ≤ wrap64 (y2 + x2)
    ·rw [if_pos e2] at H
     by_cases e3 : wrap64 (y2 + x2) ≤ (b.length : Int)
     ·rw [if_pos e3] at H
      simp only [Option.some.injEq, Prod.mk.injEq] at H
      obtain ⟨rfl, rfl, rfl, rfl⟩ := H
      go_quiet (fail)
      have HGq : Aside0 ((w5.drewN nq).heap[g]? = some (curO A b c y2 false rest T)) := ⟨HG5.out⟩
      have HBq := Aside0.mk (grown_trans HB5.out (grown_below (some g) (pw_below_drewN (Below.refl _ w5) nq)))
      clear HB5 HG5 hc0 hc1 hc2
      generalize w5.drewN nq = wq at HGq HBq ⊢
      obtain ⟨i0, hi0, _, hsz, _⟩ := info_parts info5
      obtain ⟨A2, hcut, hA2, hC2⟩ := print_mid_of (P := Try.prog) (Value.int .u8) 0 31 5 .i64 .i64 Try.underlying31 hi0 hsz A c b y2 (wrap64 (y2 + x2)) e1 e2 e3 HC.out
      have hR2 : Kd.C (Kd.int .u8) w0 A2 ((b.take (wrap64 (y2 + x2)).toNat).drop y2.toNat).length ((b.take (wrap64 (y2 + x2)).toNat).drop y2.toNat) := Kd.C_of_reads (h1 := fun _ => rfl) (hA2 _ (Kd.reads_of_C HR.out))
      generalize hX : (b.take (wrap64 (y2 + x2)).toNat).drop y2.toNat = X at hcut hR2 hC2 ⊢
      have HX := Aside0.mk hX
      clear hX
      have HR2 := Aside0.mk hR2
      have HC2 := Aside0.mk hC2
      clear hR2
      have HE := Aside0.mk (And.intro e1 (And.intro e2 e3))
      clear hA2 hC2 hi0 hsz e1 e2 e3
      have hc0 := cur_c0 HGq.out
      have hc1 := cur_c1 HGq.out
      have hf1 := cur_f HGq.out 1
      go_wp2
      go_region
      all_goals
       generalize hwa : (wq.alloc (Obj.cells #[Value.slice A2 X.length (c - y2.toNat), Value.int .i64 0, Value.bool false, Value.int .i64 x1] 70)).drew = wa
       have HA : Aside0 (wa.heap[wq.heap.size]? = some (curO A2 X (c - y2.toNat) 0 false [.int .i64 x1] 70)) := ⟨by rw [← hwa]; exact heap_alloc_new wq _⟩
       have HGa : Aside0 (wa.heap[g]? = some (curO A b c y2 false rest T)) := ⟨by rw [← hwa]; exact blk_drew (blk_alloc HGq.out _)⟩
       have HBa : Aside0 (w.grownBy wa (some g)) := ⟨by rw [← hwa]; exact grown_trans HBq.out (grown_below (some g) (below_drew (below_alloc (Below.refl _ wq) _)))⟩
       have HLa := Aside0.mk (show wq.heap.size ≠ g from Nat.ne_of_gt (blk_lt HGq.out))
       have HSa := Aside0.mk HBq.out.size
       clear hc0 hc1 hf1 hcut HGq HBq hwa
       have hc1 := cur_c1 HGa.out
       have hf1 := cur_f HGa.out 1
       go_wp2
       go_ret
       rw [HX.out]
       unfold BlockPost
       exact ⟨wq.heap.size, A2, _, rfl, HSa.out, blk_far HA.out HLa.out _, HR2.out, HC2.out, cur_s1 HGa.out _, grown_trans HBa.out (grown_set _ _ _ _)⟩
     ·rw [if_neg e3] at H; cases H
    ·rw [if_neg e2] at H; cases H
   ·rw [if_neg e1] at H; cases H
 ·have H := H.out
  rw [if_pos rfl] at H
  simp only [Option.some.injEq, Prod.mk.injEq] at H
  obtain ⟨rfl, rfl, rfl, rfl⟩ := H
  have hc0 := cur_c0 HG5.out
  have hc1 := cur_c1 HG5.out
  have hc2 := cur_c2 HG5.out
  go_quiet (fail)
  have HGq : Aside0 ((w5.drewN nq).heap[g]? = some (curO A b c y2 true rest T)) := ⟨HG5.out⟩
  have HBq := Aside0.mk (grown_trans HB5.out (grown_below (some g) (pw_below_drewN (Below.refl _ w5) nq)))
  clear HB5 HG5 hc0 hc1 hc2
  generalize w5.drewN nq = wq at HGq HBq ⊢
  have hc2 := cur_c2 HGq.out
  have hf2 := cur_f HGq.out 2
  go_wp2
  go_ret
  unfold BlockPost
  exact ⟨wq.heap.size, none, 0, rfl, HBq.out.size, alloc_at _ _ _ (set_size _ _ _).symm, Kd.C_nil _ _, Nat.zero_le _, blk_alloc (cur_s2 HGq.out true) _, grown_trans HBq.out (grown_trans (grown_set _ _ _ _) (World.grownBy_alloc _ _ _))⟩

def post_lst (k : Nat) (b : List Int) (at_ : Int) (bad : Bool) : Option (List Int × Int × Bool) := (vint_Read.f k b at_).bind fun r => some (if r.2.2 = 0 then r.1 else [], if r.2.2 = 0 then r.2.1 else at_, if r.2.2 = 0 then bad else true)
theorem post_lst.calls (k g T : Nat) (A : Option Addr) (b : List Int) (c : Nat) (at_ : Int) (bad : Bool) (rest : List Value) (r1 : List Int) (r2 : Int) (r3 : Bool) (w0 w : World) (hB : Below w0.heap.size w0 w) (hG : w.heap[g]? = some (curO A b c at_ bad rest T)) (hr : Kd.C (Kd.int .u8) w0 A b.length b) (hc : b.length ≤ c)
  (h : post_lst k b at_ bad = some (r1, r2, r3)) : Calls Try.prog 66 #[.pointer (some ⟨g, 0, none⟩)] w fun e w' => ∃ v : Value,
   e = .returned v ∧ Kd.R (Kd.int .i64) 3 w' w.heap.size (fun _ => True) v r1 ∧ w'.heap[g]? = some (curO A b c r2 r3 rest T) ∧ w.grownBy w' (some g) := by
 unfold post_lst at h
 obtain ⟨⟨x, y, z⟩, h1, h2⟩ := Option.bind_eq_some_iff.mp h
 simp only [Option.some.injEq, Prod.mk.injEq] at h2
 obtain ⟨rfl, rfl, rfl⟩ := h2
 exact cur_list k g T A b c at_ bad rest x y z w hG (Kd.C_below hr hB) hc h1
def post_read.l0 : Nat → List Int → Int → Int → List S39 → Int → Int → Int → Bool → Option (List S39 × Bool)
 | 0, _, _, _, _, _, _, _, _ => none
 | k + 1, b, last, many, out, i, ahead, at_, bad => if i < many then ((post_num k b at_ bad).bind fun p => ((post_lst k b p.2.1 p.2.2).bind fun q => (if out.length < 4398046511104 then (post_read.l0 k b last many (out ++ [⟨wrap64 (ahead + (wrap64 (1 + p.1))), q.1⟩]) (wrap64 (i + 1)) (wrap64 (ahead + (wrap64 (1 + p.1)))) q.2.1 q.2.2) else (none)))) else (some (out, !(!bad && (at_ == (b.length : Int))) || (ahead != last)))
def ReadPost (w : World) (g : Nat) (A : Option Addr) (b : List Int) (c : Nat) (last : Int) (r1 : List S39) (r2 : Bool) (e : Ending) (w' : World) : Prop := ∃ (v : Value) (at_ : Int), e = .returned v ∧ Kd.S k39 39 w' w.heap.size (fun _ => True) v r1 ∧ w'.heap[g]? = some (curO A b c at_ r2 [.int .i64 last] 70) ∧ w.grownBy w' (some g)

set_option maxHeartbeats 8000000 in
set_option maxRecDepth 100000 in
theorem post_read.calls (k g : Nat) (A : Option Addr) (b : List Int) (c : Nat) (at_ : Int) (bad : Bool) (last ahead many : Int) (r1 : List S39) (r2 : Bool) (w0 w : World) (hB : Below w0.heap.size w0 w) (hg : w0.heap.size ≤ g) (hG : w.heap[g]? = some (curO A b c at_ bad [.int .i64 last] 70)) (hr : Kd.C (Kd.int .u8) w0 A b.length b) (hc : b.length ≤ c)
  (h : post_read.l0 k b last many [] 0 ahead at_ bad = some (r1, r2)) : Calls Try.prog 47 #[.pointer (some ⟨g, 0, none⟩), .int .i64 ahead, .int .i64 many] w fun e w' => ReadPost w g A b c last r1 r2 e w' := by
 have hu39 := Try.underlying39
 have HR := Aside0.mk hr
 have HC := Aside0.mk hc
 have HB := Aside0.mk hB
 have HG0 := Aside0.mk hg
 have HLT := Aside0.mk (blk_lt hG)
 have HG := Aside0.mk hG
 have H' := Aside0.mk h
 clear hG hr hc hB hg h
 go_enter Try.func47, Try.ntmps47
 go_wp2
 go_loopg [1, 7, 9] k (fun kq v1 v7 v9 w' => ∃ (x1 : Int) (x7 : List S39) (x9 : Int) (xa : Int) (xb : Bool), v1 = .int .i64 x1 ∧ v9 = .int .i64 x9 ∧ Aside0 (post_read.l0 kq b last many x7 x9 x1 xa xb = some (r1, r2)) ∧ Aside0 (kq ≤ k) ∧ Aside0 (w'.heap[g]? = some (curO A b c xa xb [.int .i64 last] 70)) ∧ Aside0 (Kd.S k39 39 w' w.heap.size (fun _ => True) v7 x7) ∧ Aside0 (w.grownBy w' (some g)))
 case atStart => exact ⟨ahead, [], 0, at_, bad, rfl, rfl, H', ⟨Nat.le_refl _⟩, HG, ⟨Kd.S_nil _ _ _ _ _⟩, ⟨grown_below _ (Below.refl _ _)⟩⟩
 case round =>
  clear H' HG
  obtain ⟨x1, x7, x9, xa, xb, rfl, rfl, HA, HK1, HG, HO, HW⟩ := hrel
  cases gk with
  | zero => exact absurd HA.out (by simp [post_read.l0])
  | succ k1 =>
   have H := HA.out
   clear HA
   simp only [post_read.l0] at H
   by_cases c4 : x9 < many
   ·rw [if_pos c4] at H
    have c4b : decide (x9 < many) = true := decide_eq_true c4
    clear c4
    replace H := Option.bind_eq_some_iff.mp H
    obtain ⟨⟨p1, p2, p3⟩, h1, H⟩ := H
    replace H := Option.bind_eq_some_iff.mp H
    obtain ⟨⟨q1, q2, q3⟩, h2, H⟩ := H
    simp only at h2 H
    by_cases c5 : x7.length < 4398046511104
    ·rw [if_pos c5] at H
     have A1 := Aside0.mk h1
     have A2 := Aside0.mk h2
     have A5 := Aside0.mk c5
     have H' := Aside0.mk H
     clear h1 h2 c5 H
     go_wp2_with (first
      | (go_at_call 45; refine (post_num.calls k1 g 70 A b c xa xb [.int .i64 last] p1 p2 p3 w0 _ (HB.out.grown HW.out HB.out.size (fun j hj => by injection hj with hj; have := HG0.out; omega)) HG.out HR.out HC.out A1.out).mono ?_; clear A1; rintro e w4 ⟨rfl, hg4, hb4⟩; have HO4 := Aside0.mk (S_past HO.out hb4 HLT.out); have HG4 := Aside0.mk hg4; have HW4 := Aside0.mk (grown_trans HW.out hb4); clear hg4 hb4 HG HO HW)
      | (go_at_call 66; refine (post_lst.calls k1 g 70 A b c p2 p3 [.int .i64 last] q1 q2 q3 w0 _ (HB.out.grown HW4.out HB.out.size (fun j hj => by injection hj with hj; have := HG0.out; omega)) HG4.out HR.out HC.out A2.out).mono ?_; clear A2; rintro e w5 ⟨v5, rfl, ho5, hg5, hb5⟩; have HO5 := Aside0.mk (S_past2 HO4.out hb5 HLT.out (Kd.R_base ho5)); have HI5 := Aside0.mk (Kd.R_lower ho5 HW4.out.size); have HG5 := Aside0.mk hg5; have HW5 := Aside0.mk (grown_trans HW4.out hb5); clear hg5 hb5 ho5 HG4 HO4 HW4; obtain ⟨A5_, c5_, e5_⟩ := Kd.R_slice HI5.out; subst e5_)
      | ((with_reducible refine gate_builtin (b := .append) (xs := #[.tmp 18, .tmp 25]) rfl ?_); at_builtin; refine Kd.S_append k39 (w0 := w5) w.heap.size rfl (.tmp 18) (.tmp 25) 22 39 (.agg #[(.int .i64 0), (.slice none 0 0)]) 32 rfl Try.underlying22 info39 rfl (by decide) (by omega) u7 x7 (⟨wrap64 (x1 + (wrap64 (1 + p1))), q1⟩ : S39) [.int .i64 (wrap64 (x1 + (wrap64 (1 + p1)))), .slice A5_ q1.length c5_] (fun _ => True) (fun k_ => some k_ = (.slice A5_ q1.length c5_ : Value).ownBlock) rfl rfl ?aP (fun k_ hk_ => ((Kd.R_mono (ok' := fun k_ => ((fun _ => True)) k_ ∧ some k_ ≠ (u7 : Value).ownBlock) (Kd.R_apart' (HI5.out) (Kd.S_typed HO5.out) (by decide)) (fun k_ hk => ⟨trivial, hk.2⟩))).1 k_ hk_.symm) ?aF ?aO ?aB ?aS ?aL ?_; (case aP => exact k39_mkM _ _ _ (⟨wrap64 (x1 + (wrap64 (1 + p1))), q1⟩ : S39) (Kd.R_mono (Kd.R_tight rfl (Kd.R_mono (ok' := fun k_ => ((fun _ => True)) k_ ∧ some k_ ≠ (u7 : Value).ownBlock) (Kd.R_apart' (HI5.out) (Kd.S_typed HO5.out) (by decide)) (fun k_ hk => ⟨trivial, hk.2⟩))) (fun _ h_ => h_))); (case aB => exact Below.refl _ _); (case aF => exact (fun _ _ => trivial)); (case aO => exact Kd.S_mono HO5.out (fun k_ hk => ⟨trivial, fun e_ => hk.2 e_⟩)); (case aS => exact HW5.out.size); (case aL => have := A5.out; omega); intro v6 w6 ho hb hg hat; have HO6 := Aside0.mk ho; have HG6 := Aside0.mk (blk_grown HG5.out hg (fun e_ => by have := Kd.S_base HO5.out _ e_.symm; have := HLT.out; omega)); have HW6 := Aside0.mk (grown_own HW5.out hg (fun k_ e_ => Kd.S_base HO5.out _ e_)); clear ho hb hg hat HO5 HG5 HW5 HI5))
     go_roundg k1
     case measure => have := HK1.out; omega
     case rel => exact ⟨wrap64 (x1 + (wrap64 (1 + p1))), x7 ++ [⟨wrap64 (x1 + (wrap64 (1 + p1))), q1⟩], wrap64 (x9 + 1), q2, q3, (by first | rfl | (simp; done)), (by first | rfl | (simp; done)), H', ⟨by have := HK1.out; omega⟩, HG6, HO6, HW6⟩
    ·rw [if_neg c5] at H; cases H
   ·rw [if_neg c4] at H
    have c4b : decide (x9 < many) = false := decide_eq_false c4
    clear c4
    simp only [Option.some.injEq, Prod.mk.injEq] at H
    obtain ⟨rfl, hr2⟩ := H
    have hcl : wr.cell? ⟨g, 3, none⟩ = some (.int .i64 last) := (blk_cell HG.out 3).trans rfl
    have HE := Aside0.mk (cur_ends g 70 A b c xa xb [.int .i64 last] wr HG.out)
    generalize (!xb && (xa == (b.length : Int))) = E at hr2 HE
    cases E
    ·have hr2 : r2 = true := by rw [← hr2]; rfl
     subst hr2
     go_wp2_with (go_at_call 48; refine HE.out.mono ?_; rintro e w6 ⟨rfl, ⟨m6, rfl⟩⟩; have HG6 : Aside0 ((wr.drewN m6).heap[g]? = some (curO A b c xa xb [.int .i64 last] 70)) := ⟨HG.out⟩; have HO6 := Aside0.mk (Kd.S_drewN HO.out m6); have HW6 := Aside0.mk (grown_trans HW.out (grown_below (some g) (pw_below_drewN (Below.refl _ wr) m6))); clear hcl HG HO HW HE; generalize wr.drewN m6 = w6 at HG6 HO6 HW6 ⊢; have hc2 := cur_c2 HG6.out; have hf2 := cur_f HG6.out 2; have hcl : w6.cell? ⟨g, 3, none⟩ = some (.int .i64 last) := (blk_cell HG6.out 3).trans rfl)
     go_ret
     unfold ReadPost
     exact ⟨_, xa, rfl, S_past HO6.out (grown_set _ _ _ _) HLT.out, cur_s2 HG6.out true, grown_trans HW6.out (grown_set _ _ _ _)⟩
    ·have hr2 : r2 = (x1 != last) := by rw [← hr2]; rfl
     subst hr2
     by_cases c5 : x1 = last
     ·have c5b : (x1 != last) = false := bne_eq_false_iff_eq.mpr c5
      clear c5
      go_wp2_with (go_at_call 48; refine HE.out.mono ?_; rintro e w6 ⟨rfl, ⟨m6, rfl⟩⟩; have HG6 : Aside0 ((wr.drewN m6).heap[g]? = some (curO A b c xa xb [.int .i64 last] 70)) := ⟨HG.out⟩; have HO6 := Aside0.mk (Kd.S_drewN HO.out m6); have HW6 := Aside0.mk (grown_trans HW.out (grown_below (some g) (pw_below_drewN (Below.refl _ wr) m6))); clear hcl HG HO HW HE; generalize wr.drewN m6 = w6 at HG6 HO6 HW6 ⊢; have hc2 := cur_c2 HG6.out; have hf2 := cur_f HG6.out 2; have hcl : w6.cell? ⟨g, 3, none⟩ = some (.int .i64 last) := (blk_cell HG6.out 3).trans rfl)
      go_ret
      unfold ReadPost
      rw [c5b]
      exact ⟨_, xa, rfl, S_past HO6.out (grown_set _ _ _ _) HLT.out, cur_s2 HG6.out false, grown_trans HW6.out (grown_set _ _ _ _)⟩
     ·have c5b : (x1 != last) = true := bne_iff_ne.mpr c5
      clear c5
      go_wp2_with (go_at_call 48; refine HE.out.mono ?_; rintro e w6 ⟨rfl, ⟨m6, rfl⟩⟩; have HG6 : Aside0 ((wr.drewN m6).heap[g]? = some (curO A b c xa xb [.int .i64 last] 70)) := ⟨HG.out⟩; have HO6 := Aside0.mk (Kd.S_drewN HO.out m6); have HW6 := Aside0.mk (grown_trans HW.out (grown_below (some g) (pw_below_drewN (Below.refl _ wr) m6))); clear hcl HG HO HW HE; generalize wr.drewN m6 = w6 at HG6 HO6 HW6 ⊢; have hc2 := cur_c2 HG6.out; have hf2 := cur_f HG6.out 2; have hcl : w6.cell? ⟨g, 3, none⟩ = some (.int .i64 last) := (blk_cell HG6.out 3).trans rfl)
      go_ret
      unfold ReadPost
      rw [c5b]
      exact ⟨_, xa, rfl, S_past HO6.out (grown_set _ _ _ _) HLT.out, cur_s2 HG6.out true, grown_trans HW6.out (grown_set _ _ _ _)⟩

section
variable {P : Program} {ops : Array Oper} {rest : List Oper} {o : Oper} {a : Act} {Q : Exit → Act → World → Prop} {α : Type}
/-- append(v, y...): both of the call's own, the one older than the other. -/
theorem S_append_rows_ (d : Kd α) {w0 W : World} (base : Nat) (hgd : o.guard = none) (s x : Operand) (t e : TypeId) (z : Value) (bytes : Nat)
  (ho : o.op = .call { callee := .builtin .append, args := #[s, x], argTypes := #[t, t] })
  (ht : P.underlying t = some (.slice e)) (hinfo : (P.info? e).map (fun i => (i.zero, i.size, i.bytes)) = some (some z, d.sz, bytes)) (hz : z.cells.size = d.sz) (hs0 : 0 < d.sz) (hb0 : 0 < bytes)
  (v : Value) (xs ys : List α) (A : Option Addr) (c N : Nat) (hs : a.eval s = v) (hx : a.eval x = .slice A ys.length c)
  (HO : Kd.S d e W base (fun k => k < N) v xs) (HY : Kd.S d e W base (fun k => N ≤ k) (.slice A ys.length c) ys) (HB : Below base w0 W) (hbase : base ≤ W.heap.size) (hl : (xs.length + ys.length) * bytes ≤ 140737488355328)
  (h : ∀ v1 w1, Kd.S d e w1 base (fun _ => True) v1 (xs ++ ys) → Below base w0 w1 → W.grownBy w1 v.ownBlock → (v1.ownBlock = v.ownBlock ∨ ∃ b, v1.ownBlock = some b ∧ W.heap.size ≤ b) → wpList P ops Q rest (a.put o.dst v1) w1) :
  wpList P ops Q (o :: rest) a W := by
 obtain ⟨f, hf⟩ := HO
 obtain ⟨f2, hf2⟩ := HY
 have hR : (Kd.tag (fun k => if k < N then f k else f2 k + xs.length) d).R e W base (fun k => k < N) v xs.zipIdx := Kd.R_tag hf (fun k hk _ => if_pos hk)
 have hY : ReadsRow (fun q cs => (Kd.tag (fun k => if k < N then f k else f2 k + xs.length) d).M W base (fun k => N ≤ k) q cs) d.sz W A ys.length (ys.zipIdx xs.length) := by
  obtain ⟨A', c', he, _, hr⟩ := OwnRow.reads hf2.2
  injection he with h1 h2 h3
  subst h1
  rw [List.length_zipIdx] at hr
  refine ⟨by rw [List.length_zipIdx], hr.2.1, fun hn => ?_⟩
  obtain ⟨ad, e1, hc⟩ := hr.2.2 hn
  refine ⟨ad, e1, fun j q hj => ?_⟩
  rw [List.getElem?_zipIdx] at hj
  cases hp : ys[j]? with
  | none => rw [hp] at hj; cases hj
  | some p =>
   rw [hp] at hj
   simp only [Option.map_some, Option.some.injEq] at hj
   subst hj
   obtain ⟨cs, k1, k2, k3⟩ := hc j (p, j) (Kd.zip_at hp)
   refine ⟨cs, k1, d.M_mono (fun k hk => ?_) k2, k3⟩
   have h4 := hk.1.1
   exact ⟨h4, by show (if k < N then f k else f2 k + xs.length) = xs.length + j; rw [if_neg (by omega), show f2 k = j from hk.2, Nat.add_comm]⟩
 refine Kd.R_append_rows (Kd.tag (fun k => if k < N then f k else f2 k + xs.length) d) base hgd s x t e z bytes ho ht hinfo hz hs0 hb0 v xs.zipIdx (ys.zipIdx xs.length) A ys.length c (fun _ => True) (fun k => N ≤ k) hs hx (Kd.R_mono hR (fun _ _ => trivial)) hY (fun _ _ h => h) (fun k hk => ⟨trivial, fun e1 => by have := hR.1 k e1.symm; omega⟩) (fun _ _ => trivial) HB hbase (by rw [List.length_zipIdx]; exact hl) ?_
 intro v1 w1 hr
 have e2 : xs.zipIdx ++ ys.zipIdx xs.length = (xs ++ ys).zipIdx := by rw [List.zipIdx_append, Nat.zero_add]
 rw [e2] at hr
 exact h v1 w1 ⟨_, hr⟩
end
theorem S_span {α : Type} {d : Kd α} {e : Nat} {w w1 : World} {base g : Nat} {v : Value} {xs : List α} (h : Kd.S d e w base (fun _ => True) v xs) (hg : w.grownBy w1 (some g)) (hne : ¬ (base ≤ g ∧ g < w.heap.size)) : Kd.S d e w1 base (fun k => k < w.heap.size) v xs :=
 Kd.S_mono (Kd.S_grown (Kd.S_bound h) hg (fun k hk e => by injection e with e; exact hne ⟨by have := hk.2.1; omega, by have := hk.2.2.1; omega⟩)) (fun k hk => hk.2.2.1)
theorem S_span2 {α : Type} {d : Kd α} {e : Nat} {w w1 : World} {base g N : Nat} {v : Value} {xs : List α} (h : Kd.S d e w base (fun k => k < N) v xs) (hg : w.grownBy w1 (some g)) (hne : ¬ (base ≤ g ∧ g < N)) : Kd.S d e w1 base (fun k => k < N) v xs :=
 Kd.S_mono (Kd.S_grown (Kd.S_bound h) hg (fun k hk e => by injection e with e; exact hne ⟨by have := hk.2.1; omega, by have := hk.1; omega⟩)) (fun k hk => hk.1)

def post_Unpack.fin (k : Nat) (b : List Int) (n : Int) (out : List S39) (at_ : Int) (bad : Bool) : Option (List S39 × Int) := if bad = true then (some (([] : List S39), 5)) else (if at_ = (b.length : Int) then (if (out.length : Int) = n then ((post_May.f k out).bind fun m => (if m = true then (some (out, 0)) else (some (([] : List S39), 5)))) else (some (([] : List S39), 5))) else (some (([] : List S39), 5)))
def post_Unpack.l0 : Nat → List Int → Int → List S39 → Int → Int → Bool → Option (List S39 × Int)
 | 0, _, _, _, _, _, _ => none
 | k + 1, b, n, out, ahead, at_, bad => if bad = true then (post_Unpack.fin k b n out at_ bad) else (if n ≤ 64 then (if (out.length : Int) < n then ((post_block k b at_ bad).bind fun x => ((post_read.l0 k x.1 x.2.1 (mn 4 (wrap64 (n - (out.length : Int)))) [] 0 ahead 0 false).bind fun r => (if out.length + r.1.length < 4398046511104 then (post_Unpack.l0 k b n (out ++ r.1) x.2.1 x.2.2.1 (if x.2.2.2 = true then true else r.2)) else (none)))) else (post_Unpack.fin k b n out at_ bad)) else (post_Unpack.fin k b n out at_ bad))
def post_Unpack.g (k : Nat) (b : List Int) : Option (List S39 × Int) := (post_num k b 0 false).bind fun p => (post_Unpack.l0 k b p.1 [] (-1) p.2.1 p.2.2)
def UnpackPost (w : World) (r1 : List S39) (r2 : Int) (e : Ending) (w' : World) : Prop := ∃ v0_ : Value, e = .returned (.tuple #[v0_, .int .i64 r2]) ∧ Kd.S k39 39 w' w.heap.size (fun _ => True) v0_ r1 ∧ Below w.heap.size w w'

set_option maxHeartbeats 8000000 in
set_option maxRecDepth 100000 in
theorem post_Unpack.calls_ (k : Nat) (A0 : Option Addr) (c0 : Nat) (l0 : List Int) (r1 : List S39) (r2 : Int) (w : World) (hr0 : Kd.C (Kd.int .u8) w A0 l0.length l0) (hc0 : l0.length ≤ c0) (h : post_Unpack.g k l0 = some (r1, r2)) :
  Calls Try.prog 22 #[.slice A0 l0.length c0] w fun e w' => UnpackPost w r1 r2 e w' := by
 have hu39 := Try.underlying39
 have HR := Aside0.mk hr0
 have HC := Aside0.mk hc0
 unfold post_Unpack.g at h
 replace h := Option.bind_eq_some_iff.mp h
 obtain ⟨⟨n, p2, p3⟩, h1, h⟩ := h
 simp only at h
 have A1 := Aside0.mk h1
 have H' := Aside0.mk h
 clear hr0 hc0 h1 h
 obtain ⟨wa, hwa⟩ : ∃ wa, wa = w.alloc (.cells #[.slice A0 l0.length c0, .int .i64 0, .bool false] 64) := ⟨_, rfl⟩
 have HGa : Aside0 (wa.heap[w.heap.size]? = some (curO A0 l0 c0 0 false [] 64)) := ⟨by rw [hwa]; exact heap_alloc_new w _⟩
 have HBa : Aside0 (Below w.heap.size w wa) := ⟨by rw [hwa]; exact below_alloc (Below.refl _ _) _⟩
 have HSa : Aside0 (wa.heap.size = w.heap.size + 1) := ⟨by rw [hwa, World.size_alloc]⟩
 go_enter Try.func22, Try.ntmps22
 go_wp2_with (go_at_call 45; (try rw [← hwa]); refine (post_num.calls k w.heap.size 64 A0 l0 c0 0 false [] n p2 p3 w _ HBa.out HGa.out HR.out HC.out A1.out).mono ?_; clear A1; rintro e w4 ⟨rfl, hg4, hb4⟩; have HG4 := Aside0.mk hg4; have HB4 := Aside0.mk (HBa.out.grown hb4 HBa.out.size (fun j hj => by injection hj with hj; omega)); clear hg4 hb4 HGa HBa HSa hwa)
 go_loopg [6, 7] k (fun kq v6 v7 w' => ∃ (x6 : List S39) (x7 : Int) (xa : Int) (xb : Bool), v7 = .int .i64 x7 ∧ Aside0 (post_Unpack.l0 kq l0 n x6 x7 xa xb = some (r1, r2)) ∧ Aside0 (kq ≤ k) ∧ Aside0 (w'.heap[w.heap.size]? = some (curO A0 l0 c0 xa xb [] 64)) ∧ Aside0 (Kd.S k39 39 w' (w.heap.size + 1) (fun _ => True) v6 x6) ∧ Aside0 (Below w.heap.size w w'))
 case atStart => exact ⟨[], -1, p2, p3, rfl, H', ⟨Nat.le_refl _⟩, HG4, ⟨Kd.S_nil _ _ _ _ _⟩, HB4⟩
 case round =>
  clear H' HG4 HB4
  obtain ⟨x6, x7, xa, xb, rfl, HA, HK1, HG, HO, HB⟩ := hrel
  obtain ⟨Ao, co, e6⟩ := Kd.S_slice HO.out
  subst e6
  have hc2 := cur_c2 HG.out
  cases gk with
  | zero => exact absurd HA.out (by simp [post_Unpack.l0])
  | succ k1 =>
   have H := HA.out
   clear HA
   simp only [post_Unpack.l0] at H
   by_cases d1 : xb = true
   ·rw [if_pos d1] at H
    subst d1
    have HE := Aside0.mk (cur_ends w.heap.size 64 A0 l0 c0 xa true [] wr HG.out)
    unfold post_Unpack.fin at H
    rw [if_pos rfl] at H
    rw [show (!true && (xa == (l0.length : Int))) = false from rfl] at HE
    have H := Option.some.inj H
    injection H with e1 e2
    subst e1
    subst e2
    go_wp2_with (go_at_call 48; refine HE.out.mono ?_; rintro e w6 ⟨rfl, ⟨m6, rfl⟩⟩; have HO6 := Aside0.mk (Kd.S_drewN HO.out m6); have HB6 := Aside0.mk (pw_below_drewN HB.out m6); clear HO HB HE HG; generalize wr.drewN m6 = w6 at HO6 HB6 ⊢)
    go_ret2
    unfold UnpackPost
    exact ⟨_, rfl, Kd.S_nil _ _ _ _ _, HB6.out⟩
   ·obtain rfl : xb = false := by cases xb with | false => rfl | true => exact absurd rfl d1
    rw [if_neg d1] at H
    clear d1
    by_cases d2 : n ≤ 64
    ·rw [if_pos d2] at H
     have d2b : decide (n ≤ 64) = true := decide_eq_true d2
     clear d2
     by_cases d3 : (x6.length : Int) < n
     ·rw [if_pos d3] at H
      have d3b : decide ((x6.length : Int) < n) = true := decide_eq_true d3
      clear d3
      replace H := Option.bind_eq_some_iff.mp H
      obtain ⟨⟨s1, s2, s3, s4⟩, h1, H⟩ := H
      replace H := Option.bind_eq_some_iff.mp H
      obtain ⟨⟨t1, t2⟩, h2, H⟩ := H
      simp only at h2 H
      by_cases d4 : x6.length + t1.length < 4398046511104
      ·rw [if_pos d4] at H
       have A1 := Aside0.mk h1
       have A2 := Aside0.mk h2
       have A4 := Aside0.mk d4
       have H' := Aside0.mk H
       clear h1 h2 d4 H
       go_wp2_with (first
        | (go_at_call 46; refine (post_block.calls k1 w.heap.size 64 A0 l0 c0 xa false [] s1 s2 s3 s4 w wr HB.out (Nat.le_refl _) HG.out HR.out HC.out A1.out).mono ?_; rintro e w4 ⟨g2, A2_, c2_, rfl, hle, hg2, hr2, hc2_, hg4, hb4⟩; have HO4 := Aside0.mk (S_past HO.out hb4 (Nat.lt_succ_self _)); have HN4 := Aside0.mk (show Kd.S k39 39 w4 (w.heap.size + 1) (fun k_ => k_ < wr.heap.size) (.slice Ao x6.length co) x6 from S_span HO.out hb4 (by omega)); have HG4 := Aside0.mk hg4; have HX4 := Aside0.mk hg2; have HR2 := Aside0.mk hr2; have HC2 := Aside0.mk hc2_; have HLE := Aside0.mk hle; have HLT := Aside0.mk (blk_lt HG.out); have HSZ := Aside0.mk hb4.size; have HB4 := Aside0.mk (HB.out.grown hb4 HB.out.size (fun j hj => by injection hj with hj; omega)); clear hle hg2 hr2 hc2_ hg4 hb4 A1 HO HG HB hc2)
        | (go_at_call 47; refine (post_read.calls k1 g2 A2_ s1 c2_ 0 false s2 x7 (mn 4 (wrap64 (n - (x6.length : Int)))) t1 t2 w w4 HB4.out (by have := HLE.out; have := HLT.out; omega) HX4.out HR2.out HC2.out A2.out).mono ?_; rintro e w5 ⟨v5, xc, rfl, ho5, hg5, hb5⟩; have HN5 := Aside0.mk (S_span2 HN4.out hb5 (by have := HLE.out; omega)); have HI5 := Aside0.mk (Kd.S_lower (Kd.S_mono (Kd.S_bound ho5) (ok' := fun k_ => wr.heap.size ≤ k_) (fun k_ hk => Nat.le_trans HSZ.out hk.2.1)) (by have := HLT.out; have := HSZ.out; omega : w.heap.size + 1 ≤ w4.heap.size)); have HG5 := Aside0.mk (blk_grown HG4.out hb5 (fun e_ => by injection e_ with e_; have := HLE.out; have := HLT.out; omega)); have HX5 := Aside0.mk hg5; have HB5 := Aside0.mk (HB4.out.grown hb5 HB4.out.size (fun j hj => by injection hj with hj; have := HLE.out; have := HLT.out; omega)); have HS5 := Aside0.mk (Nat.le_trans HSZ.out hb5.size); clear ho5 hg5 hb5 A2 HO4 HN4 HG4 HX4 HB4; obtain ⟨A5_, c5_, e5_⟩ := Kd.S_slice HI5.out; subst e5_)
        | ((with_reducible refine gate_builtin (b := .append) (xs := #[.tmp 31, .tmp 39]) rfl ?_); at_builtin; refine S_append_rows_ k39 (w0 := w5) (w.heap.size + 1) rfl (.tmp 31) (.tmp 39) 22 39 (.agg #[(.int .i64 0), (.slice none 0 0)]) 32 rfl Try.underlying22 info39 rfl (by decide) (by omega) (.slice Ao x6.length co) x6 t1 A5_ c5_ wr.heap.size rfl rfl HN5.out HI5.out (Below.refl _ _) (by have := HLT.out; have := HS5.out; omega) (by have := A4.out; omega) ?_; intro v6 w6 ho hb hg hat; have HO6 := Aside0.mk ho; have HG6 := Aside0.mk (blk_grown HG5.out hg (fun e_ => by have := Kd.S_base HN5.out _ e_.symm; omega)); have HX6 := Aside0.mk (blk_grown HX5.out hg (fun e_ => by have := (Kd.S_R HN5.out).1 _ e_.symm; have := HLE.out; omega)); have HB6 := Aside0.mk (HB5.out.grown hg HB5.out.size (fun k_ e_ => by have := Kd.S_base HN5.out _ e_; omega)); clear ho hb hg hat HN5 HI5 HG5 HX5 HB5; have hc2 := cur_c2 HG6.out; have hf2 := cur_f HG6.out 2; have hx2 := cur_c2 HX6.out; have hx3 : w6.cell? ⟨g2, 3, none⟩ = some (.int .i64 s2) := (blk_cell HX6.out 3).trans rfl))
       all_goals first
        | (have hs : s4 = true := (by assumption); subst hs; go_roundg k1; (case measure => have := HK1.out; omega); (case rel => exact ⟨x6 ++ t1, s2, s3, true, rfl, H', ⟨by have := HK1.out; omega⟩, ⟨cur_s2 HG6.out true⟩, ⟨S_past HO6.out (grown_set _ _ _ _) (Nat.lt_succ_self _)⟩, ⟨HB6.out.grown (grown_set _ _ _ _) HB6.out.size (fun j hj => by injection hj with hj; omega)⟩⟩))
        | (have hs : s4 = false := (by first | assumption | (rename_i hs _; exact Bool.eq_false_iff.2 hs) | (rename_i hs; exact Bool.eq_false_iff.2 hs)); subst hs; go_roundg k1; (case measure => have := HK1.out; omega); (case rel => exact ⟨x6 ++ t1, s2, s3, t2, rfl, H', ⟨by have := HK1.out; omega⟩, ⟨cur_s2 HG6.out t2⟩, ⟨S_past HO6.out (grown_set _ _ _ _) (Nat.lt_succ_self _)⟩, ⟨HB6.out.grown (grown_set _ _ _ _) HB6.out.size (fun j hj => by injection hj with hj; omega)⟩⟩))
      ·rw [if_neg d4] at H; cases H
     ·rw [if_neg d3] at H
      have d3b : decide ((x6.length : Int) < n) = false := decide_eq_false d3
      clear d3
      have HE := Aside0.mk (cur_ends w.heap.size 64 A0 l0 c0 xa false [] wr HG.out)
      unfold post_Unpack.fin at H
      rw [if_neg (by decide)] at H
      by_cases he : xa = (l0.length : Int)
      ·rw [if_pos he] at H
       rw [show (!false && (xa == (l0.length : Int))) = true from by rw [he]; simp] at HE
       clear he
       by_cases c7 : (x6.length : Int) = n
       ·rw [if_pos c7] at H
        have c7b : ((x6.length : Int) != n) = false := bne_eq_false_iff_eq.mpr c7
        clear c7
        replace H := Option.bind_eq_some_iff.mp H
        obtain ⟨m, hm, H⟩ := H
        replace hm := Aside0.mk hm
        cases m
        ·rw [if_neg (by decide)] at H
         have H := Option.some.inj H
         injection H with e1 e2
         subst e1
         subst e2
         go_wp2_with (first | (go_at_call 48; refine HE.out.mono ?_; rintro e w6 ⟨rfl, ⟨m6, rfl⟩⟩; have HO6 := Aside0.mk (Kd.S_drewN HO.out m6); have HB6 := Aside0.mk (pw_below_drewN HB.out m6); clear HO HB HE HG; generalize wr.drewN m6 = w6 at HO6 HB6 ⊢) | (go_at_call 15; refine (post_May.calls k1 Ao co x6 false w6 (Kd.S_reads' HO6.out).2.2 (Kd.S_reads' HO6.out).2.1 hm.out).mono ?_; rintro e w7 ⟨rfl, hb⟩; have HO7 := Aside0.mk (Kd.S_below HO6.out hb); have HB7 := Aside0.mk (below_step HB6.out hb); clear hb HO6 HB6 hm))
         go_ret2
         unfold UnpackPost
         exact ⟨_, rfl, Kd.S_nil _ _ _ _ _, HB7.out⟩
        ·rw [if_pos rfl] at H
         have H := Option.some.inj H
         injection H with e1 e2
         subst e1
         subst e2
         go_wp2_with (first | (go_at_call 48; refine HE.out.mono ?_; rintro e w6 ⟨rfl, ⟨m6, rfl⟩⟩; have HO6 := Aside0.mk (Kd.S_drewN HO.out m6); have HB6 := Aside0.mk (pw_below_drewN HB.out m6); clear HO HB HE HG; generalize wr.drewN m6 = w6 at HO6 HB6 ⊢) | (go_at_call 15; refine (post_May.calls k1 Ao co x6 true w6 (Kd.S_reads' HO6.out).2.2 (Kd.S_reads' HO6.out).2.1 hm.out).mono ?_; rintro e w7 ⟨rfl, hb⟩; have HO7 := Aside0.mk (Kd.S_below HO6.out hb); have HB7 := Aside0.mk (below_step HB6.out hb); clear hb HO6 HB6 hm))
         go_ret2
         unfold UnpackPost
         exact ⟨_, rfl, Kd.S_lower HO7.out (Nat.le_succ _), HB7.out⟩
       ·rw [if_neg c7] at H
        have c7b : ((x6.length : Int) != n) = true := bne_iff_ne.mpr c7
        clear c7
        have H := Option.some.inj H
        injection H with e1 e2
        subst e1
        subst e2
        go_wp2_with (go_at_call 48; refine HE.out.mono ?_; rintro e w6 ⟨rfl, ⟨m6, rfl⟩⟩; have HO6 := Aside0.mk (Kd.S_drewN HO.out m6); have HB6 := Aside0.mk (pw_below_drewN HB.out m6); clear HO HB HE HG; generalize wr.drewN m6 = w6 at HO6 HB6 ⊢)
        go_ret2
        unfold UnpackPost
        exact ⟨_, rfl, Kd.S_nil _ _ _ _ _, HB6.out⟩
      ·rw [if_neg he] at H
       rw [show (!false && (xa == (l0.length : Int))) = false from by simpa using he] at HE
       clear he
       have H := Option.some.inj H
       injection H with e1 e2
       subst e1
       subst e2
       go_wp2_with (go_at_call 48; refine HE.out.mono ?_; rintro e w6 ⟨rfl, ⟨m6, rfl⟩⟩; have HO6 := Aside0.mk (Kd.S_drewN HO.out m6); have HB6 := Aside0.mk (pw_below_drewN HB.out m6); clear HO HB HE HG; generalize wr.drewN m6 = w6 at HO6 HB6 ⊢)
       go_ret2
       unfold UnpackPost
       exact ⟨_, rfl, Kd.S_nil _ _ _ _ _, HB6.out⟩
    ·rw [if_neg d2] at H
     have d2b : decide (n ≤ 64) = false := decide_eq_false d2
     clear d2
     have HE := Aside0.mk (cur_ends w.heap.size 64 A0 l0 c0 xa false [] wr HG.out)
     unfold post_Unpack.fin at H
     rw [if_neg (by decide)] at H
     by_cases he : xa = (l0.length : Int)
     ·rw [if_pos he] at H
      rw [show (!false && (xa == (l0.length : Int))) = true from by rw [he]; simp] at HE
      clear he
      by_cases c7 : (x6.length : Int) = n
      ·rw [if_pos c7] at H
       have c7b : ((x6.length : Int) != n) = false := bne_eq_false_iff_eq.mpr c7
       clear c7
       replace H := Option.bind_eq_some_iff.mp H
       obtain ⟨m, hm, H⟩ := H
       replace hm := Aside0.mk hm
       cases m
       ·rw [if_neg (by decide)] at H
        have H := Option.some.inj H
        injection H with e1 e2
        subst e1
        subst e2
        go_wp2_with (first | (go_at_call 48; refine HE.out.mono ?_; rintro e w6 ⟨rfl, ⟨m6, rfl⟩⟩; have HO6 := Aside0.mk (Kd.S_drewN HO.out m6); have HB6 := Aside0.mk (pw_below_drewN HB.out m6); clear HO HB HE HG; generalize wr.drewN m6 = w6 at HO6 HB6 ⊢) | (go_at_call 15; refine (post_May.calls k1 Ao co x6 false w6 (Kd.S_reads' HO6.out).2.2 (Kd.S_reads' HO6.out).2.1 hm.out).mono ?_; rintro e w7 ⟨rfl, hb⟩; have HO7 := Aside0.mk (Kd.S_below HO6.out hb); have HB7 := Aside0.mk (below_step HB6.out hb); clear hb HO6 HB6 hm))
        go_ret2
        unfold UnpackPost
        exact ⟨_, rfl, Kd.S_nil _ _ _ _ _, HB7.out⟩
       ·rw [if_pos rfl] at H
        have H := Option.some.inj H
        injection H with e1 e2
        subst e1
        subst e2
        go_wp2_with (first | (go_at_call 48; refine HE.out.mono ?_; rintro e w6 ⟨rfl, ⟨m6, rfl⟩⟩; have HO6 := Aside0.mk (Kd.S_drewN HO.out m6); have HB6 := Aside0.mk (pw_below_drewN HB.out m6); clear HO HB HE HG; generalize wr.drewN m6 = w6 at HO6 HB6 ⊢) | (go_at_call 15; refine (post_May.calls k1 Ao co x6 true w6 (Kd.S_reads' HO6.out).2.2 (Kd.S_reads' HO6.out).2.1 hm.out).mono ?_; rintro e w7 ⟨rfl, hb⟩; have HO7 := Aside0.mk (Kd.S_below HO6.out hb); have HB7 := Aside0.mk (below_step HB6.out hb); clear hb HO6 HB6 hm))
        go_ret2
        unfold UnpackPost
        exact ⟨_, rfl, Kd.S_lower HO7.out (Nat.le_succ _), HB7.out⟩
      ·rw [if_neg c7] at H
       have c7b : ((x6.length : Int) != n) = true := bne_iff_ne.mpr c7
       clear c7
       have H := Option.some.inj H
       injection H with e1 e2
       subst e1
       subst e2
       go_wp2_with (go_at_call 48; refine HE.out.mono ?_; rintro e w6 ⟨rfl, ⟨m6, rfl⟩⟩; have HO6 := Aside0.mk (Kd.S_drewN HO.out m6); have HB6 := Aside0.mk (pw_below_drewN HB.out m6); clear HO HB HE HG; generalize wr.drewN m6 = w6 at HO6 HB6 ⊢)
       go_ret2
       unfold UnpackPost
       exact ⟨_, rfl, Kd.S_nil _ _ _ _ _, HB6.out⟩
     ·rw [if_neg he] at H
      rw [show (!false && (xa == (l0.length : Int))) = false from by simpa using he] at HE
      clear he
      have H := Option.some.inj H
      injection H with e1 e2
      subst e1
      subst e2
      go_wp2_with (go_at_call 48; refine HE.out.mono ?_; rintro e w6 ⟨rfl, ⟨m6, rfl⟩⟩; have HO6 := Aside0.mk (Kd.S_drewN HO.out m6); have HB6 := Aside0.mk (pw_below_drewN HB.out m6); clear HO HB HE HG; generalize wr.drewN m6 = w6 at HO6 HB6 ⊢)
      go_ret2
      unfold UnpackPost
      exact ⟨_, rfl, Kd.S_nil _ _ _ _ _, HB6.out⟩

def post_Unpack.f (l0 : List Int) : Option (List S39 × Int) := post_Unpack.g 100000 l0
theorem post_Unpack.calls (A0 : Option Addr) (c0 : Nat) (l0 : List Int) (r1 : List (S39)) (r2 : Int) (w : World) (hr0 : Kd.C (Kd.int .u8) w A0 l0.length l0) (hc0 : l0.length ≤ c0) (h : post_Unpack.f l0 = some (r1, r2)) :
  Calls Try.prog 22 #[.slice A0 l0.length c0] w fun e w' => ∃ v0_ : Value, e = .returned (.tuple #[v0_, .int .i64 r2]) ∧ Kd.S k39 39 w' w.heap.size (fun _ => True) v0_ r1 ∧ Below w.heap.size w w' :=
 post_Unpack.calls_ 100000 A0 c0 l0 r1 r2 w hr0 hc0 h

/-! ### catchwordref01_Bytes: function 24 -/
def catchwordref01_Bytes.l0 : Nat → List Int → List Int → Int → Option (Bool)
 | 0, _, _, _ => none
 | k + 1, x0, x1, x5 => if x5 < (x0.length : Int) then (if 0 ≤ x5 then (if x5 < (x1.length : Int) then (if (rd x0 x5) = (rd x1 x5) then (catchwordref01_Bytes.l0 k x0 x1 (wrap64 (x5 + 1))) else (some false)) else (none)) else (none)) else (some true)
def catchwordref01_Bytes.f (k : Nat) (l0 : List Int) (l1 : List Int) : Option (Bool) := if (l0.length : Int) = (l1.length : Int) then (catchwordref01_Bytes.l0 k l0 l1 0) else (some false)
theorem catchwordref01_Bytes.mono_l : ∀ k, (∀ y0 y1 y2, LeO (catchwordref01_Bytes.l0 k y0 y1 y2) (catchwordref01_Bytes.l0 (k + 1) y0 y1 y2))
 | 0 => fun _ _ _ r h => by simp [catchwordref01_Bytes.l0] at h
 | k + 1 => by
  have ih0 := catchwordref01_Bytes.mono_l k
  ·intro y0 y1 y2
   unfold catchwordref01_Bytes.l0
   repeat' first
   | (with_reducible exact ih0 _ _ _)
   | (with_reducible exact LeO.refl _)
   | (with_reducible exact LeO.none _)
   | (with_reducible refine LeO.ite ?_ ?_)
   | (with_reducible refine LeO.bind ?_ (fun _ => ?_))
   | exact ih0 _ _ _
   | exact LeO.none _
   | refine LeO.ite ?_ ?_
   | refine LeO.bind ?_ (fun _ => ?_)
theorem catchwordref01_Bytes.mono : ∀ a0 a1 k, LeO (catchwordref01_Bytes.f k a0 a1) (catchwordref01_Bytes.f (k + 1) a0 a1) := by
 intro a0 a1 k
 have ih0 := catchwordref01_Bytes.mono_l k
 unfold catchwordref01_Bytes.f
 repeat' first
   | (with_reducible exact ih0 _ _ _)
   | (with_reducible exact LeO.refl _)
   | (with_reducible exact LeO.none _)
   | (with_reducible refine LeO.ite ?_ ?_)
   | (with_reducible refine LeO.bind ?_ (fun _ => ?_))
   | exact ih0 _ _ _
   | exact LeO.none _
   | refine LeO.ite ?_ ?_
   | refine LeO.bind ?_ (fun _ => ?_)
set_option maxHeartbeats 8000000 in
set_option maxRecDepth 100000 in
theorem catchwordref01_Bytes.calls (k : Nat) (A0 : Option Addr) (c0 : Nat) (l0 : List Int) (A1 : Option Addr) (c1 : Nat) (l1 : List Int) (r : Bool) (w : World) (hr0 : Kd.C (Kd.int .u8) w A0 l0.length l0) (hc0 : l0.length ≤ c0) (hr1 : Kd.C (Kd.int .u8) w A1 l1.length l1) (hc1 : l1.length ≤ c1) (h : catchwordref01_Bytes.f k l0 l1 = some r) :
  Calls Try.prog 24 #[.slice A0 l0.length c0, .slice A1 l1.length c1] w fun e w' => e = .returned (.bool r) ∧ Drawn0 w w' := by
 have HR0 := Aside0.mk hr0
 have HC0 := Aside0.mk hc0
 clear hr0 hc0
 have HR1 := Aside0.mk hr1
 have HC1 := Aside0.mk hc1
 clear hr1 hc1
 have H : (if (l0.length : Int) = (l1.length : Int) then (catchwordref01_Bytes.l0 k l0 l1 0) else (some false)) = some r := h
 clear h
 by_cases c3 : (l0.length : Int) = (l1.length : Int)
 ·rw [if_pos c3] at H
  have c3b0 : ((l0.length : Int) == (l1.length : Int)) = true := beq_iff_eq.mpr c3
  have c3b1 : ((l0.length : Int) != (l1.length : Int)) = false := bne_eq_false_iff_eq.mpr c3
  have c3b2 : (l0.length == l1.length) = true := by first | simpa using c3 | (simp at c3 ⊢; omega)
  clear c3
  have H' := Aside0.mk H
  clear H
  go_enter Try.func24, Try.ntmps24
  go_wp2
  repeat (go_quiet (fail); try go_wp2)
  go_loopg [5] k (fun kq v5 w' => ∃ (x5_1 : Int), v5 = .int .i64 x5_1 ∧ Aside0 (catchwordref01_Bytes.l0 kq l0 l1 x5_1 = some r) ∧ Aside0 (kq ≤ k) ∧ Drawn0 w w')
  case atStart => exact ⟨(0), (by first | rfl | (simp; done) | (simp [*]; done)), H', ⟨Nat.le_refl _⟩, by repeat (first | exact Drawn0.refl _ | apply Drawn0.step)⟩
  case round =>
   clear H'
   try clear c1
   try clear c2
   try clear p2
   try clear c3
   try clear c3b0
   try clear c3b1
   try clear c3b2
   obtain ⟨x5_1, rfl, HA, HK1, ⟨m1, rfl⟩⟩ := hrel
   cases gk with
   | zero => exact absurd HA.out (by simp [catchwordref01_Bytes.l0])
   | succ k1 =>
    have H := HA.out
    clear HA
    simp only [catchwordref01_Bytes.l0] at H
    by_cases c4 : x5_1 < (l0.length : Int)
    ·rw [if_pos c4] at H
     have c4b0 : decide (x5_1 < (l0.length : Int)) = true := decide_eq_true c4
     clear c4
     by_cases c5 : 0 ≤ x5_1
     ·rw [if_pos c5] at H
      have c5b0 : decide (0 ≤ x5_1) = true := decide_eq_true c5
      clear c5
      by_cases c6 : x5_1 < (l1.length : Int)
      ·rw [if_pos c6] at H
       have c6b0 : decide (x5_1 < (l1.length : Int)) = true := decide_eq_true c6
       clear c6
       by_cases c7 : (rd l0 x5_1) = (rd l1 x5_1)
       ·rw [if_pos c7] at H
        have c7b0 : ((rd l0 x5_1) == (rd l1 x5_1)) = true := beq_iff_eq.mpr c7
        have c7b1 : ((rd l0 x5_1) != (rd l1 x5_1)) = false := bne_eq_false_iff_eq.mpr c7
        clear c7
        have H' := Aside0.mk H
        clear H
        have p188 : 0 ≤ (x5_1 : Int) := of_decide_eq_true (by first | (with_reducible assumption) | assumption)
        have q188 : x5_1 < (l0.length : Int) := of_decide_eq_true (by first | (with_reducible assumption) | assumption)
        obtain ⟨ad188, e188, hx188_0⟩ := Kd.at_int HR0.out x5_1 p188 q188
        cases e188
        replace p188 := eq_true p188
        replace q188 := eq_true q188
        have p189 : 0 ≤ (x5_1 : Int) := of_decide_eq_true (by first | (with_reducible assumption) | assumption)
        have q189 : x5_1 < (l1.length : Int) := of_decide_eq_true (by first | (with_reducible assumption) | assumption)
        obtain ⟨ad189, e189, hx189_0⟩ := Kd.at_int HR1.out x5_1 p189 q189
        cases e189
        replace p189 := eq_true p189
        replace q189 := eq_true q189
        go_wp2
        repeat (go_quiet (fail); try go_wp2)
        go_roundg k1
        case measure => have := HK1.out; omega
        case rel => exact ⟨(wrap64 (x5_1 + 1)), (by first | rfl | (simp; done) | (simp [*]; done)), H', ⟨by have := HK1.out; omega⟩, by repeat (first | exact Drawn0.refl _ | apply Drawn0.step)⟩
       ·rw [if_neg c7] at H
        have c7b0 : ((rd l0 x5_1) == (rd l1 x5_1)) = false := beq_eq_false_iff_ne.mpr c7
        have c7b1 : ((rd l0 x5_1) != (rd l1 x5_1)) = true := bne_iff_ne.mpr c7
        obtain rfl := Option.some.inj H
        have p188 : 0 ≤ (x5_1 : Int) := of_decide_eq_true (by first | (with_reducible assumption) | assumption)
        have q188 : x5_1 < (l0.length : Int) := of_decide_eq_true (by first | (with_reducible assumption) | assumption)
        obtain ⟨ad188, e188, hx188_0⟩ := Kd.at_int HR0.out x5_1 p188 q188
        cases e188
        replace p188 := eq_true p188
        replace q188 := eq_true q188
        have p189 : 0 ≤ (x5_1 : Int) := of_decide_eq_true (by first | (with_reducible assumption) | assumption)
        have q189 : x5_1 < (l1.length : Int) := of_decide_eq_true (by first | (with_reducible assumption) | assumption)
        obtain ⟨ad189, e189, hx189_0⟩ := Kd.at_int HR1.out x5_1 p189 q189
        cases e189
        replace p189 := eq_true p189
        replace q189 := eq_true q189
        go_wp2
        repeat (go_quiet (fail); try go_wp2)
        go_ret
        exact ⟨by first | rfl | (simp; done) | (simp [*]; done), by repeat (first | exact Drawn0.refl _ | apply Drawn0.step)⟩
      ·rw [if_neg c6] at H
       exact absurd H (by simp)
     ·rw [if_neg c5] at H
      exact absurd H (by simp)
    ·rw [if_neg c4] at H
     have c4b0 : decide (x5_1 < (l0.length : Int)) = false := decide_eq_false c4
     clear c4
     obtain rfl := Option.some.inj H
     go_wp2
     repeat (go_quiet (fail); try go_wp2)
     go_ret
     exact ⟨by first | rfl | (simp; done) | (simp [*]; done), by repeat (first | exact Drawn0.refl _ | apply Drawn0.step)⟩
 ·rw [if_neg c3] at H
  have c3b0 : ((l0.length : Int) == (l1.length : Int)) = false := beq_eq_false_iff_ne.mpr c3
  have c3b1 : ((l0.length : Int) != (l1.length : Int)) = true := bne_iff_ne.mpr c3
  have c3b2 : (l0.length == l1.length) = false := by first | simpa using c3 | (simp at c3 ⊢; omega)
  obtain rfl := Option.some.inj H
  go_enter Try.func24, Try.ntmps24
  go_wp2
  repeat (go_quiet (fail); try go_wp2)
  go_ret
  exact ⟨by first | rfl | (simp; done) | (simp [*]; done), by repeat (first | exact Drawn0.refl _ | apply Drawn0.step)⟩

end Go.Proofs.Ytepmcdcncjimeaa.PPostTells
