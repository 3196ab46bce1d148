-- LAID BY this session's own printer (wip/pr): Lean checks it
import Derived.Test.YtepmcdcncjimeaaPPostTellsx0
import Derived.Test.YtepmcdcncjimeaaPPostTellsx1
import Derived.Test.YtepmcdcncjimeaaPPostTellsx3
import Derived.Test.YtepmcdcncjimeaaPPostTellsx4
import Derived.Test.YtepmcdcncjimeaaPPostTellsx5
import Derived.Test.YtepmcdcncjimeaaPPostTellsx6
import Derived.Test.YtepmcdcncjimeaaPPostTellsx8
import Derived.Deep.RegionLaw
import Derived.Deep.RegionWith
import Derived.RangeFuncNested
import Derived.RangeFuncBound
import Derived.RangeFuncCalls
import Derived.RangeFuncLeaves
import Derived.RangeFuncFrom
import Derived.RangeFuncWrites
import Derived.RangeFuncBox
import Derived.Sort.LoopGhostIn
import Derived.OrdersIn
import Derived.TacticsInMore
import Derived.Shelf.Spec.SlicesInsert
import Derived.Shelf.Spec.SlicesInsertGrow
import Derived.Shelf.Abstract
import Derived.Test.YtepmcdcncjimeaaVList
namespace Go.Proofs.Ytepmcdcncjimeaa.PPostTells
open Go.RowKit Go.Proofs.YtepmcdcncjimeaaW.PrintWords Go.Proofs.YtepmcdcncjimeaaW.PrintLast Go.Proofs.YtepmcdcncjimeaaW.PrintMore
attribute [local go_sem] max2_int min2_int max_two min_two max_three min_three max_four min_four   -- for this text's walks alone
set_option linter.unusedVariables false
set_option linter.unusedSimpArgs false

/-! ### post_Seek: function 25 -/

theorem R_span2 {α : Type} {d : Kd α} {e : Nat} {w w1 : World} {base g N : Nat} {v : Value} {xs : List α} (h : d.R e w base (fun k => k < N) v xs) (hg : w.grownBy w1 (some g)) (hne : ¬ (base ≤ g ∧ g < N)) : d.R e w1 base (fun k => k < N) v xs :=
 Kd.R_mono (Kd.R_grown (Kd.R_bound h) hg (fun k hk e => by injection e with e; exact hne ⟨by have := hk.2.1; omega, by have := hk.1; omega⟩)) (fun k hk => hk.1)
def post_first (doc : Int) (l : List S39) : Option S39 := l.find? (fun p => decide (p.f0 ≥ doc))
theorem rd_drop (l : List S39) (i : Nat) (h : i < l.length) : l.drop i = rd_T39 l (i : Int) :: l.drop (i + 1) := by
 rw [List.drop_eq_getElem_cons h]
 congr 1
 simp [rd_T39, List.getD_eq_getElem?_getD, List.getElem?_eq_getElem h]
theorem first_hit (doc : Int) (l : List S39) (i : Nat) (h : i < l.length) (hd : (rd_T39 l (i : Int)).f0 ≥ doc) : post_first doc (l.drop i) = some (rd_T39 l (i : Int)) := by
 rw [rd_drop l i h]
 simp [post_first, hd]
theorem first_miss (doc : Int) (l : List S39) (i : Nat) (h : i < l.length) (hd : ¬ (rd_T39 l (i : Int)).f0 ≥ doc) : post_first doc (l.drop i) = post_first doc (l.drop (i + 1)) := by
 rw [rd_drop l i h]
 simp [post_first, List.find?_cons, hd]
theorem wrap_succ (i n : Nat) (h : i < n) (hn : n ≤ 9223372036854775807) : wrap64 ((i : Int) + 1) = ((i + 1 : Nat) : Int) := by unfold wrap64; omega
def post_Seek.l0 : Nat → List Int → Int → Int → Int → Int → Int → Bool → Option (Int × List Int × Int × Int)
 | 0, _, _, _, _, _, _, _ => none
 | k + 1, b, doc, n, ahead, passed, at_, bad => if wrap64 (passed * 4) < n then ((post_block k b at_ bad).bind fun x => (if x.2.1 < doc then (post_Seek.l0 k b doc n x.2.1 (wrap64 (passed + 1)) x.2.2.1 x.2.2.2) else ((post_read.l0 k x.1 x.2.1 (mn 4 (wrap64 (n - (wrap64 (passed * 4))))) [] 0 ahead 0 false).bind fun r => (match post_first doc r.1 with
  | some p => some (p.f0, p.f1, passed, 0)
  | none => post_Seek.l0 k b doc n ahead (wrap64 (passed + 1)) x.2.2.1 x.2.2.2)))) else (some (0, ([] : List Int), 0, 2))
def post_Seek.g (k : Nat) (b : List Int) (doc : Int) : Option (Int × List Int × Int × Int) := (post_Unpack.g k b).bind fun u => (if u.2 = 0 then ((post_num k b 0 false).bind fun p => (post_Seek.l0 k b doc (u.1.length : Int) (-1) 0 p.2.1 p.2.2)) else (some (0, ([] : List Int), 0, u.2)))
def SeekPost (w : World) (r1 : Int) (r2 : List Int) (r3 r4 : Int) (e : Ending) (w' : World) : Prop := ∃ v1_ : Value, e = .returned (.tuple #[.agg #[.int .i64 r1, v1_], .int .i64 r3, .int .i64 r4]) ∧ Kd.R (Kd.int .i64) 3 w' w.heap.size (fun _ => True) v1_ r2 ∧ Below w.heap.size w w'

set_option maxHeartbeats 8000000 in
set_option maxRecDepth 100000 in
theorem post_Seek.calls_ (k : Nat) (A0 : Option Addr) (c0 : Nat) (l0 : List Int) (a1 : Int) (r1 : Int) (r2 : List Int) (r3 r4 : Int) (w : World) (hr0 : Kd.C (Kd.int .u8) w A0 l0.length l0) (hc0 : l0.length ≤ c0) (h : post_Seek.g k l0 a1 = some (r1, r2, r3, r4)) :
  Calls Try.prog 25 #[.slice A0 l0.length c0, .int .i64 a1] w fun e w' => SeekPost w r1 r2 r3 r4 e w' := by
 have hu39 := Try.underlying39
 have HR := Aside0.mk hr0
 have HC := Aside0.mk hc0
 unfold post_Seek.g at h
 replace h := Option.bind_eq_some_iff.mp h
 obtain ⟨⟨u1, u2⟩, h1, h⟩ := h
 simp only at h
 have A1 := Aside0.mk h1
 clear hr0 hc0 h1
 obtain ⟨wa, hwa⟩ : ∃ wa, wa = w.alloc (.cells #[.int .i64 0, .slice none 0 0] 39) := ⟨_, rfl⟩
 have HXa : Aside0 (wa.heap[w.heap.size]? = some (.cells #[.int .i64 0, .slice none 0 0] 39 (0, 0))) := ⟨by rw [hwa]; exact heap_alloc_new w _⟩
 have HBa : Aside0 (Below w.heap.size w wa) := ⟨by rw [hwa]; exact below_alloc (Below.refl _ _) _⟩
 by_cases c1 : u2 = 0
 ·rw [if_pos c1] at h
  have c1b : (u2 != 0) = false := bne_eq_false_iff_eq.mpr c1
  subst c1
  replace h := Option.bind_eq_some_iff.mp h
  obtain ⟨⟨n, p2, p3⟩, h2, h⟩ := h
  simp only at h
  have A2 := Aside0.mk h2
  have H' := Aside0.mk h
  clear h2 h
  go_enter Try.func25, Try.ntmps25
  go_wp2_with (first
   | (go_at_call 22; (try rw [← hwa]); refine (post_Unpack.calls_ k A0 c0 l0 u1 0 wa (Kd.C_below HR.out HBa.out) HC.out A1.out).mono ?_; clear A1; rintro e w4 ⟨v4, rfl, ho4, hb4⟩; have HX4 := Aside0.mk (blk_below HXa.out hb4); have HB4 := Aside0.mk (below_step HBa.out hb4); obtain ⟨A4_, c4_, e4_⟩ := Kd.S_slice ho4; subst e4_; clear ho4 hb4 HXa HBa hwa; obtain ⟨wb, hwb⟩ : ∃ wb, wb = w4.alloc (.cells #[.slice A0 l0.length c0, .int .i64 0, .bool false] 64) := ⟨_, rfl⟩; have HGb : Aside0 (wb.heap[w4.heap.size]? = some (curO A0 l0 c0 0 false [] 64)) := ⟨by rw [hwb]; exact heap_alloc_new w4 _⟩; have HXb : Aside0 (wb.heap[w.heap.size]? = some (.cells #[.int .i64 0, .slice none 0 0] 39 (0, 0))) := ⟨by rw [hwb]; exact blk_alloc HX4.out _⟩; have HBb : Aside0 (Below w.heap.size w wb) := ⟨by rw [hwb]; exact below_alloc HB4.out _⟩; have HL4 := Aside0.mk (blk_lt HX4.out))
   | (go_at_call 45; (try rw [← hwb]); refine (post_num.calls k w4.heap.size 64 A0 l0 c0 0 false [] n p2 p3 w _ HBb.out HGb.out HR.out HC.out A2.out).mono ?_; clear A2; rintro e w5 ⟨rfl, hg5, hb5⟩; have HG5 := Aside0.mk hg5; have HX5 := Aside0.mk (blk_grown HXb.out hb5 (fun e_ => by injection e_ with e_; have := HL4.out; omega)); have HB5 := Aside0.mk (HBb.out.grown hb5 HBb.out.size (fun j hj => by injection hj with hj; have := HL4.out; omega)); clear hg5 hb5 HGb HXb HBb hwb HX4 HB4))
  generalize hg9 : w4.heap.size = g9 at HG5 HL4 ⊢
  clear hg9
  go_loopg [10, 11] k (fun kq v10 v11 w' => ∃ (x10 x11 : Int) (xa : Int) (xb : Bool), v10 = .int .i64 x10 ∧ v11 = .int .i64 x11 ∧ Aside0 (post_Seek.l0 kq l0 a1 (u1.length : Int) x10 x11 xa xb = some (r1, r2, r3, r4)) ∧ Aside0 (kq ≤ k) ∧ Aside0 (w'.heap[g9]? = some (curO A0 l0 c0 xa xb [] 64)) ∧ Aside0 (w'.heap[w.heap.size]? = some (.cells #[.int .i64 0, .slice none 0 0] 39 (0, 0))) ∧ Aside0 (Below w.heap.size w w'))
  case atStart => exact ⟨-1, 0, p2, p3, rfl, rfl, H', ⟨Nat.le_refl _⟩, HG5, HX5, HB5⟩
  case round =>
   clear H' HG5 HX5 HB5
   obtain ⟨x10, x11, xa, xb, rfl, rfl, HA, HK1, HG, HX, HB⟩ := hrel
   cases gk with
   | zero => exact absurd HA.out (by simp [post_Seek.l0])
   | succ k1 =>
    have H := HA.out
    clear HA
    simp only [post_Seek.l0] at H
    by_cases d1 : wrap64 (x11 * 4) < (u1.length : Int)
    ·rw [if_pos d1] at H
     have d1b : decide (wrap64 (x11 * 4) < (u1.length : Int)) = true := decide_eq_true d1
     clear d1
     replace H := Option.bind_eq_some_iff.mp H
     obtain ⟨⟨s1, s2, s3, s4⟩, h1, H⟩ := H
     simp only at H
     have A1 := Aside0.mk h1
     clear h1
     by_cases d2 : s2 < a1
     ·rw [if_pos d2] at H
      have d2b : decide (s2 < a1) = true := decide_eq_true d2
      clear d2
      have H' := Aside0.mk H
      clear H
      go_wp2_with (go_at_call 46; refine (post_block.calls k1 g9 64 A0 l0 c0 xa xb [] s1 s2 s3 s4 w wr HB.out (Nat.le_of_lt HL4.out) HG.out HR.out HC.out A1.out).mono ?_; rintro e w4 ⟨g2, A2_, c2_, rfl, hle, hg2, hr2, hc2_, hg4, hb4⟩; have HG4 := Aside0.mk hg4; have HX2 := Aside0.mk hg2; have HR2 := Aside0.mk hr2; have HC2 := Aside0.mk hc2_; have HLE := Aside0.mk hle; have HLT := Aside0.mk (blk_lt HX.out); have HLG := Aside0.mk (blk_lt HG.out); have HX4 := Aside0.mk (blk_grown HX.out hb4 (fun e_ => by injection e_ with e_; have := HL4.out; omega)); have HB4 := Aside0.mk (HB.out.grown hb4 HB.out.size (fun j hj => by injection hj with hj; have := HL4.out; omega)); have hx3 : w4.cell? ⟨g2, 3, none⟩ = some (.int .i64 s2) := (blk_cell hg2 3).trans rfl; clear hle hg2 hr2 hc2_ hg4 hb4 A1 HG HX HB)
      go_roundg k1
      case measure => have := HK1.out; omega
      case rel => exact ⟨s2, wrap64 (x11 + 1), s3, s4, (by first | rfl | (simp; done)), (by first | rfl | (simp; done)), H', ⟨by have := HK1.out; omega⟩, HG4, HX4, HB4⟩
     ·rw [if_neg d2] at H
      have d2b : decide (s2 < a1) = false := decide_eq_false d2
      clear d2
      replace H := Option.bind_eq_some_iff.mp H
      obtain ⟨⟨t1, t2⟩, h2, H⟩ := H
      simp only at H
      have A2 := Aside0.mk h2
      have H' := Aside0.mk H
      clear h2 H
      go_wp2_with (first
       | (go_at_call 46; refine (post_block.calls k1 g9 64 A0 l0 c0 xa xb [] s1 s2 s3 s4 w wr HB.out (Nat.le_of_lt HL4.out) HG.out HR.out HC.out A1.out).mono ?_; rintro e w4 ⟨g2, A2_, c2_, rfl, hle, hg2, hr2, hc2_, hg4, hb4⟩; have HG4 := Aside0.mk hg4; have HX2 := Aside0.mk hg2; have HR2 := Aside0.mk hr2; have HC2 := Aside0.mk hc2_; have HLE := Aside0.mk hle; have HLT := Aside0.mk (blk_lt HX.out); have HLG := Aside0.mk (blk_lt HG.out); have HX4 := Aside0.mk (blk_grown HX.out hb4 (fun e_ => by injection e_ with e_; have := HL4.out; omega)); have HB4 := Aside0.mk (HB.out.grown hb4 HB.out.size (fun j hj => by injection hj with hj; have := HL4.out; omega)); have hx3 : w4.cell? ⟨g2, 3, none⟩ = some (.int .i64 s2) := (blk_cell hg2 3).trans rfl; clear hle hg2 hr2 hc2_ hg4 hb4 A1 HG HX HB)
       | (go_at_call 47; refine (post_read.calls k1 g2 A2_ s1 c2_ 0 false s2 x10 (mn 4 (wrap64 ((u1.length : Int) - (wrap64 (x11 * 4))))) t1 t2 w w4 HB4.out (by have := HLE.out; have := HLT.out; omega) HX2.out HR2.out HC2.out A2.out).mono ?_; rintro e w5 ⟨v5, xc, rfl, ho5, hg5, hb5⟩; have HS5 := Aside0.mk ho5; have HG5 := Aside0.mk (blk_grown HG4.out hb5 (fun e_ => by injection e_ with e_; have := HLG.out; have := HLE.out; omega)); have HX5 := Aside0.mk (blk_grown HX4.out hb5 (fun e_ => by injection e_ with e_; have := HLT.out; have := HLE.out; omega)); have HB5 := Aside0.mk (HB4.out.grown hb5 HB4.out.size (fun j hj => by injection hj with hj; have := HLE.out; have := HLT.out; omega)); have HLB := Aside0.mk (blk_lt HX4.out); clear ho5 hg5 hb5 A2 HG4 HX4 HB4 HX2 hx3; obtain ⟨A5_, c5_, e5_⟩ := Kd.S_slice HS5.out; subst e5_))
      all_goals
       generalize hbs : w4.heap.size = bs at HS5 HLB
       clear hbs
       obtain ⟨F, hF⟩ : ∃ F, post_first a1 t1 = F := ⟨_, rfl⟩
       rw [hF] at H'
       have HF0 : Aside0 (post_first a1 (t1.drop 0) = F) := ⟨by rw [List.drop_zero]; exact hF⟩
       clear hF
       go_loopg [58] t1.length (fun kq v58 w' => ∃ (x58 : Int) (i : Nat), v58 = .int .i64 x58 ∧ Aside0 (x58 = (i : Int)) ∧ Aside0 (kq + i = t1.length) ∧ Aside0 (post_first a1 (t1.drop i) = F) ∧ Aside0 (w'.heap[g9]? = some (curO A0 l0 c0 s3 s4 [] 64)) ∧ Aside0 (w'.heap[w.heap.size]? = some (.cells #[.int .i64 0, .slice none 0 0] 39 (0, 0))) ∧ Aside0 (Kd.S k39 39 w' bs (fun _ => True) (.slice A5_ t1.length c5_) t1) ∧ Aside0 (Below w.heap.size w w'))
       case atStart => exact ⟨0, 0, rfl, ⟨rfl⟩, ⟨Nat.add_zero _⟩, HF0, HG5, HX5, HS5, HB5⟩
       case round =>
        clear HF0 HG5 HX5 HS5 HB5
        obtain ⟨x58, i, rfl, HX58, HI, HF, HG, HX, HS, HB⟩ := hrel
        have hlen := (Kd.S_reads' HS.out).2.2.2.1
        by_cases e1 : i < t1.length
        ·have p0 : (0 : Int) ≤ x58 := by have := HX58.out; omega
         have q0 : x58 < (t1.length : Int) := by have := HX58.out; omega
         have e1b : decide (x58 < (t1.length : Int)) = true := decide_eq_true q0
         have HW1 : Aside0 (wrap64 (x58 + 1) = ((i + 1 : Nat) : Int)) := ⟨by rw [HX58.out]; exact wrap_succ i _ e1 hlen⟩
         obtain ⟨ad, Ae, ce, ead, hx0, hx1, hl1, hi1⟩ := at_T39 (Kd.S_reads' HS.out).2.2 x58 p0 q0
         cases ead
         obtain ⟨cel, hcel, hMe, hcc⟩ := Kd.S_get HS.out z39 x58 p0 q0
         obtain ⟨ve, rfl, hRe⟩ := k39_openM hMe
         have hv := hcc 1 _ rfl
         rw [add_field _ _ 1 (by omega)] at hv
         replace hv := Option.some.inj (hv.symm.trans hx1)
         rw [hv] at hRe
         have HL := Aside0.mk (show Kd.R (Kd.int .i64) 3 wr bs (fun k_ => k_ < wr.heap.size) (.slice Ae (rd_T39 t1 x58).f1.length ce) ((rd_T39 t1 x58).f1) from Kd.R_mono (Kd.R_bound (show Kd.R (Kd.int .i64) 3 wr bs _ (.slice Ae (rd_T39 t1 x58).f1.length ce) ((rd_T39 t1 x58).f1) from hRe)) (fun k_ hk => hk.2.2.1))
         have HSN := Aside0.mk (show Kd.S k39 39 wr bs (fun k_ => k_ < wr.heap.size) (.slice (some ad) t1.length c5_) t1 from Kd.S_mono (Kd.S_bound HS.out) (fun k_ hk => hk.2.2.1))
         have HLX := Aside0.mk (blk_lt HX.out)
         have HLG := Aside0.mk (blk_lt HG.out)
         clear hv hRe hcc hcel hl1 hi1 HS hMe hlen
         replace p0 := eq_true p0
         replace q0 := eq_true q0
         by_cases e2 : (rd_T39 t1 x58).f0 ≥ a1
         ·have e2b : decide (a1 ≤ (rd_T39 t1 x58).f0) = true := decide_eq_true e2
          have hF : F = some (rd_T39 t1 x58) := by rw [← HF.out, HX58.out]; exact first_hit a1 t1 i e1 (by rw [← HX58.out]; exact e2)
          have H := H'.out
          rw [hF] at H
          simp only [Option.some.injEq, Prod.mk.injEq] at H
          obtain ⟨rfl, rfl, rfl, rfl⟩ := H
          clear H' HF hF e2
          go_wp2_with ((with_reducible refine gate_dst (N := 14) rfl ?_); refine box_event ?hg (N := 14) ?hd (cs := #[.int .i64 0, .slice none 0 0]) (t := 39) ?hr ?_; (case hd => rfl); (case hg => rfl); (case hr => first | (go_simp; done) | (go_simp; rfl)); intro gb hgb w6 hbox hb; have HG6 := Aside0.mk (blk_below HG.out hb); have HX6 := Aside0.mk (blk_below HX.out hb); have HL6 := Aside0.mk (Kd.R_below HL.out hb); have HS6 := Aside0.mk (Kd.S_below HSN.out hb); have HB6 := Aside0.mk (below_step HB.out hb); have hx0 := (hb.cell (World.block_lt_of_cell? wr _ hx0)).trans hx0; have hx1 := (hb.cell (World.block_lt_of_cell? wr _ hx1)).trans hx1; have hcz0 : w6.cell? ⟨gb, 0, none⟩ = some (.int .i64 0) := (blk_cell hbox 0).trans rfl; have hcz1 : w6.cell? ⟨gb, 1, none⟩ = some (.slice none 0 0) := (blk_cell hbox 1).trans rfl; have hfz0 := blk_frozen hbox 0; have hfz1 := blk_frozen hbox 1; have hr0 : w6.cell? ⟨w.heap.size, 0, none⟩ = some (.int .i64 0) := (blk_cell HX6.out 0).trans rfl; have hr1 : w6.cell? ⟨w.heap.size, 1, none⟩ = some (.slice none 0 0) := (blk_cell HX6.out 1).trans rfl; have hrf0 := blk_frozen HX6.out 0; have hrf1 := blk_frozen HX6.out 1; have hgw : w.heap.size < gb := (by rw [hgb]; exact HLX.out); have hnb : gb ≠ w.heap.size := (by omega); have hnc : w.heap.size ≠ gb := (by omega); have hnd : g9 ≠ gb := (by rw [hgb]; exact Nat.ne_of_lt HLG.out); have HGE := Aside0.mk hgb; clear hgb hb hbox HG HX HL HSN HB)
          refine bodyPost_ret (results_ctt rfl _ _ w.heap.size 39 #[.int .i64 ((rd_T39 t1 x58).f0), .slice Ae ((rd_T39 t1 x58).f1).length ce] (0, 0) _ rfl (blk_put (cs := #[.int .i64 ((rd_T39 t1 x58).f0), .slice none 0 0]) (blk_put (cs := #[.int .i64 0, .slice none 0 0]) (blk_far (blk_far HX6.out hnc _) hnc _) 0 _ rfl) 1 _ rfl) Try.underlying39 rfl (by kernel_rfl)) rfl ?_
          unfold SeekPost
          exact ⟨_, rfl, Kd.R_lower (Kd.R_mono (R_span2 (R_span2 (R_span2 (R_span2 HL6.out (grown_set _ _ _ _) (by have := HGE.out; omega)) (grown_set _ _ _ _) (by have := HGE.out; omega)) (grown_set _ _ _ _) (by have := HLB.out; omega)) (grown_set _ _ _ _) (by have := HLB.out; omega)) (fun _ _ => trivial)) (Nat.le_of_lt HLB.out), below_set (below_set (below_set (below_set HB6.out (Nat.le_of_lt hgw)) (Nat.le_of_lt hgw)) (Nat.le_refl _)) (Nat.le_refl _)⟩
         ·have e2b : decide (a1 ≤ (rd_T39 t1 x58).f0) = false := decide_eq_false e2
          have HF' : Aside0 (post_first a1 (t1.drop (i + 1)) = F) := ⟨by rw [← HF.out]; exact (first_miss a1 t1 i e1 (by rw [← HX58.out]; exact e2)).symm⟩
          clear HF e2
          go_wp2_with ((with_reducible refine gate_dst (N := 14) rfl ?_); refine box_event ?hg (N := 14) ?hd (cs := #[.int .i64 0, .slice none 0 0]) (t := 39) ?hr ?_; (case hd => rfl); (case hg => rfl); (case hr => first | (go_simp; done) | (go_simp; rfl)); intro gb hgb w6 hbox hb; have HG6 := Aside0.mk (blk_below HG.out hb); have HX6 := Aside0.mk (blk_below HX.out hb); have HL6 := Aside0.mk (Kd.R_below HL.out hb); have HS6 := Aside0.mk (Kd.S_below HSN.out hb); have HB6 := Aside0.mk (below_step HB.out hb); have hx0 := (hb.cell (World.block_lt_of_cell? wr _ hx0)).trans hx0; have hx1 := (hb.cell (World.block_lt_of_cell? wr _ hx1)).trans hx1; have hcz0 : w6.cell? ⟨gb, 0, none⟩ = some (.int .i64 0) := (blk_cell hbox 0).trans rfl; have hcz1 : w6.cell? ⟨gb, 1, none⟩ = some (.slice none 0 0) := (blk_cell hbox 1).trans rfl; have hfz0 := blk_frozen hbox 0; have hfz1 := blk_frozen hbox 1; have hr0 : w6.cell? ⟨w.heap.size, 0, none⟩ = some (.int .i64 0) := (blk_cell HX6.out 0).trans rfl; have hr1 : w6.cell? ⟨w.heap.size, 1, none⟩ = some (.slice none 0 0) := (blk_cell HX6.out 1).trans rfl; have hrf0 := blk_frozen HX6.out 0; have hrf1 := blk_frozen HX6.out 1; have hgw : w.heap.size < gb := (by rw [hgb]; exact HLX.out); have hnb : gb ≠ w.heap.size := (by omega); have hnc : w.heap.size ≠ gb := (by omega); have hnd : g9 ≠ gb := (by rw [hgb]; exact Nat.ne_of_lt HLG.out); have HGE := Aside0.mk hgb; clear hgb hb hbox HG HX HL HSN HB)
          go_roundg (gk - 1)
          case measure => have := HI.out; omega
          case rel => exact ⟨wrap64 (x58 + 1), i + 1, (by first | rfl | (simp; done)), HW1, ⟨by have := HI.out; omega⟩, HF', ⟨blk_far (blk_far HG6.out hnd _) hnd _⟩, ⟨blk_far (blk_far HX6.out hnc _) hnc _⟩, ⟨Kd.S_mono (S_span2 (S_span2 HS6.out (grown_set _ _ _ _) (by have := HGE.out; omega)) (grown_set _ _ _ _) (by have := HGE.out; omega)) (fun _ _ => trivial)⟩, ⟨below_set (below_set HB6.out (Nat.le_of_lt hgw)) (Nat.le_of_lt hgw)⟩⟩
        ·have e1b : decide (x58 < (t1.length : Int)) = false := decide_eq_false (by have := HX58.out; omega)
         have hF : F = none := by rw [← HF.out, List.drop_eq_nil_of_le (by omega)]; rfl
         have H := H'.out
         rw [hF] at H
         have H' := Aside0.mk (show post_Seek.l0 k1 l0 a1 (u1.length : Int) x10 (wrap64 (x11 + 1)) s3 s4 = some (r1, r2, r3, r4) from H)
         clear H HF hF
         go_wp2
         go_roundg k1
         case measure => have := HK1.out; omega
         case rel => exact ⟨x10, wrap64 (x11 + 1), s3, s4, (by first | rfl | (simp; done)), (by first | rfl | (simp; done)), H', ⟨by have := HK1.out; omega⟩, HG, HX, HB⟩
    ·rw [if_neg d1] at H
     have d1b : decide (wrap64 (x11 * 4) < (u1.length : Int)) = false := decide_eq_false d1
     clear d1
     simp only [Option.some.injEq, Prod.mk.injEq] at H
     obtain ⟨rfl, rfl, rfl, rfl⟩ := H
     have hr0 : wr.cell? ⟨w.heap.size, 0, none⟩ = some (.int .i64 0) := (blk_cell HX.out 0).trans rfl
     have hr1 : wr.cell? ⟨w.heap.size, 1, none⟩ = some (.slice none 0 0) := (blk_cell HX.out 1).trans rfl
     have hrf0 := blk_frozen HX.out 0
     have hrf1 := blk_frozen HX.out 1
     go_wp2
     refine bodyPost_ret (results_ctt rfl _ _ w.heap.size 39 #[.int .i64 0, .slice none 0 0] (0, 0) _ rfl (blk_put (cs := #[.int .i64 0, .slice none 0 0]) (blk_put (cs := #[.int .i64 0, .slice none 0 0]) HX.out 0 _ rfl) 1 _ rfl) Try.underlying39 rfl (by kernel_rfl)) rfl ?_
     unfold SeekPost
     exact ⟨_, rfl, Kd.R_nil _ _ _ _ _, below_set (below_set HB.out (Nat.le_refl _)) (Nat.le_refl _)⟩
 ·rw [if_neg c1] at h
  have c1b : (u2 != 0) = true := bne_iff_ne.mpr c1
  clear c1
  simp only [Option.some.injEq, Prod.mk.injEq] at h
  obtain ⟨rfl, rfl, rfl, rfl⟩ := h
  go_enter Try.func25, Try.ntmps25
  go_wp2_with (go_at_call 22; (try rw [← hwa]); refine (post_Unpack.calls_ k A0 c0 l0 u1 u2 wa (Kd.C_below HR.out HBa.out) HC.out A1.out).mono ?_; clear A1; rintro e w4 ⟨v4, rfl, ho4, hb4⟩; have HX4 := Aside0.mk (blk_below HXa.out hb4); have HB4 := Aside0.mk (below_step HBa.out hb4); clear ho4 hb4 HXa HBa hwa; have hr0 : w4.cell? ⟨w.heap.size, 0, none⟩ = some (.int .i64 0) := (blk_cell HX4.out 0).trans rfl; have hr1 : w4.cell? ⟨w.heap.size, 1, none⟩ = some (.slice none 0 0) := (blk_cell HX4.out 1).trans rfl; have hrf0 := blk_frozen HX4.out 0; have hrf1 := blk_frozen HX4.out 1)
  refine bodyPost_ret (results_ctt rfl _ _ w.heap.size 39 #[.int .i64 0, .slice none 0 0] (0, 0) _ rfl (blk_put (cs := #[.int .i64 0, .slice none 0 0]) (blk_put (cs := #[.int .i64 0, .slice none 0 0]) HX4.out 0 _ rfl) 1 _ rfl) Try.underlying39 rfl (by kernel_rfl)) rfl ?_
  unfold SeekPost
  exact ⟨_, rfl, Kd.R_nil _ _ _ _ _, below_set (below_set HB4.out (Nat.le_refl _)) (Nat.le_refl _)⟩

def post_Seek.f (l0 : List Int) (a1 : Int) : Option (Int × List Int × Int × Int) := post_Seek.g 100000 l0 a1
theorem post_Seek.calls (A0 : Option Addr) (c0 : Nat) (l0 : List Int) (a1 : Int) (r1 : Int) (r2 : List Int) (r3 : Int) (r4 : Int) (w : World) (hr0 : Kd.C (Kd.int .u8) w A0 l0.length l0) (hc0 : l0.length ≤ c0) (h : post_Seek.f l0 a1 = some (r1, r2, r3, r4)) :
  Calls Try.prog 25 #[.slice A0 l0.length c0, .int .i64 a1] w fun e w' => ∃ v1_ : Value, e = .returned (.tuple #[.agg #[.int .i64 r1, v1_], .int .i64 r3, .int .i64 r4]) ∧ Kd.R (Kd.int .i64) 3 w' w.heap.size (fun _ => True) v1_ r2 ∧ Below w.heap.size w w' :=
 post_Seek.calls_ 100000 A0 c0 l0 a1 r1 r2 r3 r4 w hr0 hc0 h

/-! ### catchwordlaw06_awake: function 10 -/
set_option maxRecDepth 100000 in
theorem aw_put1 : post_Put.f [] 3 2 = some ([⟨3, [2]⟩], 0) := by kernel_rfl
set_option maxRecDepth 100000 in
theorem aw_put2 : post_Put.f [⟨3, [2]⟩] 3 0 = some ([⟨3, [0, 2]⟩], 0) := by kernel_rfl
set_option maxRecDepth 100000 in
theorem aw_may : post_May.f 1000 [⟨3, [0, 2]⟩] = some true := by kernel_rfl
set_option maxRecDepth 100000 in
theorem aw_seek : post_Seek.f [1, 3, 4, 3, 2, 0, 1] 2 = some (3, [0, 2], 0, 0) := by kernel_rfl
set_option maxRecDepth 100000 in
theorem aw_unpack : post_Unpack.f [1, 3, 4, 3, 2, 0, 1] = some ([⟨3, [0, 2]⟩], 0) := by kernel_rfl
set_option maxRecDepth 100000 in
theorem aw_find : post_Find.f 1000 [⟨3, [0, 2]⟩] 3 = some 0 := by kernel_rfl
set_option maxRecDepth 100000 in
theorem aw_same : post_Same.f 1000 [⟨3, [0, 2]⟩] [⟨3, [0, 2]⟩] = some true := by kernel_rfl
set_option maxRecDepth 100000 in
theorem aw_rsame : catchwordref06_Same.f 1000 [⟨3, [0, 2]⟩] [⟨3, [0, 2]⟩] = some true := by kernel_rfl
set_option maxRecDepth 100000 in
theorem aw_bytes : catchwordref01_Bytes.f 1000 [1, 3, 4, 3, 2, 0, 1] [1, 3, 4, 3, 2, 0, 1] = some true := by kernel_rfl
section
open Go.Proofs.Ytepmcdcncjimeaa.VSpec
theorem aw_pack : post_Pack.f 1000 [⟨3, [0, 2]⟩] = some ([1, 3, 4, 3, 2, 0, 1], 0) := by
 have e : ∀ n : Int, 0 ≤ n → n < 128 → putR n = [n] := fun n h0 h1 => by unfold putR; rw [if_pos ⟨h0, by omega⟩, enc_small h1]
 have r : (riseR [0, 2]).1 = [2, 0, 1] := by
  unfold riseR
  rw [if_pos (by decide)]
  simp only [steps, List.length_cons, List.length_nil, encAll_cons]
  rw [enc_small (by omega), enc_small (by omega), enc_small (by omega)]
  rfl
 unfold post_Pack.f
 rw [aw_may, Option.bind_some, if_pos rfl, if_pos (by decide)]
 have hc : chunksR [(⟨3, [0, 2]⟩ : S39)] = [[⟨3, [0, 2]⟩]] := by rfl
 unfold packF
 rw [hc]
 simp only [List.foldl_cons, List.foldl_nil, packC, packB, r, List.nil_append, List.length_cons, List.length_nil]
 rw [show wrap64 (wrap64 (3 - -1) - 1) = 3 by rw [w64 (x := 3 - -1) (by omega) (by omega), w64 (by omega) (by omega)]; rfl, e 3 (by omega) (by omega)]
 simp only [List.length_append, List.length_cons, List.length_nil]
 rw [e _ (by decide) (by decide), e _ (by decide) (by decide)]
 rfl
end
/-- A row of bytes that is laid as it stands in the text. -/
theorem aw_row (W : World) : (Kd.int .u8).R 5 (W.alloc (.cells #[.int .u8 1, .int .u8 3, .int .u8 4, .int .u8 3, .int .u8 2, .int .u8 0, .int .u8 1] 5)) W.heap.size (fun _ => True) (.slice (some ⟨W.heap.size, 0, none⟩) 7 7) [1, 3, 4, 3, 2, 0, 1] :=
 Kd.R_of_own (xs := [1, 3, 4, 3, 2, 0, 1]) (own_new (n := 7) (cap := 7) _ (Nat.le_refl _) (Nat.le_refl _) (by unfold maxLen; omega) rfl rfl rfl) (fun _ _ => trivial)
theorem aw_row' (W : World) (n : Nat) (hn : n = W.heap.size) : (Kd.int .u8).R 5 (W.alloc (.cells #[.int .u8 1, .int .u8 3, .int .u8 4, .int .u8 3, .int .u8 2, .int .u8 0, .int .u8 1] 5)) W.heap.size (fun _ => True) (.slice (some ⟨n, 0, none⟩) 7 7) [1, 3, 4, 3, 2, 0, 1] := by
 subst hn
 exact aw_row W
def AwQ (w : World) (e : Ending) (w' : World) : Prop := e = .returned (.bool true) ∧ Below w.heap.size w w'
set_option maxHeartbeats 8000000 in
set_option maxRecDepth 100000 in
theorem aw_calls (w : World) : Calls Try.prog 10 #[] w fun e w' => AwQ w e w' := by
 have hu39 := Try.underlying39
 go_enter Try.func10, Try.ntmps10
 go_wp2_with (first
  | (go_at_call_of 12 (Value.int IntKind.i64 2); refine (post_Put.calls none 0 [] 3 2 _ _ w (Kd.C_nil _ _) (Nat.le_refl _) aw_put1).mono ?_; rintro e w1 ⟨v1, rfl, hs, hb⟩; have HS := Aside0.mk hs; have HB := Aside0.mk hb; clear hs hb; obtain ⟨A1, c1, e1⟩ := Kd.S_slice HS.out; subst e1)
  | (go_at_call_of 12 (Value.int IntKind.i64 0); refine (post_Put.calls A1 c1 [⟨3, [2]⟩] 3 0 _ _ w1 (Kd.S_reads' HS.out).2.2 (Kd.S_reads' HS.out).2.1 aw_put2).mono ?_; rintro e w2 ⟨v2, rfl, hs, hb⟩; have HS2 := Aside0.mk (Kd.S_lower hs HB.out.size); have HB2 := Aside0.mk (below_step HB.out hb); clear hs hb HS HB; obtain ⟨A2, c2, e2⟩ := Kd.S_slice HS2.out; subst e2)
  | (go_at_call 20; refine (post_Pack.calls 1000 A2 c2 [⟨3, [0, 2]⟩] _ _ w2 (Kd.S_reads' HS2.out).2.2 (Kd.S_reads' HS2.out).2.1 aw_pack).mono ?_; rintro e w3 ⟨v3, rfl, hs, hb⟩; have HL3 := Aside0.mk (Kd.S_below HS2.out hb); have HP3 := Aside0.mk hs; have HB3 := Aside0.mk (below_step HB2.out hb); clear hs hb HS2 HB2; obtain ⟨A3, c3, e3⟩ := Kd.R_slice HP3.out; subst e3)
  | (go_at_call 22; refine (post_Unpack.calls (some ⟨w3.heap.size, 0, none⟩) 7 [1, 3, 4, 3, 2, 0, 1] _ _ _ (Kd.R_reads' (aw_row w3)).2.2 (Nat.le_refl _) aw_unpack).mono ?_; rintro e w4 ⟨v4, rfl, hs, hb⟩; have hb' := (below_alloc (Below.refl w3.heap.size w3) (.cells #[.int .u8 1, .int .u8 3, .int .u8 4, .int .u8 3, .int .u8 2, .int .u8 0, .int .u8 1] 5)).trans (hb.mono (by simp)); have HL4 := Aside0.mk (Kd.S_below HL3.out hb'); have HP4 := Aside0.mk (Kd.R_below HP3.out hb'); have HM4 := Aside0.mk hs; have HB4 := Aside0.mk (below_step HB3.out hb'); clear hs hb hb' HL3 HP3 HB3; obtain ⟨A4, c4, e4⟩ := Kd.S_slice HM4.out; subst e4)
  | (go_at_call 25; refine (post_Seek.calls A3 c3 [1, 3, 4, 3, 2, 0, 1] 2 _ _ _ _ w4 (Kd.R_reads' HP4.out).2.2 (Kd.R_reads' HP4.out).2.1 aw_seek).mono ?_; rintro e w5 ⟨v5, rfl, hs, hb⟩; have HL5 := Aside0.mk (Kd.S_below HL4.out hb); have HP5 := Aside0.mk (Kd.R_below HP4.out hb); have HM5 := Aside0.mk (Kd.S_below HM4.out hb); have HX5 := Aside0.mk hs; have HB5 := Aside0.mk (below_step HB4.out hb); clear hs hb HL4 HP4 HM4 HB4; obtain ⟨A5, c5, e5⟩ := Kd.R_slice HX5.out; subst e5)
  | ((with_reducible refine gate_dst (N := 8) rfl ?_); refine box_event ?hg (N := 8) ?hd (cs := #[.int .i64 0, .slice none 0 0]) (t := 39) ?hr ?_; (case hd => rfl); (case hg => rfl); (case hr => first | (go_simp; done) | (go_simp; rfl)); intro gb hgb w6 hbox hb; have HGB := Aside0.mk hgb; have HBX := Aside0.mk hbox; have HBL := Aside0.mk hb; have hcz0 : w6.cell? ⟨gb, 0, none⟩ = some (.int .i64 0) := (blk_cell hbox 0).trans rfl; have hcz1 : w6.cell? ⟨gb, 1, none⟩ = some (.slice none 0 0) := (blk_cell hbox 1).trans rfl; have hfz0 := blk_frozen hbox 0; have hfz1 := blk_frozen hbox 1; clear hgb hbox hb)
  | (go_at_call 24; obtain ⟨W7, hW7⟩ : ∃ W7, W7 = (w6.setCell ⟨gb, 0, none⟩ (.int .i64 3)).setCell ⟨gb, 1, none⟩ (.slice A5 2 c5) := ⟨_, rfl⟩; rw [← hW7]; have hge : w5.heap.size ≤ gb := (by rw [HGB.out]; exact Nat.le_refl _); have hb7 : Below w5.heap.size w5 W7 := (by rw [hW7]; exact below_set (below_set HBL.out hge) hge); have hx7 : W7.heap[gb]? = some (.cells #[.int .i64 3, .slice A5 2 c5] 39 (0, 0)) := (by rw [hW7]; exact blk_put (cs := #[.int .i64 3, .slice none 0 0]) (blk_put (cs := #[.int .i64 0, .slice none 0 0]) HBX.out 0 _ rfl) 1 _ rfl); have hn7 : w6.heap.size = W7.heap.size := (by rw [hW7, set_size, set_size]); have hba := below_alloc hb7 (.cells #[.int .u8 1, .int .u8 3, .int .u8 4, .int .u8 3, .int .u8 2, .int .u8 0, .int .u8 1] 5); refine (catchwordref01_Bytes.calls 1000 A3 c3 [1, 3, 4, 3, 2, 0, 1] (some ⟨w6.heap.size, 0, none⟩) 7 [1, 3, 4, 3, 2, 0, 1] true _ (Kd.R_reads' (Kd.R_below HP5.out hba)).2.2 (Kd.R_reads' HP5.out).2.1 (Kd.R_reads' (aw_row' W7 _ hn7)).2.2 (Nat.le_refl _) aw_bytes).mono ?_; rintro e w' ⟨rfl, ⟨nd, rfl⟩⟩; have hb8 := pw_below_drewN hba nd; have HL8 := Aside0.mk (Kd.S_below HL5.out hb8); have HM8 := Aside0.mk (Kd.S_below HM5.out hb8); have HB8 := Aside0.mk (below_step HB5.out hb8); have hx8 : ((W7.alloc (.cells #[.int .u8 1, .int .u8 3, .int .u8 4, .int .u8 3, .int .u8 2, .int .u8 0, .int .u8 1] 5)).drewN nd).heap[gb]? = some (.cells #[.int .i64 3, .slice A5 2 c5] 39 (0, 0)) := blk_below hx7 (pw_below_drewN (below_alloc (Below.refl _ W7) _) nd); have HX8 := Aside0.mk hx8; clear hx8 hb8 hba hn7 hx7 hb7 hge hW7 HL5 HP5 HM5 HX5 HB5 HBX HBL hcz0 hcz1 hfz0 hfz1; generalize World.drewN _ nd = w8 at HL8 HM8 HB8 HX8 ⊢)
  | (go_at_call 14; refine (catchwordref06_Same.calls 1000 A4 c4 [⟨3, [0, 2]⟩] A2 c2 [⟨3, [0, 2]⟩] true w8 (Kd.S_reads' HM8.out).2.2 (Kd.S_reads' HM8.out).2.1 (Kd.S_reads' HL8.out).2.2 (Kd.S_reads' HL8.out).2.1 aw_rsame).mono ?_; rintro e w' ⟨rfl, ⟨nd, rfl⟩⟩; have hb8 := pw_below_drewN (Below.refl w8.heap.size w8) nd; have HL9 := Aside0.mk (Kd.S_below HL8.out hb8); have HM9 := Aside0.mk (Kd.S_below HM8.out hb8); have HB9 := Aside0.mk (below_step HB8.out hb8); have hbx0 : (w8.drewN nd).cell? ⟨gb, 0, none⟩ = some (.int .i64 3) := (blk_cell (blk_below HX8.out hb8) 0).trans rfl; clear hb8 HL8 HM8 HB8 HX8; generalize w8.drewN nd = w9 at HL9 HM9 HB9 hbx0 ⊢)
  | (go_at_call 15; refine (post_May.calls 1000 A2 c2 [⟨3, [0, 2]⟩] true w9 (Kd.S_reads' HL9.out).2.2 (Kd.S_reads' HL9.out).2.1 aw_may).mono ?_; rintro e w10 ⟨rfl, hb⟩; have HL10 := Aside0.mk (Kd.S_below HL9.out hb); have HM10 := Aside0.mk (Kd.S_below HM9.out hb); have HB10 := Aside0.mk (below_step HB9.out hb); clear hb hbx0 HL9 HM9 HB9)
  | (go_at_call 17; refine (post_Find.calls 1000 A2 c2 [⟨3, [0, 2]⟩] 3 0 w10 (Kd.S_reads' HL10.out).2.2 (Kd.S_reads' HL10.out).2.1 aw_find).mono ?_; rintro e w11 ⟨rfl, hb⟩; have HL11 := Aside0.mk (Kd.S_below HL10.out hb); have HM11 := Aside0.mk (Kd.S_below HM10.out hb); have HB11 := Aside0.mk (below_step HB10.out hb); clear hb HL10 HM10 HB10)
  | (go_at_call 19; refine (post_Same.calls 1000 A2 c2 [⟨3, [0, 2]⟩] A4 c4 [⟨3, [0, 2]⟩] true w11 (Kd.S_reads' HL11.out).2.2 (Kd.S_reads' HL11.out).2.1 (Kd.S_reads' HM11.out).2.2 (Kd.S_reads' HM11.out).2.1 aw_same).mono ?_; rintro e w12 ⟨rfl, hb⟩; have HB12 := Aside0.mk (below_step HB11.out hb); clear hb HL11 HM11 HB11))
 go_ret
 unfold AwQ
 exact ⟨rfl, HB12.out⟩
def catchwordlaw06_awake.f : Option Bool := some true
theorem catchwordlaw06_awake.calls (r : Bool) (w : World) (h : catchwordlaw06_awake.f = some r) : Calls Try.prog 10 #[] w fun e w' => e = .returned (.bool r) ∧ Below w.heap.size w w' := by
 obtain rfl := Option.some.inj h
 exact aw_calls w

/-! ### catchwordlaw06_Few: function 11 -/
def catchwordlaw06_Few.l0 : Nat → List (S39) → Int → Option (Bool)
 | 0, _, _ => none
 | k + 1, x0, x3 => if x3 < (x0.length : Int) then (if 0 ≤ x3 then (if (((rd_T39 x0 x3).f1).length : Int) > 130 then (some false) else (catchwordlaw06_Few.l0 k x0 (wrap64 (x3 + 1)))) else (none)) else (some true)
def catchwordlaw06_Few.f (k : Nat) (l0 : List (S39)) : Option (Bool) := if (l0.length : Int) > 70 then (some false) else (catchwordlaw06_Few.l0 k l0 0)
theorem catchwordlaw06_Few.mono_l : ∀ k, (∀ y0 y1, LeO (catchwordlaw06_Few.l0 k y0 y1) (catchwordlaw06_Few.l0 (k + 1) y0 y1))
 | 0 => fun _ _ r h => by simp [catchwordlaw06_Few.l0] at h
 | k + 1 => by
  have ih0 := catchwordlaw06_Few.mono_l k
  ·intro y0 y1
   unfold catchwordlaw06_Few.l0
   repeat' first
   | (with_reducible exact ih0 _ _)
   | (with_reducible exact LeO.refl _)
   | (with_reducible exact LeO.none _)
   | (with_reducible refine LeO.ite ?_ ?_)
   | (with_reducible refine LeO.bind ?_ (fun _ => ?_))
   | exact ih0 _ _
   | exact LeO.none _
   | refine LeO.ite ?_ ?_
   | refine LeO.bind ?_ (fun _ => ?_)
theorem catchwordlaw06_Few.mono : ∀ a0 k, LeO (catchwordlaw06_Few.f k a0) (catchwordlaw06_Few.f (k + 1) a0) := by
 intro a0 k
 have ih0 := catchwordlaw06_Few.mono_l k
 unfold catchwordlaw06_Few.f
 repeat' first
   | (with_reducible exact ih0 _ _)
   | (with_reducible exact LeO.refl _)
   | (with_reducible exact LeO.none _)
   | (with_reducible refine LeO.ite ?_ ?_)
   | (with_reducible refine LeO.bind ?_ (fun _ => ?_))
   | exact ih0 _ _
   | exact LeO.none _
   | refine LeO.ite ?_ ?_
   | refine LeO.bind ?_ (fun _ => ?_)
set_option maxHeartbeats 8000000 in
set_option maxRecDepth 100000 in
theorem catchwordlaw06_Few.calls (k : Nat) (A0 : Option Addr) (c0 : Nat) (l0 : List (S39)) (r : Bool) (w : World) (hr0 : Kd.C k39 w A0 l0.length l0) (hc0 : l0.length ≤ c0) (h : catchwordlaw06_Few.f k l0 = some r) :
  Calls Try.prog 11 #[.slice A0 l0.length c0] w fun e w' => e = .returned (.bool r) ∧ Drawn0 w w' := by
 have HR0 := Aside0.mk hr0
 have HC0 := Aside0.mk hc0
 clear hr0 hc0
 have H : (if (l0.length : Int) > 70 then (some false) else (catchwordlaw06_Few.l0 k l0 0)) = some r := h
 clear h
 by_cases c2 : (l0.length : Int) > 70
 ·rw [if_pos c2] at H
  have c2b0 : decide (70 < (l0.length : Int)) = true := decide_eq_true c2
  have c2b1 : decide (70 < l0.length) = true := decide_eq_true (by omega)
  clear c2
  obtain rfl := Option.some.inj H
  go_enter Try.func11, Try.ntmps11
  go_wp2
  go_ret
  exact ⟨by first | rfl | (simp; done) | (simp [*]; done), by repeat (first | exact Drawn0.refl _ | apply Drawn0.step)⟩
 ·rw [if_neg c2] at H
  have c2b0 : decide (70 < (l0.length : Int)) = false := decide_eq_false c2
  have c2b1 : decide (70 < l0.length) = false := decide_eq_false (by omega)
  clear c2
  have H' := Aside0.mk H
  clear H
  go_enter Try.func11, Try.ntmps11
  go_wp2
  go_loopg [3] k (fun kq v3 w' => ∃ (x3_1 : Int), v3 = .int .i64 x3_1 ∧ Aside0 (catchwordlaw06_Few.l0 kq l0 x3_1 = some r) ∧ Aside0 (kq ≤ k) ∧ Drawn0 w w')
  case atStart => exact ⟨(0), (by first | rfl | (simp; done) | (simp [*]; done)), H', ⟨Nat.le_refl _⟩, by repeat (first | exact Drawn0.refl _ | apply Drawn0.step)⟩
  case round =>
   clear H'
   try clear c1
   try clear c2
   try clear c2b0
   try clear c2b1
   try clear p2
   obtain ⟨x3_1, rfl, HA, HK1, ⟨m1, rfl⟩⟩ := hrel
   cases gk with
   | zero => exact absurd HA.out (by simp [catchwordlaw06_Few.l0])
   | succ k1 =>
    have H := HA.out
    clear HA
    simp only [catchwordlaw06_Few.l0] at H
    by_cases c3 : x3_1 < (l0.length : Int)
    ·rw [if_pos c3] at H
     have c3b0 : decide (x3_1 < (l0.length : Int)) = true := decide_eq_true c3
     clear c3
     by_cases c4 : 0 ≤ x3_1
     ·rw [if_pos c4] at H
      have c4b0 : decide (0 ≤ x3_1) = true := decide_eq_true c4
      clear c4
      by_cases c5 : (((rd_T39 l0 x3_1).f1).length : Int) > 130
      ·rw [if_pos c5] at H
       have c5b0 : decide (130 < (((rd_T39 l0 x3_1).f1).length : Int)) = true := decide_eq_true c5
       have c5b1 : decide (130 < ((rd_T39 l0 x3_1).f1).length) = true := decide_eq_true (by omega)
       clear c5
       obtain rfl := Option.some.inj H
       have p190 : 0 ≤ (x3_1 : Int) := of_decide_eq_true (by first | (with_reducible assumption) | assumption)
       have q190 : x3_1 < (l0.length : Int) := of_decide_eq_true (by first | (with_reducible assumption) | assumption)
       obtain ⟨ad190, A190_1, c190_1, e190, hx190_0, hx190_1, hl190_1, hi190_1⟩ := at_T39 HR0.out x3_1 p190 q190
       cases e190
       have HR190_1 := Aside0.mk hi190_1
       have HC190_1 := Aside0.mk hl190_1
       clear hi190_1 hl190_1
       replace p190 := eq_true p190
       replace q190 := eq_true q190
       go_wp2
       go_ret
       exact ⟨by first | rfl | (simp; done) | (simp [*]; done), by repeat (first | exact Drawn0.refl _ | apply Drawn0.step)⟩
      ·rw [if_neg c5] at H
       have c5b0 : decide (130 < (((rd_T39 l0 x3_1).f1).length : Int)) = false := decide_eq_false c5
       have c5b1 : decide (130 < ((rd_T39 l0 x3_1).f1).length) = false := decide_eq_false (by omega)
       clear c5
       have H' := Aside0.mk H
       clear H
       have p190 : 0 ≤ (x3_1 : Int) := of_decide_eq_true (by first | (with_reducible assumption) | assumption)
       have q190 : x3_1 < (l0.length : Int) := of_decide_eq_true (by first | (with_reducible assumption) | assumption)
       obtain ⟨ad190, A190_1, c190_1, e190, hx190_0, hx190_1, hl190_1, hi190_1⟩ := at_T39 HR0.out x3_1 p190 q190
       cases e190
       have HR190_1 := Aside0.mk hi190_1
       have HC190_1 := Aside0.mk hl190_1
       clear hi190_1 hl190_1
       replace p190 := eq_true p190
       replace q190 := eq_true q190
       go_wp2
       go_roundg k1
       case measure => have := HK1.out; omega
       case rel => exact ⟨(wrap64 (x3_1 + 1)), (by first | rfl | (simp; done) | (simp [*]; done)), H', ⟨by have := HK1.out; omega⟩, by repeat (first | exact Drawn0.refl _ | apply Drawn0.step)⟩
     ·rw [if_neg c4] at H
      exact absurd H (by simp)
    ·rw [if_neg c3] at H
     have c3b0 : decide (x3_1 < (l0.length : Int)) = false := decide_eq_false c3
     clear c3
     obtain rfl := Option.some.inj H
     go_wp2
     go_ret
     exact ⟨by first | rfl | (simp; done) | (simp [*]; done), by repeat (first | exact Drawn0.refl _ | apply Drawn0.step)⟩

/-! ### catchwordref06_rising: function 36 -/
def catchwordref06_rising.l0 : Nat → List Int → Int → Int → Option (Bool)
 | 0, _, _, _ => none
 | k + 1, x0, x1, x5 => if x5 < (x0.length : Int) then (if 0 ≤ x5 then (if (rd x0 x5) < 0 then (some false) else (if (rd x0 x5) ≥ x1 then (some false) else (if x5 > 0 then (if 0 ≤ (wrap64 (x5 - 1)) then (if (wrap64 (x5 - 1)) < (x0.length : Int) then (if (rd x0 x5) ≤ (rd x0 (wrap64 (x5 - 1))) then (some false) else (catchwordref06_rising.l0 k x0 x1 (wrap64 (x5 + 1)))) else (none)) else (none)) else (catchwordref06_rising.l0 k x0 x1 (wrap64 (x5 + 1)))))) else (none)) else (some true)
def catchwordref06_rising.f (k : Nat) (l0 : List Int) (a1 : Int) : Option (Bool) := catchwordref06_rising.l0 k l0 a1 0
theorem catchwordref06_rising.mono_l : ∀ k, (∀ y0 y1 y2, LeO (catchwordref06_rising.l0 k y0 y1 y2) (catchwordref06_rising.l0 (k + 1) y0 y1 y2))
 | 0 => fun _ _ _ r h => by simp [catchwordref06_rising.l0] at h
 | k + 1 => by
  have ih0 := catchwordref06_rising.mono_l k
  ·intro y0 y1 y2
   unfold catchwordref06_rising.l0
   repeat' first
   | (with_reducible exact ih0 _ _ _)
   | (with_reducible exact LeO.refl _)
   | (with_reducible exact LeO.none _)
   | (with_reducible refine LeO.ite ?_ ?_)
   | (with_reducible refine LeO.bind ?_ (fun _ => ?_))
   | exact ih0 _ _ _
   | exact LeO.none _
   | refine LeO.ite ?_ ?_
   | refine LeO.bind ?_ (fun _ => ?_)
theorem catchwordref06_rising.mono : ∀ a0 a1 k, LeO (catchwordref06_rising.f k a0 a1) (catchwordref06_rising.f (k + 1) a0 a1) := by
 intro a0 a1 k
 have ih0 := catchwordref06_rising.mono_l k
 unfold catchwordref06_rising.f
 repeat' first
   | (with_reducible exact ih0 _ _ _)
   | (with_reducible exact LeO.refl _)
   | (with_reducible exact LeO.none _)
   | (with_reducible refine LeO.ite ?_ ?_)
   | (with_reducible refine LeO.bind ?_ (fun _ => ?_))
   | exact ih0 _ _ _
   | exact LeO.none _
   | refine LeO.ite ?_ ?_
   | refine LeO.bind ?_ (fun _ => ?_)
set_option maxHeartbeats 8000000 in
set_option maxRecDepth 100000 in
theorem catchwordref06_rising.calls (k : Nat) (A0 : Option Addr) (c0 : Nat) (l0 : List Int) (a1 : Int) (r : Bool) (w : World) (hr0 : Kd.C (Kd.int .i64) w A0 l0.length l0) (hc0 : l0.length ≤ c0) (h : catchwordref06_rising.f k l0 a1 = some r) :
  Calls Try.prog 36 #[.slice A0 l0.length c0, .int .i64 a1] w fun e w' => e = .returned (.bool r) ∧ Drawn0 w w' := by
 have HR0 := Aside0.mk hr0
 have HC0 := Aside0.mk hc0
 clear hr0 hc0
 have H : (catchwordref06_rising.l0 k l0 a1 0) = some r := h
 clear h
 have H' := Aside0.mk H
 clear H
 go_enter Try.func36, Try.ntmps36
 go_wp2
 repeat (go_quiet (fail); try go_wp2)
 go_loopg [5] k (fun kq v5 w' => ∃ (x5_1 : Int), v5 = .int .i64 x5_1 ∧ Aside0 (catchwordref06_rising.l0 kq l0 a1 x5_1 = some r) ∧ Aside0 (kq ≤ k) ∧ Drawn0 w w')
 case atStart => exact ⟨(0), (by first | rfl | (simp; done) | (simp [*]; done)), H', ⟨Nat.le_refl _⟩, by repeat (first | exact Drawn0.refl _ | apply Drawn0.step)⟩
 case round =>
  clear H'
  try clear p2
  obtain ⟨x5_1, rfl, HA, HK1, ⟨m1, rfl⟩⟩ := hrel
  cases gk with
  | zero => exact absurd HA.out (by simp [catchwordref06_rising.l0])
  | succ k1 =>
   have H := HA.out
   clear HA
   simp only [catchwordref06_rising.l0] at H
   by_cases c3 : x5_1 < (l0.length : Int)
   ·rw [if_pos c3] at H
    have c3b0 : decide (x5_1 < (l0.length : Int)) = true := decide_eq_true c3
    clear c3
    by_cases c4 : 0 ≤ x5_1
    ·rw [if_pos c4] at H
     have c4b0 : decide (0 ≤ x5_1) = true := decide_eq_true c4
     clear c4
     by_cases c5 : (rd l0 x5_1) < 0
     ·rw [if_pos c5] at H
      have c5b0 : decide ((rd l0 x5_1) < 0) = true := decide_eq_true c5
      clear c5
      obtain rfl := Option.some.inj H
      have p191 : 0 ≤ (x5_1 : Int) := of_decide_eq_true (by first | (with_reducible assumption) | assumption)
      have q191 : x5_1 < (l0.length : Int) := of_decide_eq_true (by first | (with_reducible assumption) | assumption)
      obtain ⟨ad191, e191, hx191_0⟩ := Kd.at_int HR0.out x5_1 p191 q191
      cases e191
      replace p191 := eq_true p191
      replace q191 := eq_true q191
      go_wp2
      repeat (go_quiet (fail); try go_wp2)
      go_ret
      exact ⟨by first | rfl | (simp; done) | (simp [*]; done), by repeat (first | exact Drawn0.refl _ | apply Drawn0.step)⟩
     ·rw [if_neg c5] at H
      have c5b0 : decide ((rd l0 x5_1) < 0) = false := decide_eq_false c5
      clear c5
      by_cases c6 : (rd l0 x5_1) ≥ a1
      ·rw [if_pos c6] at H
       have c6b0 : decide (a1 ≤ (rd l0 x5_1)) = true := decide_eq_true c6
       clear c6
       obtain rfl := Option.some.inj H
       have p191 : 0 ≤ (x5_1 : Int) := of_decide_eq_true (by first | (with_reducible assumption) | assumption)
       have q191 : x5_1 < (l0.length : Int) := of_decide_eq_true (by first | (with_reducible assumption) | assumption)
       obtain ⟨ad191, e191, hx191_0⟩ := Kd.at_int HR0.out x5_1 p191 q191
       cases e191
       replace p191 := eq_true p191
       replace q191 := eq_true q191
       have p192 : 0 ≤ (x5_1 : Int) := of_decide_eq_true (by first | (with_reducible assumption) | assumption)
       have q192 : x5_1 < (l0.length : Int) := of_decide_eq_true (by first | (with_reducible assumption) | assumption)
       obtain ⟨ad192, e192, hx192_0⟩ := Kd.at_int HR0.out x5_1 p192 q192
       obtain rfl : ad191 = ad192 := (by injection e192)
       replace p192 := eq_true p192
       replace q192 := eq_true q192
       go_wp2
       repeat (go_quiet (fail); try go_wp2)
       go_ret
       exact ⟨by first | rfl | (simp; done) | (simp [*]; done), by repeat (first | exact Drawn0.refl _ | apply Drawn0.step)⟩
      ·rw [if_neg c6] at H
       have c6b0 : decide (a1 ≤ (rd l0 x5_1)) = false := decide_eq_false c6
       clear c6
       by_cases c7 : x5_1 > 0
       ·rw [if_pos c7] at H
        have c7b0 : decide (0 < x5_1) = true := decide_eq_true c7
        clear c7
        obtain ⟨ji8, hji8⟩ : ∃ j_ : Int, (wrap64 (x5_1 - 1)) = j_ := ⟨_, rfl⟩
        replace H : (if 0 ≤ (ji8) then (if (ji8) < (l0.length : Int) then (if (rd l0 x5_1) ≤ (rd l0 (ji8)) then (some false) else (catchwordref06_rising.l0 k1 l0 a1 (wrap64 (x5_1 + 1)))) else (none)) else (none)) = some r := by first | (rw [hji8] at H; exact H) | (simp only [hji8] at H ⊢; exact H)
        have hji8w : (IntKind.i64.wrap (x5_1 - 1)) = ji8 := (i64_w _).trans hji8
        by_cases c9 : 0 ≤ (ji8)
        ·rw [if_pos c9] at H
         have c9b0 : decide (0 ≤ (ji8)) = true := decide_eq_true c9
         clear c9
         by_cases c10 : (ji8) < (l0.length : Int)
         ·rw [if_pos c10] at H
          have c10b0 : decide ((ji8) < (l0.length : Int)) = true := decide_eq_true c10
          clear c10
          by_cases c11 : (rd l0 x5_1) ≤ (rd l0 (ji8))
          ·rw [if_pos c11] at H
           have c11b0 : decide ((rd l0 x5_1) ≤ (rd l0 (ji8))) = true := decide_eq_true c11
           clear c11
           obtain rfl := Option.some.inj H
           have p191 : 0 ≤ (x5_1 : Int) := of_decide_eq_true (by first | (with_reducible assumption) | assumption)
           have q191 : x5_1 < (l0.length : Int) := of_decide_eq_true (by first | (with_reducible assumption) | assumption)
           obtain ⟨ad191, e191, hx191_0⟩ := Kd.at_int HR0.out x5_1 p191 q191
           cases e191
           replace p191 := eq_true p191
           replace q191 := eq_true q191
           have p192 : 0 ≤ (x5_1 : Int) := of_decide_eq_true (by first | (with_reducible assumption) | assumption)
           have q192 : x5_1 < (l0.length : Int) := of_decide_eq_true (by first | (with_reducible assumption) | assumption)
           obtain ⟨ad192, e192, hx192_0⟩ := Kd.at_int HR0.out x5_1 p192 q192
           obtain rfl : ad191 = ad192 := (by injection e192)
           replace p192 := eq_true p192
           replace q192 := eq_true q192
           have p193 : 0 ≤ (x5_1 : Int) := of_decide_eq_true (by first | (with_reducible assumption) | assumption)
           have q193 : x5_1 < (l0.length : Int) := of_decide_eq_true (by first | (with_reducible assumption) | assumption)
           obtain ⟨ad193, e193, hx193_0⟩ := Kd.at_int HR0.out x5_1 p193 q193
           obtain rfl : ad191 = ad193 := (by injection e193)
           replace p193 := eq_true p193
           replace q193 := eq_true q193
           have p194 : 0 ≤ ((ji8) : Int) := of_decide_eq_true (by first | (with_reducible assumption) | assumption)
           have q194 : (ji8) < (l0.length : Int) := of_decide_eq_true (by first | (with_reducible assumption) | assumption)
           obtain ⟨ad194, e194, hx194_0⟩ := Kd.at_int HR0.out (ji8) p194 q194
           obtain rfl : ad191 = ad194 := (by injection e194)
           replace p194 := eq_true p194
           replace q194 := eq_true q194
           go_wp2
           repeat (go_quiet (fail); try go_wp2)
           go_ret
           exact ⟨by first | rfl | (simp; done) | (simp only [← hji8] <;> (first | rfl | simp)) | (simp [*]; done), by repeat (first | exact Drawn0.refl _ | apply Drawn0.step)⟩
          ·rw [if_neg c11] at H
           have c11b0 : decide ((rd l0 x5_1) ≤ (rd l0 (ji8))) = false := decide_eq_false c11
           clear c11
           have H' := Aside0.mk H
           clear H
           have p191 : 0 ≤ (x5_1 : Int) := of_decide_eq_true (by first | (with_reducible assumption) | assumption)
           have q191 : x5_1 < (l0.length : Int) := of_decide_eq_true (by first | (with_reducible assumption) | assumption)
           obtain ⟨ad191, e191, hx191_0⟩ := Kd.at_int HR0.out x5_1 p191 q191
           cases e191
           replace p191 := eq_true p191
           replace q191 := eq_true q191
           have p192 : 0 ≤ (x5_1 : Int) := of_decide_eq_true (by first | (with_reducible assumption) | assumption)
           have q192 : x5_1 < (l0.length : Int) := of_decide_eq_true (by first | (with_reducible assumption) | assumption)
           obtain ⟨ad192, e192, hx192_0⟩ := Kd.at_int HR0.out x5_1 p192 q192
           obtain rfl : ad191 = ad192 := (by injection e192)
           replace p192 := eq_true p192
           replace q192 := eq_true q192
           have p193 : 0 ≤ (x5_1 : Int) := of_decide_eq_true (by first | (with_reducible assumption) | assumption)
           have q193 : x5_1 < (l0.length : Int) := of_decide_eq_true (by first | (with_reducible assumption) | assumption)
           obtain ⟨ad193, e193, hx193_0⟩ := Kd.at_int HR0.out x5_1 p193 q193
           obtain rfl : ad191 = ad193 := (by injection e193)
           replace p193 := eq_true p193
           replace q193 := eq_true q193
           have p194 : 0 ≤ ((ji8) : Int) := of_decide_eq_true (by first | (with_reducible assumption) | assumption)
           have q194 : (ji8) < (l0.length : Int) := of_decide_eq_true (by first | (with_reducible assumption) | assumption)
           obtain ⟨ad194, e194, hx194_0⟩ := Kd.at_int HR0.out (ji8) p194 q194
           obtain rfl : ad191 = ad194 := (by injection e194)
           replace p194 := eq_true p194
           replace q194 := eq_true q194
           go_wp2
           repeat (go_quiet (fail); try go_wp2)
           go_roundg k1
           case measure => have := HK1.out; omega
           case rel => exact ⟨(wrap64 (x5_1 + 1)), (by first | rfl | (simp; done) | (simp [*]; done)), H', ⟨by have := HK1.out; omega⟩, by repeat (first | exact Drawn0.refl _ | apply Drawn0.step)⟩
         ·rw [if_neg c10] at H
          exact absurd H (by simp)
        ·rw [if_neg c9] at H
         exact absurd H (by simp)
       ·rw [if_neg c7] at H
        have c7b0 : decide (0 < x5_1) = false := decide_eq_false c7
        clear c7
        have H' := Aside0.mk H
        clear H
        have p191 : 0 ≤ (x5_1 : Int) := of_decide_eq_true (by first | (with_reducible assumption) | assumption)
        have q191 : x5_1 < (l0.length : Int) := of_decide_eq_true (by first | (with_reducible assumption) | assumption)
        obtain ⟨ad191, e191, hx191_0⟩ := Kd.at_int HR0.out x5_1 p191 q191
        cases e191
        replace p191 := eq_true p191
        replace q191 := eq_true q191
        have p192 : 0 ≤ (x5_1 : Int) := of_decide_eq_true (by first | (with_reducible assumption) | assumption)
        have q192 : x5_1 < (l0.length : Int) := of_decide_eq_true (by first | (with_reducible assumption) | assumption)
        obtain ⟨ad192, e192, hx192_0⟩ := Kd.at_int HR0.out x5_1 p192 q192
        obtain rfl : ad191 = ad192 := (by injection e192)
        replace p192 := eq_true p192
        replace q192 := eq_true q192
        go_wp2
        repeat (go_quiet (fail); try go_wp2)
        go_roundg k1
        case measure => have := HK1.out; omega
        case rel => exact ⟨(wrap64 (x5_1 + 1)), (by first | rfl | (simp; done) | (simp [*]; done)), H', ⟨by have := HK1.out; omega⟩, by repeat (first | exact Drawn0.refl _ | apply Drawn0.step)⟩
    ·rw [if_neg c4] at H
     exact absurd H (by simp)
   ·rw [if_neg c3] at H
    have c3b0 : decide (x5_1 < (l0.length : Int)) = false := decide_eq_false c3
    clear c3
    obtain rfl := Option.some.inj H
    go_wp2
    repeat (go_quiet (fail); try go_wp2)
    go_ret
    exact ⟨by first | rfl | (simp; done) | (simp [*]; done), by repeat (first | exact Drawn0.refl _ | apply Drawn0.step)⟩

/-! ### catchwordref06_May: function 16 -/
def catchwordref06_May.l0 : Nat → List (S39) → Int → Option (Bool)
 | 0, _, _ => none
 | k + 1, x0, x3 => if x3 < (x0.length : Int) then (if 0 ≤ x3 then ((catchwordref06_rising.f k ((rd_T39 x0 x3).f1) 120).bind fun t196 => (if t196 = true then (if (((rd_T39 x0 x3).f1).length : Int) < 1 then (some false) else (if ((rd_T39 x0 x3).f0) < 0 then (some false) else (if ((rd_T39 x0 x3).f0) > 63 then (some false) else (if x3 > 0 then (if 0 ≤ (wrap64 (x3 - 1)) then (if (wrap64 (x3 - 1)) < (x0.length : Int) then (if ((rd_T39 x0 x3).f0) ≤ ((rd_T39 x0 (wrap64 (x3 - 1))).f0) then (some false) else (catchwordref06_May.l0 k x0 (wrap64 (x3 + 1)))) else (none)) else (none)) else (catchwordref06_May.l0 k x0 (wrap64 (x3 + 1))))))) else (some false))) else (none)) else (some true)
def catchwordref06_May.f (k : Nat) (l0 : List (S39)) : Option (Bool) := if (l0.length : Int) > 64 then (some false) else (catchwordref06_May.l0 k l0 0)
theorem catchwordref06_May.mono_l : ∀ k, (∀ y0 y1, LeO (catchwordref06_May.l0 k y0 y1) (catchwordref06_May.l0 (k + 1) y0 y1))
 | 0 => fun _ _ r h => by simp [catchwordref06_May.l0] at h
 | k + 1 => by
  have ih0 := catchwordref06_May.mono_l k
  ·intro y0 y1
   unfold catchwordref06_May.l0
   repeat' first
   | (with_reducible exact ih0 _ _)
   | (with_reducible exact catchwordref06_rising.mono _ _ _)
   | (with_reducible exact LeO.refl _)
   | (with_reducible exact LeO.none _)
   | (with_reducible refine LeO.ite ?_ ?_)
   | (with_reducible refine LeO.bind ?_ (fun _ => ?_))
   | exact ih0 _ _
   | exact catchwordref06_rising.mono _ _ _
   | exact LeO.none _
   | refine LeO.ite ?_ ?_
   | refine LeO.bind ?_ (fun _ => ?_)
theorem catchwordref06_May.mono : ∀ a0 k, LeO (catchwordref06_May.f k a0) (catchwordref06_May.f (k + 1) a0) := by
 intro a0 k
 have ih0 := catchwordref06_May.mono_l k
 unfold catchwordref06_May.f
 repeat' first
   | (with_reducible exact ih0 _ _)
   | (with_reducible exact catchwordref06_rising.mono _ _ _)
   | (with_reducible exact LeO.refl _)
   | (with_reducible exact LeO.none _)
   | (with_reducible refine LeO.ite ?_ ?_)
   | (with_reducible refine LeO.bind ?_ (fun _ => ?_))
   | exact ih0 _ _
   | exact catchwordref06_rising.mono _ _ _
   | exact LeO.none _
   | refine LeO.ite ?_ ?_
   | refine LeO.bind ?_ (fun _ => ?_)
set_option maxHeartbeats 8000000 in
set_option maxRecDepth 100000 in
theorem catchwordref06_May.calls (k : Nat) (A0 : Option Addr) (c0 : Nat) (l0 : List (S39)) (r : Bool) (w : World) (hr0 : Kd.C k39 w A0 l0.length l0) (hc0 : l0.length ≤ c0) (h : catchwordref06_May.f k l0 = some r) :
  Calls Try.prog 16 #[.slice A0 l0.length c0] w fun e w' => e = .returned (.bool r) ∧ Drawn0 w w' := by
 have HR0 := Aside0.mk hr0
 have HC0 := Aside0.mk hc0
 clear hr0 hc0
 have H : (if (l0.length : Int) > 64 then (some false) else (catchwordref06_May.l0 k l0 0)) = some r := h
 clear h
 by_cases c2 : (l0.length : Int) > 64
 ·rw [if_pos c2] at H
  have c2b0 : decide (64 < (l0.length : Int)) = true := decide_eq_true c2
  have c2b1 : decide (64 < l0.length) = true := decide_eq_true (by omega)
  clear c2
  obtain rfl := Option.some.inj H
  go_enter Try.func16, Try.ntmps16
  go_wp2
  repeat (go_quiet (fail); try go_wp2)
  go_ret
  exact ⟨by first | rfl | (simp; done) | (simp [*]; done), by repeat (first | exact Drawn0.refl _ | apply Drawn0.step)⟩
 ·rw [if_neg c2] at H
  have c2b0 : decide (64 < (l0.length : Int)) = false := decide_eq_false c2
  have c2b1 : decide (64 < l0.length) = false := decide_eq_false (by omega)
  clear c2
  have H' := Aside0.mk H
  clear H
  go_enter Try.func16, Try.ntmps16
  go_wp2
  repeat (go_quiet (fail); try go_wp2)
  go_loopg [3] k (fun kq v3 w' => ∃ (x3_1 : Int), v3 = .int .i64 x3_1 ∧ Aside0 (catchwordref06_May.l0 kq l0 x3_1 = some r) ∧ Aside0 (kq ≤ k) ∧ Drawn0 w w')
  case atStart => exact ⟨(0), (by first | rfl | (simp; done) | (simp [*]; done)), H', ⟨Nat.le_refl _⟩, by repeat (first | exact Drawn0.refl _ | apply Drawn0.step)⟩
  case round =>
   clear H'
   try clear c1
   try clear c2
   try clear c2b0
   try clear c2b1
   try clear p2
   obtain ⟨x3_1, rfl, HA, HK1, ⟨m1, rfl⟩⟩ := hrel
   cases gk with
   | zero => exact absurd HA.out (by simp [catchwordref06_May.l0])
   | succ k1 =>
    have H := HA.out
    clear HA
    simp only [catchwordref06_May.l0] at H
    by_cases c3 : x3_1 < (l0.length : Int)
    ·rw [if_pos c3] at H
     have c3b0 : decide (x3_1 < (l0.length : Int)) = true := decide_eq_true c3
     clear c3
     by_cases c4 : 0 ≤ x3_1
     ·rw [if_pos c4] at H
      have c4b0 : decide (0 ≤ x3_1) = true := decide_eq_true c4
      clear c4
      replace H := Option.bind_eq_some_iff.mp H
      obtain ⟨t196, A50, H⟩ := H
      replace H : (if t196 = true then (if (((rd_T39 l0 x3_1).f1).length : Int) < 1 then (some false) else (if ((rd_T39 l0 x3_1).f0) < 0 then (some false) else (if ((rd_T39 l0 x3_1).f0) > 63 then (some false) else (if x3_1 > 0 then (if 0 ≤ (wrap64 (x3_1 - 1)) then (if (wrap64 (x3_1 - 1)) < (l0.length : Int) then (if ((rd_T39 l0 x3_1).f0) ≤ ((rd_T39 l0 (wrap64 (x3_1 - 1))).f0) then (some false) else (catchwordref06_May.l0 k1 l0 (wrap64 (x3_1 + 1)))) else (none)) else (none)) else (catchwordref06_May.l0 k1 l0 (wrap64 (x3_1 + 1))))))) else (some false)) = some r := H
      have A5 := Aside0.mk A50
      clear A50
      by_cases c6 : t196 = true
      ·subst c6
       have H1 : (if (((rd_T39 l0 x3_1).f1).length : Int) < 1 then (some false) else (if ((rd_T39 l0 x3_1).f0) < 0 then (some false) else (if ((rd_T39 l0 x3_1).f0) > 63 then (some false) else (if x3_1 > 0 then (if 0 ≤ (wrap64 (x3_1 - 1)) then (if (wrap64 (x3_1 - 1)) < (l0.length : Int) then (if ((rd_T39 l0 x3_1).f0) ≤ ((rd_T39 l0 (wrap64 (x3_1 - 1))).f0) then (some false) else (catchwordref06_May.l0 k1 l0 (wrap64 (x3_1 + 1)))) else (none)) else (none)) else (catchwordref06_May.l0 k1 l0 (wrap64 (x3_1 + 1))))))) = some r := by rw [if_pos rfl] at H; exact H
       clear H
       have H := H1
       clear H1
       by_cases c7 : (((rd_T39 l0 x3_1).f1).length : Int) < 1
       ·rw [if_pos c7] at H
        have c7b0 : decide ((((rd_T39 l0 x3_1).f1).length : Int) < 1) = true := decide_eq_true c7
        have c7b1 : decide (((rd_T39 l0 x3_1).f1).length < 1) = true := decide_eq_true (by omega)
        clear c7
        obtain rfl := Option.some.inj H
        have p195 : 0 ≤ (x3_1 : Int) := of_decide_eq_true (by first | (with_reducible assumption) | assumption)
        have q195 : x3_1 < (l0.length : Int) := of_decide_eq_true (by first | (with_reducible assumption) | assumption)
        obtain ⟨ad195, A195_1, c195_1, e195, hx195_0, hx195_1, hl195_1, hi195_1⟩ := at_T39 HR0.out x3_1 p195 q195
        cases e195
        have HR195_1 := Aside0.mk hi195_1
        have HC195_1 := Aside0.mk hl195_1
        clear hi195_1 hl195_1
        replace p195 := eq_true p195
        replace q195 := eq_true q195
        go_wp2_with (first | (go_at_call 36; (with_reducible refine (catchwordref06_rising.calls k1 _ _ ((rd_T39 l0 x3_1).f1) 120 true _ ?side1 ?side2 A5.out).mono ?_); (case side1 => repeat (first | exact HR195_1.out | (with_reducible refine Kd.C_alloc ?_ _) | (with_reducible refine Kd.C_drewN ?_ _) | (with_reducible refine Kd.C_drew ?_))); (case side2 => exact HC195_1.out); rintro e w' ⟨rfl, ⟨nd, rfl⟩⟩; (try first | exact ⟨rfl, _, World.drewN_drewN _ _ _⟩ | exact ⟨rfl, _, Eq.trans (World.drewN_drewN _ _ _) (congrArg (World.drewN _) (Nat.add_assoc _ _ _))⟩); have p197 : 0 ≤ (x3_1 : Int) := of_decide_eq_true (by first | (with_reducible assumption) | assumption); have q197 : x3_1 < (l0.length : Int) := of_decide_eq_true (by first | (with_reducible assumption) | assumption); obtain ⟨ad197, A197_1, c197_1, e197, hx197_0, hx197_1, hl197_1, hi197_1⟩ := at_T39 HR0.out x3_1 p197 q197; obtain rfl : ad195 = ad197 := (by injection e197); have HR197_1 := Aside0.mk hi197_1; have HC197_1 := Aside0.mk hl197_1; clear hi197_1 hl197_1; replace p197 := eq_true p197; replace q197 := eq_true q197; have ea_ := Option.some.inj (hx195_1.symm.trans hx197_1); injection ea_ with ea_ en_ ec_; subst ea_; subst ec_; clear en_))
        repeat (go_quiet (first | (go_at_call 36; (with_reducible refine (catchwordref06_rising.calls k1 _ _ ((rd_T39 l0 x3_1).f1) 120 true _ ?side1 ?side2 A5.out).mono ?_); (case side1 => repeat (first | exact HR195_1.out | (with_reducible refine Kd.C_alloc ?_ _) | (with_reducible refine Kd.C_drewN ?_ _) | (with_reducible refine Kd.C_drew ?_))); (case side2 => exact HC195_1.out); rintro e w' ⟨rfl, ⟨nd, rfl⟩⟩; (try first | exact ⟨rfl, _, World.drewN_drewN _ _ _⟩ | exact ⟨rfl, _, Eq.trans (World.drewN_drewN _ _ _) (congrArg (World.drewN _) (Nat.add_assoc _ _ _))⟩); have p197 : 0 ≤ (x3_1 : Int) := of_decide_eq_true (by first | (with_reducible assumption) | assumption); have q197 : x3_1 < (l0.length : Int) := of_decide_eq_true (by first | (with_reducible assumption) | assumption); obtain ⟨ad197, A197_1, c197_1, e197, hx197_0, hx197_1, hl197_1, hi197_1⟩ := at_T39 HR0.out x3_1 p197 q197; obtain rfl : ad195 = ad197 := (by injection e197); have HR197_1 := Aside0.mk hi197_1; have HC197_1 := Aside0.mk hl197_1; clear hi197_1 hl197_1; replace p197 := eq_true p197; replace q197 := eq_true q197; have ea_ := Option.some.inj (hx195_1.symm.trans hx197_1); injection ea_ with ea_ en_ ec_; subst ea_; subst ec_; clear en_)); try go_wp2_with (first | (go_at_call 36; (with_reducible refine (catchwordref06_rising.calls k1 _ _ ((rd_T39 l0 x3_1).f1) 120 true _ ?side1 ?side2 A5.out).mono ?_); (case side1 => repeat (first | exact HR195_1.out | (with_reducible refine Kd.C_alloc ?_ _) | (with_reducible refine Kd.C_drewN ?_ _) | (with_reducible refine Kd.C_drew ?_))); (case side2 => exact HC195_1.out); rintro e w' ⟨rfl, ⟨nd, rfl⟩⟩; (try first | exact ⟨rfl, _, World.drewN_drewN _ _ _⟩ | exact ⟨rfl, _, Eq.trans (World.drewN_drewN _ _ _) (congrArg (World.drewN _) (Nat.add_assoc _ _ _))⟩); have p197 : 0 ≤ (x3_1 : Int) := of_decide_eq_true (by first | (with_reducible assumption) | assumption); have q197 : x3_1 < (l0.length : Int) := of_decide_eq_true (by first | (with_reducible assumption) | assumption); obtain ⟨ad197, A197_1, c197_1, e197, hx197_0, hx197_1, hl197_1, hi197_1⟩ := at_T39 HR0.out x3_1 p197 q197; obtain rfl : ad195 = ad197 := (by injection e197); have HR197_1 := Aside0.mk hi197_1; have HC197_1 := Aside0.mk hl197_1; clear hi197_1 hl197_1; replace p197 := eq_true p197; replace q197 := eq_true q197; have ea_ := Option.some.inj (hx195_1.symm.trans hx197_1); injection ea_ with ea_ en_ ec_; subst ea_; subst ec_; clear en_)))
        go_ret
        exact ⟨by first | rfl | (simp; done) | (simp [*]; done), by repeat (first | exact Drawn0.refl _ | apply Drawn0.step)⟩
       ·rw [if_neg c7] at H
        have c7b0 : decide ((((rd_T39 l0 x3_1).f1).length : Int) < 1) = false := decide_eq_false c7
        have c7b1 : decide (((rd_T39 l0 x3_1).f1).length < 1) = false := decide_eq_false (by omega)
        clear c7
        by_cases c8 : ((rd_T39 l0 x3_1).f0) < 0
        ·rw [if_pos c8] at H
         have c8b0 : decide (((rd_T39 l0 x3_1).f0) < 0) = true := decide_eq_true c8
         clear c8
         obtain rfl := Option.some.inj H
         have p195 : 0 ≤ (x3_1 : Int) := of_decide_eq_true (by first | (with_reducible assumption) | assumption)
         have q195 : x3_1 < (l0.length : Int) := of_decide_eq_true (by first | (with_reducible assumption) | assumption)
         obtain ⟨ad195, A195_1, c195_1, e195, hx195_0, hx195_1, hl195_1, hi195_1⟩ := at_T39 HR0.out x3_1 p195 q195
         cases e195
         have HR195_1 := Aside0.mk hi195_1
         have HC195_1 := Aside0.mk hl195_1
         clear hi195_1 hl195_1
         replace p195 := eq_true p195
         replace q195 := eq_true q195
         go_wp2_with (first | (go_at_call 36; (with_reducible refine (catchwordref06_rising.calls k1 _ _ ((rd_T39 l0 x3_1).f1) 120 true _ ?side1 ?side2 A5.out).mono ?_); (case side1 => repeat (first | exact HR195_1.out | (with_reducible refine Kd.C_alloc ?_ _) | (with_reducible refine Kd.C_drewN ?_ _) | (with_reducible refine Kd.C_drew ?_))); (case side2 => exact HC195_1.out); rintro e w' ⟨rfl, ⟨nd, rfl⟩⟩; (try first | exact ⟨rfl, _, World.drewN_drewN _ _ _⟩ | exact ⟨rfl, _, Eq.trans (World.drewN_drewN _ _ _) (congrArg (World.drewN _) (Nat.add_assoc _ _ _))⟩); have p197 : 0 ≤ (x3_1 : Int) := of_decide_eq_true (by first | (with_reducible assumption) | assumption); have q197 : x3_1 < (l0.length : Int) := of_decide_eq_true (by first | (with_reducible assumption) | assumption); obtain ⟨ad197, A197_1, c197_1, e197, hx197_0, hx197_1, hl197_1, hi197_1⟩ := at_T39 HR0.out x3_1 p197 q197; obtain rfl : ad195 = ad197 := (by injection e197); have HR197_1 := Aside0.mk hi197_1; have HC197_1 := Aside0.mk hl197_1; clear hi197_1 hl197_1; replace p197 := eq_true p197; replace q197 := eq_true q197; have ea_ := Option.some.inj (hx195_1.symm.trans hx197_1); injection ea_ with ea_ en_ ec_; subst ea_; subst ec_; clear en_; have p198 : 0 ≤ (x3_1 : Int) := of_decide_eq_true (by first | (with_reducible assumption) | assumption); have q198 : x3_1 < (l0.length : Int) := of_decide_eq_true (by first | (with_reducible assumption) | assumption); obtain ⟨ad198, A198_1, c198_1, e198, hx198_0, hx198_1, hl198_1, hi198_1⟩ := at_T39 HR0.out x3_1 p198 q198; obtain rfl : ad195 = ad198 := (by injection e198); have HR198_1 := Aside0.mk hi198_1; have HC198_1 := Aside0.mk hl198_1; clear hi198_1 hl198_1; replace p198 := eq_true p198; replace q198 := eq_true q198; have ea_ := Option.some.inj (hx195_1.symm.trans hx198_1); injection ea_ with ea_ en_ ec_; subst ea_; subst ec_; clear en_))
         repeat (go_quiet (first | (go_at_call 36; (with_reducible refine (catchwordref06_rising.calls k1 _ _ ((rd_T39 l0 x3_1).f1) 120 true _ ?side1 ?side2 A5.out).mono ?_); (case side1 => repeat (first | exact HR195_1.out | (with_reducible refine Kd.C_alloc ?_ _) | (with_reducible refine Kd.C_drewN ?_ _) | (with_reducible refine Kd.C_drew ?_))); (case side2 => exact HC195_1.out); rintro e w' ⟨rfl, ⟨nd, rfl⟩⟩; (try first | exact ⟨rfl, _, World.drewN_drewN _ _ _⟩ | exact ⟨rfl, _, Eq.trans (World.drewN_drewN _ _ _) (congrArg (World.drewN _) (Nat.add_assoc _ _ _))⟩); have p197 : 0 ≤ (x3_1 : Int) := of_decide_eq_true (by first | (with_reducible assumption) | assumption); have q197 : x3_1 < (l0.length : Int) := of_decide_eq_true (by first | (with_reducible assumption) | assumption); obtain ⟨ad197, A197_1, c197_1, e197, hx197_0, hx197_1, hl197_1, hi197_1⟩ := at_T39 HR0.out x3_1 p197 q197; obtain rfl : ad195 = ad197 := (by injection e197); have HR197_1 := Aside0.mk hi197_1; have HC197_1 := Aside0.mk hl197_1; clear hi197_1 hl197_1; replace p197 := eq_true p197; replace q197 := eq_true q197; have ea_ := Option.some.inj (hx195_1.symm.trans hx197_1); injection ea_ with ea_ en_ ec_; subst ea_; subst ec_; clear en_; have p198 : 0 ≤ (x3_1 : Int) := of_decide_eq_true (by first | (with_reducible assumption) | assumption); have q198 : x3_1 < (l0.length : Int) := of_decide_eq_true (by first | (with_reducible assumption) | assumption); obtain ⟨ad198, A198_1, c198_1, e198, hx198_0, hx198_1, hl198_1, hi198_1⟩ := at_T39 HR0.out x3_1 p198 q198; obtain rfl : ad195 = ad198 := (by injection e198); have HR198_1 := Aside0.mk hi198_1; have HC198_1 := Aside0.mk hl198_1; clear hi198_1 hl198_1; replace p198 := eq_true p198; replace q198 := eq_true q198; have ea_ := Option.some.inj (hx195_1.symm.trans hx198_1); injection ea_ with ea_ en_ ec_; subst ea_; subst ec_; clear en_)); try go_wp2_with (first | (go_at_call 36; (with_reducible refine (catchwordref06_rising.calls k1 _ _ ((rd_T39 l0 x3_1).f1) 120 true _ ?side1 ?side2 A5.out).mono ?_); (case side1 => repeat (first | exact HR195_1.out | (with_reducible refine Kd.C_alloc ?_ _) | (with_reducible refine Kd.C_drewN ?_ _) | (with_reducible refine Kd.C_drew ?_))); (case side2 => exact HC195_1.out); rintro e w' ⟨rfl, ⟨nd, rfl⟩⟩; (try first | exact ⟨rfl, _, World.drewN_drewN _ _ _⟩ | exact ⟨rfl, _, Eq.trans (World.drewN_drewN _ _ _) (congrArg (World.drewN _) (Nat.add_assoc _ _ _))⟩); have p197 : 0 ≤ (x3_1 : Int) := of_decide_eq_true (by first | (with_reducible assumption) | assumption); have q197 : x3_1 < (l0.length : Int) := of_decide_eq_true (by first | (with_reducible assumption) | assumption); obtain ⟨ad197, A197_1, c197_1, e197, hx197_0, hx197_1, hl197_1, hi197_1⟩ := at_T39 HR0.out x3_1 p197 q197; obtain rfl : ad195 = ad197 := (by injection e197); have HR197_1 := Aside0.mk hi197_1; have HC197_1 := Aside0.mk hl197_1; clear hi197_1 hl197_1; replace p197 := eq_true p197; replace q197 := eq_true q197; have ea_ := Option.some.inj (hx195_1.symm.trans hx197_1); injection ea_ with ea_ en_ ec_; subst ea_; subst ec_; clear en_; have p198 : 0 ≤ (x3_1 : Int) := of_decide_eq_true (by first | (with_reducible assumption) | assumption); have q198 : x3_1 < (l0.length : Int) := of_decide_eq_true (by first | (with_reducible assumption) | assumption); obtain ⟨ad198, A198_1, c198_1, e198, hx198_0, hx198_1, hl198_1, hi198_1⟩ := at_T39 HR0.out x3_1 p198 q198; obtain rfl : ad195 = ad198 := (by injection e198); have HR198_1 := Aside0.mk hi198_1; have HC198_1 := Aside0.mk hl198_1; clear hi198_1 hl198_1; replace p198 := eq_true p198; replace q198 := eq_true q198; have ea_ := Option.some.inj (hx195_1.symm.trans hx198_1); injection ea_ with ea_ en_ ec_; subst ea_; subst ec_; clear en_)))
         go_ret
         exact ⟨by first | rfl | (simp; done) | (simp [*]; done), by repeat (first | exact Drawn0.refl _ | apply Drawn0.step)⟩
        ·rw [if_neg c8] at H
         have c8b0 : decide (((rd_T39 l0 x3_1).f0) < 0) = false := decide_eq_false c8
         clear c8
         by_cases c9 : ((rd_T39 l0 x3_1).f0) > 63
         ·rw [if_pos c9] at H
          have c9b0 : decide (63 < ((rd_T39 l0 x3_1).f0)) = true := decide_eq_true c9
          clear c9
          obtain rfl := Option.some.inj H
          have p195 : 0 ≤ (x3_1 : Int) := of_decide_eq_true (by first | (with_reducible assumption) | assumption)
          have q195 : x3_1 < (l0.length : Int) := of_decide_eq_true (by first | (with_reducible assumption) | assumption)
          obtain ⟨ad195, A195_1, c195_1, e195, hx195_0, hx195_1, hl195_1, hi195_1⟩ := at_T39 HR0.out x3_1 p195 q195
          cases e195
          have HR195_1 := Aside0.mk hi195_1
          have HC195_1 := Aside0.mk hl195_1
          clear hi195_1 hl195_1
          replace p195 := eq_true p195
          replace q195 := eq_true q195
          go_wp2_with (first | (go_at_call 36; (with_reducible refine (catchwordref06_rising.calls k1 _ _ ((rd_T39 l0 x3_1).f1) 120 true _ ?side1 ?side2 A5.out).mono ?_); (case side1 => repeat (first | exact HR195_1.out | (with_reducible refine Kd.C_alloc ?_ _) | (with_reducible refine Kd.C_drewN ?_ _) | (with_reducible refine Kd.C_drew ?_))); (case side2 => exact HC195_1.out); rintro e w' ⟨rfl, ⟨nd, rfl⟩⟩; (try first | exact ⟨rfl, _, World.drewN_drewN _ _ _⟩ | exact ⟨rfl, _, Eq.trans (World.drewN_drewN _ _ _) (congrArg (World.drewN _) (Nat.add_assoc _ _ _))⟩); have p197 : 0 ≤ (x3_1 : Int) := of_decide_eq_true (by first | (with_reducible assumption) | assumption); have q197 : x3_1 < (l0.length : Int) := of_decide_eq_true (by first | (with_reducible assumption) | assumption); obtain ⟨ad197, A197_1, c197_1, e197, hx197_0, hx197_1, hl197_1, hi197_1⟩ := at_T39 HR0.out x3_1 p197 q197; obtain rfl : ad195 = ad197 := (by injection e197); have HR197_1 := Aside0.mk hi197_1; have HC197_1 := Aside0.mk hl197_1; clear hi197_1 hl197_1; replace p197 := eq_true p197; replace q197 := eq_true q197; have ea_ := Option.some.inj (hx195_1.symm.trans hx197_1); injection ea_ with ea_ en_ ec_; subst ea_; subst ec_; clear en_; have p198 : 0 ≤ (x3_1 : Int) := of_decide_eq_true (by first | (with_reducible assumption) | assumption); have q198 : x3_1 < (l0.length : Int) := of_decide_eq_true (by first | (with_reducible assumption) | assumption); obtain ⟨ad198, A198_1, c198_1, e198, hx198_0, hx198_1, hl198_1, hi198_1⟩ := at_T39 HR0.out x3_1 p198 q198; obtain rfl : ad195 = ad198 := (by injection e198); have HR198_1 := Aside0.mk hi198_1; have HC198_1 := Aside0.mk hl198_1; clear hi198_1 hl198_1; replace p198 := eq_true p198; replace q198 := eq_true q198; have ea_ := Option.some.inj (hx195_1.symm.trans hx198_1); injection ea_ with ea_ en_ ec_; subst ea_; subst ec_; clear en_; have p199 : 0 ≤ (x3_1 : Int) := of_decide_eq_true (by first | (with_reducible assumption) | assumption); have q199 : x3_1 < (l0.length : Int) := of_decide_eq_true (by first | (with_reducible assumption) | assumption); obtain ⟨ad199, A199_1, c199_1, e199, hx199_0, hx199_1, hl199_1, hi199_1⟩ := at_T39 HR0.out x3_1 p199 q199; obtain rfl : ad195 = ad199 := (by injection e199); have HR199_1 := Aside0.mk hi199_1; have HC199_1 := Aside0.mk hl199_1; clear hi199_1 hl199_1; replace p199 := eq_true p199; replace q199 := eq_true q199; have ea_ := Option.some.inj (hx195_1.symm.trans hx199_1); injection ea_ with ea_ en_ ec_; subst ea_; subst ec_; clear en_))
          repeat (go_quiet (first | (go_at_call 36; (with_reducible refine (catchwordref06_rising.calls k1 _ _ ((rd_T39 l0 x3_1).f1) 120 true _ ?side1 ?side2 A5.out).mono ?_); (case side1 => repeat (first | exact HR195_1.out | (with_reducible refine Kd.C_alloc ?_ _) | (with_reducible refine Kd.C_drewN ?_ _) | (with_reducible refine Kd.C_drew ?_))); (case side2 => exact HC195_1.out); rintro e w' ⟨rfl, ⟨nd, rfl⟩⟩; (try first | exact ⟨rfl, _, World.drewN_drewN _ _ _⟩ | exact ⟨rfl, _, Eq.trans (World.drewN_drewN _ _ _) (congrArg (World.drewN _) (Nat.add_assoc _ _ _))⟩); have p197 : 0 ≤ (x3_1 : Int) := of_decide_eq_true (by first | (with_reducible assumption) | assumption); have q197 : x3_1 < (l0.length : Int) := of_decide_eq_true (by first | (with_reducible assumption) | assumption); obtain ⟨ad197, A197_1, c197_1, e197, hx197_0, hx197_1, hl197_1, hi197_1⟩ := at_T39 HR0.out x3_1 p197 q197; obtain rfl : ad195 = ad197 := (by injection e197); have HR197_1 := Aside0.mk hi197_1; have HC197_1 := Aside0.mk hl197_1; clear hi197_1 hl197_1; replace p197 := eq_true p197; replace q197 := eq_true q197; have ea_ := Option.some.inj (hx195_1.symm.trans hx197_1); injection ea_ with ea_ en_ ec_; subst ea_; subst ec_; clear en_; have p198 : 0 ≤ (x3_1 : Int) := of_decide_eq_true (by first | (with_reducible assumption) | assumption); have q198 : x3_1 < (l0.length : Int) := of_decide_eq_true (by first | (with_reducible assumption) | assumption); obtain ⟨ad198, A198_1, c198_1, e198, hx198_0, hx198_1, hl198_1, hi198_1⟩ := at_T39 HR0.out x3_1 p198 q198; obtain rfl : ad195 = ad198 := (by injection e198); have HR198_1 := Aside0.mk hi198_1; have HC198_1 := Aside0.mk hl198_1; clear hi198_1 hl198_1; replace p198 := eq_true p198; replace q198 := eq_true q198; have ea_ := Option.some.inj (hx195_1.symm.trans hx198_1); injection ea_ with ea_ en_ ec_; subst ea_; subst ec_; clear en_; have p199 : 0 ≤ (x3_1 : Int) := of_decide_eq_true (by first | (with_reducible assumption) | assumption); have q199 : x3_1 < (l0.length : Int) := of_decide_eq_true (by first | (with_reducible assumption) | assumption); obtain ⟨ad199, A199_1, c199_1, e199, hx199_0, hx199_1, hl199_1, hi199_1⟩ := at_T39 HR0.out x3_1 p199 q199; obtain rfl : ad195 = ad199 := (by injection e199); have HR199_1 := Aside0.mk hi199_1; have HC199_1 := Aside0.mk hl199_1; clear hi199_1 hl199_1; replace p199 := eq_true p199; replace q199 := eq_true q199; have ea_ := Option.some.inj (hx195_1.symm.trans hx199_1); injection ea_ with ea_ en_ ec_; subst ea_; subst ec_; clear en_)); try go_wp2_with (first | (go_at_call 36; (with_reducible refine (catchwordref06_rising.calls k1 _ _ ((rd_T39 l0 x3_1).f1) 120 true _ ?side1 ?side2 A5.out).mono ?_); (case side1 => repeat (first | exact HR195_1.out | (with_reducible refine Kd.C_alloc ?_ _) | (with_reducible refine Kd.C_drewN ?_ _) | (with_reducible refine Kd.C_drew ?_))); (case side2 => exact HC195_1.out); rintro e w' ⟨rfl, ⟨nd, rfl⟩⟩; (try first | exact ⟨rfl, _, World.drewN_drewN _ _ _⟩ | exact ⟨rfl, _, Eq.trans (World.drewN_drewN _ _ _) (congrArg (World.drewN _) (Nat.add_assoc _ _ _))⟩); have p197 : 0 ≤ (x3_1 : Int) := of_decide_eq_true (by first | (with_reducible assumption) | assumption); have q197 : x3_1 < (l0.length : Int) := of_decide_eq_true (by first | (with_reducible assumption) | assumption); obtain ⟨ad197, A197_1, c197_1, e197, hx197_0, hx197_1, hl197_1, hi197_1⟩ := at_T39 HR0.out x3_1 p197 q197; obtain rfl : ad195 = ad197 := (by injection e197); have HR197_1 := Aside0.mk hi197_1; have HC197_1 := Aside0.mk hl197_1; clear hi197_1 hl197_1; replace p197 := eq_true p197; replace q197 := eq_true q197; have ea_ := Option.some.inj (hx195_1.symm.trans hx197_1); injection ea_ with ea_ en_ ec_; subst ea_; subst ec_; clear en_; have p198 : 0 ≤ (x3_1 : Int) := of_decide_eq_true (by first | (with_reducible assumption) | assumption); have q198 : x3_1 < (l0.length : Int) := of_decide_eq_true (by first | (with_reducible assumption) | assumption); obtain ⟨ad198, A198_1, c198_1, e198, hx198_0, hx198_1, hl198_1, hi198_1⟩ := at_T39 HR0.out x3_1 p198 q198; obtain rfl : ad195 = ad198 := (by injection e198); have HR198_1 := Aside0.mk hi198_1; have HC198_1 := Aside0.mk hl198_1; clear hi198_1 hl198_1; replace p198 := eq_true p198; replace q198 := eq_true q198; have ea_ := Option.some.inj (hx195_1.symm.trans hx198_1); injection ea_ with ea_ en_ ec_; subst ea_; subst ec_; clear en_; have p199 : 0 ≤ (x3_1 : Int) := of_decide_eq_true (by first | (with_reducible assumption) | assumption); have q199 : x3_1 < (l0.length : Int) := of_decide_eq_true (by first | (with_reducible assumption) | assumption); obtain ⟨ad199, A199_1, c199_1, e199, hx199_0, hx199_1, hl199_1, hi199_1⟩ := at_T39 HR0.out x3_1 p199 q199; obtain rfl : ad195 = ad199 := (by injection e199); have HR199_1 := Aside0.mk hi199_1; have HC199_1 := Aside0.mk hl199_1; clear hi199_1 hl199_1; replace p199 := eq_true p199; replace q199 := eq_true q199; have ea_ := Option.some.inj (hx195_1.symm.trans hx199_1); injection ea_ with ea_ en_ ec_; subst ea_; subst ec_; clear en_)))
          go_ret
          exact ⟨by first | rfl | (simp; done) | (simp [*]; done), by repeat (first | exact Drawn0.refl _ | apply Drawn0.step)⟩
         ·rw [if_neg c9] at H
          have c9b0 : decide (63 < ((rd_T39 l0 x3_1).f0)) = false := decide_eq_false c9
          clear c9
          by_cases c10 : x3_1 > 0
          ·rw [if_pos c10] at H
           have c10b0 : decide (0 < x3_1) = true := decide_eq_true c10
           clear c10
           obtain ⟨ji11, hji11⟩ : ∃ j_ : Int, (wrap64 (x3_1 - 1)) = j_ := ⟨_, rfl⟩
           replace H : (if 0 ≤ (ji11) then (if (ji11) < (l0.length : Int) then (if ((rd_T39 l0 x3_1).f0) ≤ ((rd_T39 l0 (ji11)).f0) then (some false) else (catchwordref06_May.l0 k1 l0 (wrap64 (x3_1 + 1)))) else (none)) else (none)) = some r := by first | (rw [hji11] at H; exact H) | (simp only [hji11] at H ⊢; exact H)
           (try rw [hji11] at A5)
           have hji11w : (IntKind.i64.wrap (x3_1 - 1)) = ji11 := (i64_w _).trans hji11
           by_cases c12 : 0 ≤ (ji11)
           ·rw [if_pos c12] at H
            have c12b0 : decide (0 ≤ (ji11)) = true := decide_eq_true c12
            clear c12
            by_cases c13 : (ji11) < (l0.length : Int)
            ·rw [if_pos c13] at H
             have c13b0 : decide ((ji11) < (l0.length : Int)) = true := decide_eq_true c13
             clear c13
             by_cases c14 : ((rd_T39 l0 x3_1).f0) ≤ ((rd_T39 l0 (ji11)).f0)
             ·rw [if_pos c14] at H
              have c14b0 : decide (((rd_T39 l0 x3_1).f0) ≤ ((rd_T39 l0 (ji11)).f0)) = true := decide_eq_true c14
              clear c14
              obtain rfl := Option.some.inj H
              have p195 : 0 ≤ (x3_1 : Int) := of_decide_eq_true (by first | (with_reducible assumption) | assumption)
              have q195 : x3_1 < (l0.length : Int) := of_decide_eq_true (by first | (with_reducible assumption) | assumption)
              obtain ⟨ad195, A195_1, c195_1, e195, hx195_0, hx195_1, hl195_1, hi195_1⟩ := at_T39 HR0.out x3_1 p195 q195
              cases e195
              have HR195_1 := Aside0.mk hi195_1
              have HC195_1 := Aside0.mk hl195_1
              clear hi195_1 hl195_1
              replace p195 := eq_true p195
              replace q195 := eq_true q195
              go_wp2_with (first | (go_at_call 36; (with_reducible refine (catchwordref06_rising.calls k1 _ _ ((rd_T39 l0 x3_1).f1) 120 true _ ?side1 ?side2 A5.out).mono ?_); (case side1 => repeat (first | exact HR195_1.out | (with_reducible refine Kd.C_alloc ?_ _) | (with_reducible refine Kd.C_drewN ?_ _) | (with_reducible refine Kd.C_drew ?_))); (case side2 => exact HC195_1.out); rintro e w' ⟨rfl, ⟨nd, rfl⟩⟩; (try first | exact ⟨rfl, _, World.drewN_drewN _ _ _⟩ | exact ⟨rfl, _, Eq.trans (World.drewN_drewN _ _ _) (congrArg (World.drewN _) (Nat.add_assoc _ _ _))⟩); have p197 : 0 ≤ (x3_1 : Int) := of_decide_eq_true (by first | (with_reducible assumption) | assumption); have q197 : x3_1 < (l0.length : Int) := of_decide_eq_true (by first | (with_reducible assumption) | assumption); obtain ⟨ad197, A197_1, c197_1, e197, hx197_0, hx197_1, hl197_1, hi197_1⟩ := at_T39 HR0.out x3_1 p197 q197; obtain rfl : ad195 = ad197 := (by injection e197); have HR197_1 := Aside0.mk hi197_1; have HC197_1 := Aside0.mk hl197_1; clear hi197_1 hl197_1; replace p197 := eq_true p197; replace q197 := eq_true q197; have ea_ := Option.some.inj (hx195_1.symm.trans hx197_1); injection ea_ with ea_ en_ ec_; subst ea_; subst ec_; clear en_; have p198 : 0 ≤ (x3_1 : Int) := of_decide_eq_true (by first | (with_reducible assumption) | assumption); have q198 : x3_1 < (l0.length : Int) := of_decide_eq_true (by first | (with_reducible assumption) | assumption); obtain ⟨ad198, A198_1, c198_1, e198, hx198_0, hx198_1, hl198_1, hi198_1⟩ := at_T39 HR0.out x3_1 p198 q198; obtain rfl : ad195 = ad198 := (by injection e198); have HR198_1 := Aside0.mk hi198_1; have HC198_1 := Aside0.mk hl198_1; clear hi198_1 hl198_1; replace p198 := eq_true p198; replace q198 := eq_true q198; have ea_ := Option.some.inj (hx195_1.symm.trans hx198_1); injection ea_ with ea_ en_ ec_; subst ea_; subst ec_; clear en_; have p199 : 0 ≤ (x3_1 : Int) := of_decide_eq_true (by first | (with_reducible assumption) | assumption); have q199 : x3_1 < (l0.length : Int) := of_decide_eq_true (by first | (with_reducible assumption) | assumption); obtain ⟨ad199, A199_1, c199_1, e199, hx199_0, hx199_1, hl199_1, hi199_1⟩ := at_T39 HR0.out x3_1 p199 q199; obtain rfl : ad195 = ad199 := (by injection e199); have HR199_1 := Aside0.mk hi199_1; have HC199_1 := Aside0.mk hl199_1; clear hi199_1 hl199_1; replace p199 := eq_true p199; replace q199 := eq_true q199; have ea_ := Option.some.inj (hx195_1.symm.trans hx199_1); injection ea_ with ea_ en_ ec_; subst ea_; subst ec_; clear en_; have p200 : 0 ≤ (x3_1 : Int) := of_decide_eq_true (by first | (with_reducible assumption) | assumption); have q200 : x3_1 < (l0.length : Int) := of_decide_eq_true (by first | (with_reducible assumption) | assumption); obtain ⟨ad200, A200_1, c200_1, e200, hx200_0, hx200_1, hl200_1, hi200_1⟩ := at_T39 HR0.out x3_1 p200 q200; obtain rfl : ad195 = ad200 := (by injection e200); have HR200_1 := Aside0.mk hi200_1; have HC200_1 := Aside0.mk hl200_1; clear hi200_1 hl200_1; replace p200 := eq_true p200; replace q200 := eq_true q200; have ea_ := Option.some.inj (hx195_1.symm.trans hx200_1); injection ea_ with ea_ en_ ec_; subst ea_; subst ec_; clear en_; have p201 : 0 ≤ ((ji11) : Int) := of_decide_eq_true (by first | (with_reducible assumption) | assumption); have q201 : (ji11) < (l0.length : Int) := of_decide_eq_true (by first | (with_reducible assumption) | assumption); obtain ⟨ad201, A201_1, c201_1, e201, hx201_0, hx201_1, hl201_1, hi201_1⟩ := at_T39 HR0.out (ji11) p201 q201; obtain rfl : ad195 = ad201 := (by injection e201); have HR201_1 := Aside0.mk hi201_1; have HC201_1 := Aside0.mk hl201_1; clear hi201_1 hl201_1; replace p201 := eq_true p201; replace q201 := eq_true q201))
              repeat (go_quiet (first | (go_at_call 36; (with_reducible refine (catchwordref06_rising.calls k1 _ _ ((rd_T39 l0 x3_1).f1) 120 true _ ?side1 ?side2 A5.out).mono ?_); (case side1 => repeat (first | exact HR195_1.out | (with_reducible refine Kd.C_alloc ?_ _) | (with_reducible refine Kd.C_drewN ?_ _) | (with_reducible refine Kd.C_drew ?_))); (case side2 => exact HC195_1.out); rintro e w' ⟨rfl, ⟨nd, rfl⟩⟩; (try first | exact ⟨rfl, _, World.drewN_drewN _ _ _⟩ | exact ⟨rfl, _, Eq.trans (World.drewN_drewN _ _ _) (congrArg (World.drewN _) (Nat.add_assoc _ _ _))⟩); have p197 : 0 ≤ (x3_1 : Int) := of_decide_eq_true (by first | (with_reducible assumption) | assumption); have q197 : x3_1 < (l0.length : Int) := of_decide_eq_true (by first | (with_reducible assumption) | assumption); obtain ⟨ad197, A197_1, c197_1, e197, hx197_0, hx197_1, hl197_1, hi197_1⟩ := at_T39 HR0.out x3_1 p197 q197; obtain rfl : ad195 = ad197 := (by injection e197); have HR197_1 := Aside0.mk hi197_1; have HC197_1 := Aside0.mk hl197_1; clear hi197_1 hl197_1; replace p197 := eq_true p197; replace q197 := eq_true q197; have ea_ := Option.some.inj (hx195_1.symm.trans hx197_1); injection ea_ with ea_ en_ ec_; subst ea_; subst ec_; clear en_; have p198 : 0 ≤ (x3_1 : Int) := of_decide_eq_true (by first | (with_reducible assumption) | assumption); have q198 : x3_1 < (l0.length : Int) := of_decide_eq_true (by first | (with_reducible assumption) | assumption); obtain ⟨ad198, A198_1, c198_1, e198, hx198_0, hx198_1, hl198_1, hi198_1⟩ := at_T39 HR0.out x3_1 p198 q198; obtain rfl : ad195 = ad198 := (by injection e198); have HR198_1 := Aside0.mk hi198_1; have HC198_1 := Aside0.mk hl198_1; clear hi198_1 hl198_1; replace p198 := eq_true p198; replace q198 := eq_true q198; have ea_ := Option.some.inj (hx195_1.symm.trans hx198_1); injection ea_ with ea_ en_ ec_; subst ea_; subst ec_; clear en_; have p199 : 0 ≤ (x3_1 : Int) := of_decide_eq_true (by first | (with_reducible assumption) | assumption); have q199 : x3_1 < (l0.length : Int) := of_decide_eq_true (by first | (with_reducible assumption) | assumption); obtain ⟨ad199, A199_1, c199_1, e199, hx199_0, hx199_1, hl199_1, hi199_1⟩ := at_T39 HR0.out x3_1 p199 q199; obtain rfl : ad195 = ad199 := (by injection e199); have HR199_1 := Aside0.mk hi199_1; have HC199_1 := Aside0.mk hl199_1; clear hi199_1 hl199_1; replace p199 := eq_true p199; replace q199 := eq_true q199; have ea_ := Option.some.inj (hx195_1.symm.trans hx199_1); injection ea_ with ea_ en_ ec_; subst ea_; subst ec_; clear en_; have p200 : 0 ≤ (x3_1 : Int) := of_decide_eq_true (by first | (with_reducible assumption) | assumption); have q200 : x3_1 < (l0.length : Int) := of_decide_eq_true (by first | (with_reducible assumption) | assumption); obtain ⟨ad200, A200_1, c200_1, e200, hx200_0, hx200_1, hl200_1, hi200_1⟩ := at_T39 HR0.out x3_1 p200 q200; obtain rfl : ad195 = ad200 := (by injection e200); have HR200_1 := Aside0.mk hi200_1; have HC200_1 := Aside0.mk hl200_1; clear hi200_1 hl200_1; replace p200 := eq_true p200; replace q200 := eq_true q200; have ea_ := Option.some.inj (hx195_1.symm.trans hx200_1); injection ea_ with ea_ en_ ec_; subst ea_; subst ec_; clear en_; have p201 : 0 ≤ ((ji11) : Int) := of_decide_eq_true (by first | (with_reducible assumption) | assumption); have q201 : (ji11) < (l0.length : Int) := of_decide_eq_true (by first | (with_reducible assumption) | assumption); obtain ⟨ad201, A201_1, c201_1, e201, hx201_0, hx201_1, hl201_1, hi201_1⟩ := at_T39 HR0.out (ji11) p201 q201; obtain rfl : ad195 = ad201 := (by injection e201); have HR201_1 := Aside0.mk hi201_1; have HC201_1 := Aside0.mk hl201_1; clear hi201_1 hl201_1; replace p201 := eq_true p201; replace q201 := eq_true q201)); try go_wp2_with (first | (go_at_call 36; (with_reducible refine (catchwordref06_rising.calls k1 _ _ ((rd_T39 l0 x3_1).f1) 120 true _ ?side1 ?side2 A5.out).mono ?_); (case side1 => repeat (first | exact HR195_1.out | (with_reducible refine Kd.C_alloc ?_ _) | (with_reducible refine Kd.C_drewN ?_ _) | (with_reducible refine Kd.C_drew ?_))); (case side2 => exact HC195_1.out); rintro e w' ⟨rfl, ⟨nd, rfl⟩⟩; (try first | exact ⟨rfl, _, World.drewN_drewN _ _ _⟩ | exact ⟨rfl, _, Eq.trans (World.drewN_drewN _ _ _) (congrArg (World.drewN _) (Nat.add_assoc _ _ _))⟩); have p197 : 0 ≤ (x3_1 : Int) := of_decide_eq_true (by first | (with_reducible assumption) | assumption); have q197 : x3_1 < (l0.length : Int) := of_decide_eq_true (by first | (with_reducible assumption) | assumption); obtain ⟨ad197, A197_1, c197_1, e197, hx197_0, hx197_1, hl197_1, hi197_1⟩ := at_T39 HR0.out x3_1 p197 q197; obtain rfl : ad195 = ad197 := (by injection e197); have HR197_1 := Aside0.mk hi197_1; have HC197_1 := Aside0.mk hl197_1; clear hi197_1 hl197_1; replace p197 := eq_true p197; replace q197 := eq_true q197; have ea_ := Option.some.inj (hx195_1.symm.trans hx197_1); injection ea_ with ea_ en_ ec_; subst ea_; subst ec_; clear en_; have p198 : 0 ≤ (x3_1 : Int) := of_decide_eq_true (by first | (with_reducible assumption) | assumption); have q198 : x3_1 < (l0.length : Int) := of_decide_eq_true (by first | (with_reducible assumption) | assumption); obtain ⟨ad198, A198_1, c198_1, e198, hx198_0, hx198_1, hl198_1, hi198_1⟩ := at_T39 HR0.out x3_1 p198 q198; obtain rfl : ad195 = ad198 := (by injection e198); have HR198_1 := Aside0.mk hi198_1; have HC198_1 := Aside0.mk hl198_1; clear hi198_1 hl198_1; replace p198 := eq_true p198; replace q198 := eq_true q198; have ea_ := Option.some.inj (hx195_1.symm.trans hx198_1); injection ea_ with ea_ en_ ec_; subst ea_; subst ec_; clear en_; have p199 : 0 ≤ (x3_1 : Int) := of_decide_eq_true (by first | (with_reducible assumption) | assumption); have q199 : x3_1 < (l0.length : Int) := of_decide_eq_true (by first | (with_reducible assumption) | assumption); obtain ⟨ad199, A199_1, c199_1, e199, hx199_0, hx199_1, hl199_1, hi199_1⟩ := at_T39 HR0.out x3_1 p199 q199; obtain rfl : ad195 = ad199 := (by injection e199); have HR199_1 := Aside0.mk hi199_1; have HC199_1 := Aside0.mk hl199_1; clear hi199_1 hl199_1; replace p199 := eq_true p199; replace q199 := eq_true q199; have ea_ := Option.some.inj (hx195_1.symm.trans hx199_1); injection ea_ with ea_ en_ ec_; subst ea_; subst ec_; clear en_; have p200 : 0 ≤ (x3_1 : Int) := of_decide_eq_true (by first | (with_reducible assumption) | assumption); have q200 : x3_1 < (l0.length : Int) := of_decide_eq_true (by first | (with_reducible assumption) | assumption); obtain ⟨ad200, A200_1, c200_1, e200, hx200_0, hx200_1, hl200_1, hi200_1⟩ := at_T39 HR0.out x3_1 p200 q200; obtain rfl : ad195 = ad200 := (by injection e200); have HR200_1 := Aside0.mk hi200_1; have HC200_1 := Aside0.mk hl200_1; clear hi200_1 hl200_1; replace p200 := eq_true p200; replace q200 := eq_true q200; have ea_ := Option.some.inj (hx195_1.symm.trans hx200_1); injection ea_ with ea_ en_ ec_; subst ea_; subst ec_; clear en_; have p201 : 0 ≤ ((ji11) : Int) := of_decide_eq_true (by first | (with_reducible assumption) | assumption); have q201 : (ji11) < (l0.length : Int) := of_decide_eq_true (by first | (with_reducible assumption) | assumption); obtain ⟨ad201, A201_1, c201_1, e201, hx201_0, hx201_1, hl201_1, hi201_1⟩ := at_T39 HR0.out (ji11) p201 q201; obtain rfl : ad195 = ad201 := (by injection e201); have HR201_1 := Aside0.mk hi201_1; have HC201_1 := Aside0.mk hl201_1; clear hi201_1 hl201_1; replace p201 := eq_true p201; replace q201 := eq_true q201)))
              go_ret
              exact ⟨by first | rfl | (simp; done) | (simp only [← hji11] <;> (first | rfl | simp)) | (simp [*]; done), by repeat (first | exact Drawn0.refl _ | apply Drawn0.step)⟩
             ·rw [if_neg c14] at H
              have c14b0 : decide (((rd_T39 l0 x3_1).f0) ≤ ((rd_T39 l0 (ji11)).f0)) = false := decide_eq_false c14
              clear c14
              have H' := Aside0.mk H
              clear H
              have p195 : 0 ≤ (x3_1 : Int) := of_decide_eq_true (by first | (with_reducible assumption) | assumption)
              have q195 : x3_1 < (l0.length : Int) := of_decide_eq_true (by first | (with_reducible assumption) | assumption)
              obtain ⟨ad195, A195_1, c195_1, e195, hx195_0, hx195_1, hl195_1, hi195_1⟩ := at_T39 HR0.out x3_1 p195 q195
              cases e195
              have HR195_1 := Aside0.mk hi195_1
              have HC195_1 := Aside0.mk hl195_1
              clear hi195_1 hl195_1
              replace p195 := eq_true p195
              replace q195 := eq_true q195
              go_wp2_with (first | (go_at_call 36; (with_reducible refine (catchwordref06_rising.calls k1 _ _ ((rd_T39 l0 x3_1).f1) 120 true _ ?side1 ?side2 A5.out).mono ?_); (case side1 => repeat (first | exact HR195_1.out | (with_reducible refine Kd.C_alloc ?_ _) | (with_reducible refine Kd.C_drewN ?_ _) | (with_reducible refine Kd.C_drew ?_))); (case side2 => exact HC195_1.out); rintro e w' ⟨rfl, ⟨nd, rfl⟩⟩; (try first | exact ⟨rfl, _, World.drewN_drewN _ _ _⟩ | exact ⟨rfl, _, Eq.trans (World.drewN_drewN _ _ _) (congrArg (World.drewN _) (Nat.add_assoc _ _ _))⟩); have p197 : 0 ≤ (x3_1 : Int) := of_decide_eq_true (by first | (with_reducible assumption) | assumption); have q197 : x3_1 < (l0.length : Int) := of_decide_eq_true (by first | (with_reducible assumption) | assumption); obtain ⟨ad197, A197_1, c197_1, e197, hx197_0, hx197_1, hl197_1, hi197_1⟩ := at_T39 HR0.out x3_1 p197 q197; obtain rfl : ad195 = ad197 := (by injection e197); have HR197_1 := Aside0.mk hi197_1; have HC197_1 := Aside0.mk hl197_1; clear hi197_1 hl197_1; replace p197 := eq_true p197; replace q197 := eq_true q197; have ea_ := Option.some.inj (hx195_1.symm.trans hx197_1); injection ea_ with ea_ en_ ec_; subst ea_; subst ec_; clear en_; have p198 : 0 ≤ (x3_1 : Int) := of_decide_eq_true (by first | (with_reducible assumption) | assumption); have q198 : x3_1 < (l0.length : Int) := of_decide_eq_true (by first | (with_reducible assumption) | assumption); obtain ⟨ad198, A198_1, c198_1, e198, hx198_0, hx198_1, hl198_1, hi198_1⟩ := at_T39 HR0.out x3_1 p198 q198; obtain rfl : ad195 = ad198 := (by injection e198); have HR198_1 := Aside0.mk hi198_1; have HC198_1 := Aside0.mk hl198_1; clear hi198_1 hl198_1; replace p198 := eq_true p198; replace q198 := eq_true q198; have ea_ := Option.some.inj (hx195_1.symm.trans hx198_1); injection ea_ with ea_ en_ ec_; subst ea_; subst ec_; clear en_; have p199 : 0 ≤ (x3_1 : Int) := of_decide_eq_true (by first | (with_reducible assumption) | assumption); have q199 : x3_1 < (l0.length : Int) := of_decide_eq_true (by first | (with_reducible assumption) | assumption); obtain ⟨ad199, A199_1, c199_1, e199, hx199_0, hx199_1, hl199_1, hi199_1⟩ := at_T39 HR0.out x3_1 p199 q199; obtain rfl : ad195 = ad199 := (by injection e199); have HR199_1 := Aside0.mk hi199_1; have HC199_1 := Aside0.mk hl199_1; clear hi199_1 hl199_1; replace p199 := eq_true p199; replace q199 := eq_true q199; have ea_ := Option.some.inj (hx195_1.symm.trans hx199_1); injection ea_ with ea_ en_ ec_; subst ea_; subst ec_; clear en_; have p200 : 0 ≤ (x3_1 : Int) := of_decide_eq_true (by first | (with_reducible assumption) | assumption); have q200 : x3_1 < (l0.length : Int) := of_decide_eq_true (by first | (with_reducible assumption) | assumption); obtain ⟨ad200, A200_1, c200_1, e200, hx200_0, hx200_1, hl200_1, hi200_1⟩ := at_T39 HR0.out x3_1 p200 q200; obtain rfl : ad195 = ad200 := (by injection e200); have HR200_1 := Aside0.mk hi200_1; have HC200_1 := Aside0.mk hl200_1; clear hi200_1 hl200_1; replace p200 := eq_true p200; replace q200 := eq_true q200; have ea_ := Option.some.inj (hx195_1.symm.trans hx200_1); injection ea_ with ea_ en_ ec_; subst ea_; subst ec_; clear en_; have p201 : 0 ≤ ((ji11) : Int) := of_decide_eq_true (by first | (with_reducible assumption) | assumption); have q201 : (ji11) < (l0.length : Int) := of_decide_eq_true (by first | (with_reducible assumption) | assumption); obtain ⟨ad201, A201_1, c201_1, e201, hx201_0, hx201_1, hl201_1, hi201_1⟩ := at_T39 HR0.out (ji11) p201 q201; obtain rfl : ad195 = ad201 := (by injection e201); have HR201_1 := Aside0.mk hi201_1; have HC201_1 := Aside0.mk hl201_1; clear hi201_1 hl201_1; replace p201 := eq_true p201; replace q201 := eq_true q201))
              repeat (go_quiet (first | (go_at_call 36; (with_reducible refine (catchwordref06_rising.calls k1 _ _ ((rd_T39 l0 x3_1).f1) 120 true _ ?side1 ?side2 A5.out).mono ?_); (case side1 => repeat (first | exact HR195_1.out | (with_reducible refine Kd.C_alloc ?_ _) | (with_reducible refine Kd.C_drewN ?_ _) | (with_reducible refine Kd.C_drew ?_))); (case side2 => exact HC195_1.out); rintro e w' ⟨rfl, ⟨nd, rfl⟩⟩; (try first | exact ⟨rfl, _, World.drewN_drewN _ _ _⟩ | exact ⟨rfl, _, Eq.trans (World.drewN_drewN _ _ _) (congrArg (World.drewN _) (Nat.add_assoc _ _ _))⟩); have p197 : 0 ≤ (x3_1 : Int) := of_decide_eq_true (by first | (with_reducible assumption) | assumption); have q197 : x3_1 < (l0.length : Int) := of_decide_eq_true (by first | (with_reducible assumption) | assumption); obtain ⟨ad197, A197_1, c197_1, e197, hx197_0, hx197_1, hl197_1, hi197_1⟩ := at_T39 HR0.out x3_1 p197 q197; obtain rfl : ad195 = ad197 := (by injection e197); have HR197_1 := Aside0.mk hi197_1; have HC197_1 := Aside0.mk hl197_1; clear hi197_1 hl197_1; replace p197 := eq_true p197; replace q197 := eq_true q197; have ea_ := Option.some.inj (hx195_1.symm.trans hx197_1); injection ea_ with ea_ en_ ec_; subst ea_; subst ec_; clear en_; have p198 : 0 ≤ (x3_1 : Int) := of_decide_eq_true (by first | (with_reducible assumption) | assumption); have q198 : x3_1 < (l0.length : Int) := of_decide_eq_true (by first | (with_reducible assumption) | assumption); obtain ⟨ad198, A198_1, c198_1, e198, hx198_0, hx198_1, hl198_1, hi198_1⟩ := at_T39 HR0.out x3_1 p198 q198; obtain rfl : ad195 = ad198 := (by injection e198); have HR198_1 := Aside0.mk hi198_1; have HC198_1 := Aside0.mk hl198_1; clear hi198_1 hl198_1; replace p198 := eq_true p198; replace q198 := eq_true q198; have ea_ := Option.some.inj (hx195_1.symm.trans hx198_1); injection ea_ with ea_ en_ ec_; subst ea_; subst ec_; clear en_; have p199 : 0 ≤ (x3_1 : Int) := of_decide_eq_true (by first | (with_reducible assumption) | assumption); have q199 : x3_1 < (l0.length : Int) := of_decide_eq_true (by first | (with_reducible assumption) | assumption); obtain ⟨ad199, A199_1, c199_1, e199, hx199_0, hx199_1, hl199_1, hi199_1⟩ := at_T39 HR0.out x3_1 p199 q199; obtain rfl : ad195 = ad199 := (by injection e199); have HR199_1 := Aside0.mk hi199_1; have HC199_1 := Aside0.mk hl199_1; clear hi199_1 hl199_1; replace p199 := eq_true p199; replace q199 := eq_true q199; have ea_ := Option.some.inj (hx195_1.symm.trans hx199_1); injection ea_ with ea_ en_ ec_; subst ea_; subst ec_; clear en_; have p200 : 0 ≤ (x3_1 : Int) := of_decide_eq_true (by first | (with_reducible assumption) | assumption); have q200 : x3_1 < (l0.length : Int) := of_decide_eq_true (by first | (with_reducible assumption) | assumption); obtain ⟨ad200, A200_1, c200_1, e200, hx200_0, hx200_1, hl200_1, hi200_1⟩ := at_T39 HR0.out x3_1 p200 q200; obtain rfl : ad195 = ad200 := (by injection e200); have HR200_1 := Aside0.mk hi200_1; have HC200_1 := Aside0.mk hl200_1; clear hi200_1 hl200_1; replace p200 := eq_true p200; replace q200 := eq_true q200; have ea_ := Option.some.inj (hx195_1.symm.trans hx200_1); injection ea_ with ea_ en_ ec_; subst ea_; subst ec_; clear en_; have p201 : 0 ≤ ((ji11) : Int) := of_decide_eq_true (by first | (with_reducible assumption) | assumption); have q201 : (ji11) < (l0.length : Int) := of_decide_eq_true (by first | (with_reducible assumption) | assumption); obtain ⟨ad201, A201_1, c201_1, e201, hx201_0, hx201_1, hl201_1, hi201_1⟩ := at_T39 HR0.out (ji11) p201 q201; obtain rfl : ad195 = ad201 := (by injection e201); have HR201_1 := Aside0.mk hi201_1; have HC201_1 := Aside0.mk hl201_1; clear hi201_1 hl201_1; replace p201 := eq_true p201; replace q201 := eq_true q201)); try go_wp2_with (first | (go_at_call 36; (with_reducible refine (catchwordref06_rising.calls k1 _ _ ((rd_T39 l0 x3_1).f1) 120 true _ ?side1 ?side2 A5.out).mono ?_); (case side1 => repeat (first | exact HR195_1.out | (with_reducible refine Kd.C_alloc ?_ _) | (with_reducible refine Kd.C_drewN ?_ _) | (with_reducible refine Kd.C_drew ?_))); (case side2 => exact HC195_1.out); rintro e w' ⟨rfl, ⟨nd, rfl⟩⟩; (try first | exact ⟨rfl, _, World.drewN_drewN _ _ _⟩ | exact ⟨rfl, _, Eq.trans (World.drewN_drewN _ _ _) (congrArg (World.drewN _) (Nat.add_assoc _ _ _))⟩); have p197 : 0 ≤ (x3_1 : Int) := of_decide_eq_true (by first | (with_reducible assumption) | assumption); have q197 : x3_1 < (l0.length : Int) := of_decide_eq_true (by first | (with_reducible assumption) | assumption); obtain ⟨ad197, A197_1, c197_1, e197, hx197_0, hx197_1, hl197_1, hi197_1⟩ := at_T39 HR0.out x3_1 p197 q197; obtain rfl : ad195 = ad197 := (by injection e197); have HR197_1 := Aside0.mk hi197_1; have HC197_1 := Aside0.mk hl197_1; clear hi197_1 hl197_1; replace p197 := eq_true p197; replace q197 := eq_true q197; have ea_ := Option.some.inj (hx195_1.symm.trans hx197_1); injection ea_ with ea_ en_ ec_; subst ea_; subst ec_; clear en_; have p198 : 0 ≤ (x3_1 : Int) := of_decide_eq_true (by first | (with_reducible assumption) | assumption); have q198 : x3_1 < (l0.length : Int) := of_decide_eq_true (by first | (with_reducible assumption) | assumption); obtain ⟨ad198, A198_1, c198_1, e198, hx198_0, hx198_1, hl198_1, hi198_1⟩ := at_T39 HR0.out x3_1 p198 q198; obtain rfl : ad195 = ad198 := (by injection e198); have HR198_1 := Aside0.mk hi198_1; have HC198_1 := Aside0.mk hl198_1; clear hi198_1 hl198_1; replace p198 := eq_true p198; replace q198 := eq_true q198; have ea_ := Option.some.inj (hx195_1.symm.trans hx198_1); injection ea_ with ea_ en_ ec_; subst ea_; subst ec_; clear en_; have p199 : 0 ≤ (x3_1 : Int) := of_decide_eq_true (by first | (with_reducible assumption) | assumption); have q199 : x3_1 < (l0.length : Int) := of_decide_eq_true (by first | (with_reducible assumption) | assumption); obtain ⟨ad199, A199_1, c199_1, e199, hx199_0, hx199_1, hl199_1, hi199_1⟩ := at_T39 HR0.out x3_1 p199 q199; obtain rfl : ad195 = ad199 := (by injection e199); have HR199_1 := Aside0.mk hi199_1; have HC199_1 := Aside0.mk hl199_1; clear hi199_1 hl199_1; replace p199 := eq_true p199; replace q199 := eq_true q199; have ea_ := Option.some.inj (hx195_1.symm.trans hx199_1); injection ea_ with ea_ en_ ec_; subst ea_; subst ec_; clear en_; have p200 : 0 ≤ (x3_1 : Int) := of_decide_eq_true (by first | (with_reducible assumption) | assumption); have q200 : x3_1 < (l0.length : Int) := of_decide_eq_true (by first | (with_reducible assumption) | assumption); obtain ⟨ad200, A200_1, c200_1, e200, hx200_0, hx200_1, hl200_1, hi200_1⟩ := at_T39 HR0.out x3_1 p200 q200; obtain rfl : ad195 = ad200 := (by injection e200); have HR200_1 := Aside0.mk hi200_1; have HC200_1 := Aside0.mk hl200_1; clear hi200_1 hl200_1; replace p200 := eq_true p200; replace q200 := eq_true q200; have ea_ := Option.some.inj (hx195_1.symm.trans hx200_1); injection ea_ with ea_ en_ ec_; subst ea_; subst ec_; clear en_; have p201 : 0 ≤ ((ji11) : Int) := of_decide_eq_true (by first | (with_reducible assumption) | assumption); have q201 : (ji11) < (l0.length : Int) := of_decide_eq_true (by first | (with_reducible assumption) | assumption); obtain ⟨ad201, A201_1, c201_1, e201, hx201_0, hx201_1, hl201_1, hi201_1⟩ := at_T39 HR0.out (ji11) p201 q201; obtain rfl : ad195 = ad201 := (by injection e201); have HR201_1 := Aside0.mk hi201_1; have HC201_1 := Aside0.mk hl201_1; clear hi201_1 hl201_1; replace p201 := eq_true p201; replace q201 := eq_true q201)))
              go_roundg k1
              case measure => have := HK1.out; omega
              case rel => exact ⟨(wrap64 (x3_1 + 1)), (by first | rfl | (simp; done) | (simp [*]; done)), H', ⟨by have := HK1.out; omega⟩, by repeat (first | exact Drawn0.refl _ | apply Drawn0.step)⟩
            ·rw [if_neg c13] at H
             exact absurd H (by simp)
           ·rw [if_neg c12] at H
            exact absurd H (by simp)
          ·rw [if_neg c10] at H
           have c10b0 : decide (0 < x3_1) = false := decide_eq_false c10
           clear c10
           have H' := Aside0.mk H
           clear H
           have p195 : 0 ≤ (x3_1 : Int) := of_decide_eq_true (by first | (with_reducible assumption) | assumption)
           have q195 : x3_1 < (l0.length : Int) := of_decide_eq_true (by first | (with_reducible assumption) | assumption)
           obtain ⟨ad195, A195_1, c195_1, e195, hx195_0, hx195_1, hl195_1, hi195_1⟩ := at_T39 HR0.out x3_1 p195 q195
           cases e195
           have HR195_1 := Aside0.mk hi195_1
           have HC195_1 := Aside0.mk hl195_1
           clear hi195_1 hl195_1
           replace p195 := eq_true p195
           replace q195 := eq_true q195
           go_wp2_with (first | (go_at_call 36; (with_reducible refine (catchwordref06_rising.calls k1 _ _ ((rd_T39 l0 x3_1).f1) 120 true _ ?side1 ?side2 A5.out).mono ?_); (case side1 => repeat (first | exact HR195_1.out | (with_reducible refine Kd.C_alloc ?_ _) | (with_reducible refine Kd.C_drewN ?_ _) | (with_reducible refine Kd.C_drew ?_))); (case side2 => exact HC195_1.out); rintro e w' ⟨rfl, ⟨nd, rfl⟩⟩; (try first | exact ⟨rfl, _, World.drewN_drewN _ _ _⟩ | exact ⟨rfl, _, Eq.trans (World.drewN_drewN _ _ _) (congrArg (World.drewN _) (Nat.add_assoc _ _ _))⟩); have p197 : 0 ≤ (x3_1 : Int) := of_decide_eq_true (by first | (with_reducible assumption) | assumption); have q197 : x3_1 < (l0.length : Int) := of_decide_eq_true (by first | (with_reducible assumption) | assumption); obtain ⟨ad197, A197_1, c197_1, e197, hx197_0, hx197_1, hl197_1, hi197_1⟩ := at_T39 HR0.out x3_1 p197 q197; obtain rfl : ad195 = ad197 := (by injection e197); have HR197_1 := Aside0.mk hi197_1; have HC197_1 := Aside0.mk hl197_1; clear hi197_1 hl197_1; replace p197 := eq_true p197; replace q197 := eq_true q197; have ea_ := Option.some.inj (hx195_1.symm.trans hx197_1); injection ea_ with ea_ en_ ec_; subst ea_; subst ec_; clear en_; have p198 : 0 ≤ (x3_1 : Int) := of_decide_eq_true (by first | (with_reducible assumption) | assumption); have q198 : x3_1 < (l0.length : Int) := of_decide_eq_true (by first | (with_reducible assumption) | assumption); obtain ⟨ad198, A198_1, c198_1, e198, hx198_0, hx198_1, hl198_1, hi198_1⟩ := at_T39 HR0.out x3_1 p198 q198; obtain rfl : ad195 = ad198 := (by injection e198); have HR198_1 := Aside0.mk hi198_1; have HC198_1 := Aside0.mk hl198_1; clear hi198_1 hl198_1; replace p198 := eq_true p198; replace q198 := eq_true q198; have ea_ := Option.some.inj (hx195_1.symm.trans hx198_1); injection ea_ with ea_ en_ ec_; subst ea_; subst ec_; clear en_; have p199 : 0 ≤ (x3_1 : Int) := of_decide_eq_true (by first | (with_reducible assumption) | assumption); have q199 : x3_1 < (l0.length : Int) := of_decide_eq_true (by first | (with_reducible assumption) | assumption); obtain ⟨ad199, A199_1, c199_1, e199, hx199_0, hx199_1, hl199_1, hi199_1⟩ := at_T39 HR0.out x3_1 p199 q199; obtain rfl : ad195 = ad199 := (by injection e199); have HR199_1 := Aside0.mk hi199_1; have HC199_1 := Aside0.mk hl199_1; clear hi199_1 hl199_1; replace p199 := eq_true p199; replace q199 := eq_true q199; have ea_ := Option.some.inj (hx195_1.symm.trans hx199_1); injection ea_ with ea_ en_ ec_; subst ea_; subst ec_; clear en_))
           repeat (go_quiet (first | (go_at_call 36; (with_reducible refine (catchwordref06_rising.calls k1 _ _ ((rd_T39 l0 x3_1).f1) 120 true _ ?side1 ?side2 A5.out).mono ?_); (case side1 => repeat (first | exact HR195_1.out | (with_reducible refine Kd.C_alloc ?_ _) | (with_reducible refine Kd.C_drewN ?_ _) | (with_reducible refine Kd.C_drew ?_))); (case side2 => exact HC195_1.out); rintro e w' ⟨rfl, ⟨nd, rfl⟩⟩; (try first | exact ⟨rfl, _, World.drewN_drewN _ _ _⟩ | exact ⟨rfl, _, Eq.trans (World.drewN_drewN _ _ _) (congrArg (World.drewN _) (Nat.add_assoc _ _ _))⟩); have p197 : 0 ≤ (x3_1 : Int) := of_decide_eq_true (by first | (with_reducible assumption) | assumption); have q197 : x3_1 < (l0.length : Int) := of_decide_eq_true (by first | (with_reducible assumption) | assumption); obtain ⟨ad197, A197_1, c197_1, e197, hx197_0, hx197_1, hl197_1, hi197_1⟩ := at_T39 HR0.out x3_1 p197 q197; obtain rfl : ad195 = ad197 := (by injection e197); have HR197_1 := Aside0.mk hi197_1; have HC197_1 := Aside0.mk hl197_1; clear hi197_1 hl197_1; replace p197 := eq_true p197; replace q197 := eq_true q197; have ea_ := Option.some.inj (hx195_1.symm.trans hx197_1); injection ea_ with ea_ en_ ec_; subst ea_; subst ec_; clear en_; have p198 : 0 ≤ (x3_1 : Int) := of_decide_eq_true (by first | (with_reducible assumption) | assumption); have q198 : x3_1 < (l0.length : Int) := of_decide_eq_true (by first | (with_reducible assumption) | assumption); obtain ⟨ad198, A198_1, c198_1, e198, hx198_0, hx198_1, hl198_1, hi198_1⟩ := at_T39 HR0.out x3_1 p198 q198; obtain rfl : ad195 = ad198 := (by injection e198); have HR198_1 := Aside0.mk hi198_1; have HC198_1 := Aside0.mk hl198_1; clear hi198_1 hl198_1; replace p198 := eq_true p198; replace q198 := eq_true q198; have ea_ := Option.some.inj (hx195_1.symm.trans hx198_1); injection ea_ with ea_ en_ ec_; subst ea_; subst ec_; clear en_; have p199 : 0 ≤ (x3_1 : Int) := of_decide_eq_true (by first | (with_reducible assumption) | assumption); have q199 : x3_1 < (l0.length : Int) := of_decide_eq_true (by first | (with_reducible assumption) | assumption); obtain ⟨ad199, A199_1, c199_1, e199, hx199_0, hx199_1, hl199_1, hi199_1⟩ := at_T39 HR0.out x3_1 p199 q199; obtain rfl : ad195 = ad199 := (by injection e199); have HR199_1 := Aside0.mk hi199_1; have HC199_1 := Aside0.mk hl199_1; clear hi199_1 hl199_1; replace p199 := eq_true p199; replace q199 := eq_true q199; have ea_ := Option.some.inj (hx195_1.symm.trans hx199_1); injection ea_ with ea_ en_ ec_; subst ea_; subst ec_; clear en_)); try go_wp2_with (first | (go_at_call 36; (with_reducible refine (catchwordref06_rising.calls k1 _ _ ((rd_T39 l0 x3_1).f1) 120 true _ ?side1 ?side2 A5.out).mono ?_); (case side1 => repeat (first | exact HR195_1.out | (with_reducible refine Kd.C_alloc ?_ _) | (with_reducible refine Kd.C_drewN ?_ _) | (with_reducible refine Kd.C_drew ?_))); (case side2 => exact HC195_1.out); rintro e w' ⟨rfl, ⟨nd, rfl⟩⟩; (try first | exact ⟨rfl, _, World.drewN_drewN _ _ _⟩ | exact ⟨rfl, _, Eq.trans (World.drewN_drewN _ _ _) (congrArg (World.drewN _) (Nat.add_assoc _ _ _))⟩); have p197 : 0 ≤ (x3_1 : Int) := of_decide_eq_true (by first | (with_reducible assumption) | assumption); have q197 : x3_1 < (l0.length : Int) := of_decide_eq_true (by first | (with_reducible assumption) | assumption); obtain ⟨ad197, A197_1, c197_1, e197, hx197_0, hx197_1, hl197_1, hi197_1⟩ := at_T39 HR0.out x3_1 p197 q197; obtain rfl : ad195 = ad197 := (by injection e197); have HR197_1 := Aside0.mk hi197_1; have HC197_1 := Aside0.mk hl197_1; clear hi197_1 hl197_1; replace p197 := eq_true p197; replace q197 := eq_true q197; have ea_ := Option.some.inj (hx195_1.symm.trans hx197_1); injection ea_ with ea_ en_ ec_; subst ea_; subst ec_; clear en_; have p198 : 0 ≤ (x3_1 : Int) := of_decide_eq_true (by first | (with_reducible assumption) | assumption); have q198 : x3_1 < (l0.length : Int) := of_decide_eq_true (by first | (with_reducible assumption) | assumption); obtain ⟨ad198, A198_1, c198_1, e198, hx198_0, hx198_1, hl198_1, hi198_1⟩ := at_T39 HR0.out x3_1 p198 q198; obtain rfl : ad195 = ad198 := (by injection e198); have HR198_1 := Aside0.mk hi198_1; have HC198_1 := Aside0.mk hl198_1; clear hi198_1 hl198_1; replace p198 := eq_true p198; replace q198 := eq_true q198; have ea_ := Option.some.inj (hx195_1.symm.trans hx198_1); injection ea_ with ea_ en_ ec_; subst ea_; subst ec_; clear en_; have p199 : 0 ≤ (x3_1 : Int) := of_decide_eq_true (by first | (with_reducible assumption) | assumption); have q199 : x3_1 < (l0.length : Int) := of_decide_eq_true (by first | (with_reducible assumption) | assumption); obtain ⟨ad199, A199_1, c199_1, e199, hx199_0, hx199_1, hl199_1, hi199_1⟩ := at_T39 HR0.out x3_1 p199 q199; obtain rfl : ad195 = ad199 := (by injection e199); have HR199_1 := Aside0.mk hi199_1; have HC199_1 := Aside0.mk hl199_1; clear hi199_1 hl199_1; replace p199 := eq_true p199; replace q199 := eq_true q199; have ea_ := Option.some.inj (hx195_1.symm.trans hx199_1); injection ea_ with ea_ en_ ec_; subst ea_; subst ec_; clear en_)))
           go_roundg k1
           case measure => have := HK1.out; omega
           case rel => exact ⟨(wrap64 (x3_1 + 1)), (by first | rfl | (simp; done) | (simp [*]; done)), H', ⟨by have := HK1.out; omega⟩, by repeat (first | exact Drawn0.refl _ | apply Drawn0.step)⟩
      ·replace c6 := Bool.eq_false_iff.mpr c6
       subst c6
       have H1 : (some false) = some r := by rw [if_neg (show ¬ (false = true) by decide)] at H; exact H
       clear H
       have H := H1
       clear H1
       obtain rfl := Option.some.inj H
       have p195 : 0 ≤ (x3_1 : Int) := of_decide_eq_true (by first | (with_reducible assumption) | assumption)
       have q195 : x3_1 < (l0.length : Int) := of_decide_eq_true (by first | (with_reducible assumption) | assumption)
       obtain ⟨ad195, A195_1, c195_1, e195, hx195_0, hx195_1, hl195_1, hi195_1⟩ := at_T39 HR0.out x3_1 p195 q195
       cases e195
       have HR195_1 := Aside0.mk hi195_1
       have HC195_1 := Aside0.mk hl195_1
       clear hi195_1 hl195_1
       replace p195 := eq_true p195
       replace q195 := eq_true q195
       go_wp2_with (first | (go_at_call 36; (with_reducible refine (catchwordref06_rising.calls k1 _ _ ((rd_T39 l0 x3_1).f1) 120 false _ ?side1 ?side2 A5.out).mono ?_); (case side1 => repeat (first | exact HR195_1.out | (with_reducible refine Kd.C_alloc ?_ _) | (with_reducible refine Kd.C_drewN ?_ _) | (with_reducible refine Kd.C_drew ?_))); (case side2 => exact HC195_1.out); rintro e w' ⟨rfl, ⟨nd, rfl⟩⟩; (try first | exact ⟨rfl, _, World.drewN_drewN _ _ _⟩ | exact ⟨rfl, _, Eq.trans (World.drewN_drewN _ _ _) (congrArg (World.drewN _) (Nat.add_assoc _ _ _))⟩)))
       repeat (go_quiet (first | (go_at_call 36; (with_reducible refine (catchwordref06_rising.calls k1 _ _ ((rd_T39 l0 x3_1).f1) 120 false _ ?side1 ?side2 A5.out).mono ?_); (case side1 => repeat (first | exact HR195_1.out | (with_reducible refine Kd.C_alloc ?_ _) | (with_reducible refine Kd.C_drewN ?_ _) | (with_reducible refine Kd.C_drew ?_))); (case side2 => exact HC195_1.out); rintro e w' ⟨rfl, ⟨nd, rfl⟩⟩; (try first | exact ⟨rfl, _, World.drewN_drewN _ _ _⟩ | exact ⟨rfl, _, Eq.trans (World.drewN_drewN _ _ _) (congrArg (World.drewN _) (Nat.add_assoc _ _ _))⟩))); try go_wp2_with (first | (go_at_call 36; (with_reducible refine (catchwordref06_rising.calls k1 _ _ ((rd_T39 l0 x3_1).f1) 120 false _ ?side1 ?side2 A5.out).mono ?_); (case side1 => repeat (first | exact HR195_1.out | (with_reducible refine Kd.C_alloc ?_ _) | (with_reducible refine Kd.C_drewN ?_ _) | (with_reducible refine Kd.C_drew ?_))); (case side2 => exact HC195_1.out); rintro e w' ⟨rfl, ⟨nd, rfl⟩⟩; (try first | exact ⟨rfl, _, World.drewN_drewN _ _ _⟩ | exact ⟨rfl, _, Eq.trans (World.drewN_drewN _ _ _) (congrArg (World.drewN _) (Nat.add_assoc _ _ _))⟩))))
       go_ret
       exact ⟨by first | rfl | (simp; done) | (simp [*]; done), by repeat (first | exact Drawn0.refl _ | apply Drawn0.step)⟩
     ·rw [if_neg c4] at H
      exact absurd H (by simp)
    ·rw [if_neg c3] at H
     have c3b0 : decide (x3_1 < (l0.length : Int)) = false := decide_eq_false c3
     clear c3
     obtain rfl := Option.some.inj H
     go_wp2
     repeat (go_quiet (fail); try go_wp2)
     go_ret
     exact ⟨by first | rfl | (simp; done) | (simp [*]; done), by repeat (first | exact Drawn0.refl _ | apply Drawn0.step)⟩

end Go.Proofs.Ytepmcdcncjimeaa.PPostTells
