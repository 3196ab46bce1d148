-- LAID BY this session's own printer (wip/pr): Lean checks it
import Derived.Test.YtamofikjjkpejaaPDictFindsx0
import Derived.Test.YtamofikjjkpejaaPDictFindsx1
import Derived.Test.YtamofikjjkpejaaPDictFindsx6
import Derived.Test.YtamofikjjkpejaaDStr
import Derived.Test.YtamofikjjkpejaaDStrG
namespace Go.Proofs.Ytamofikjjkpejaa.PDictFinds
open Go.RowKit Go.Proofs.YtamofikjjkpejaaW.PrintWords Go.Proofs.YtamofikjjkpejaaW.PrintLast Go.Proofs.YtamofikjjkpejaaW.PrintMore
attribute [local go_sem] max2_int min2_int max_two min_two max_three min_three max_four min_four   -- for this text's walks alone
set_option linter.unusedVariables false
set_option linter.unusedSimpArgs false

attribute [local go_sem] Go.Proofs.Ytamofikjjkpejaa.DStr.str_leq Go.Proofs.Ytamofikjjkpejaa.DStr.str_gtr
/-! ### catchwordlaw07_Few: function 11 -/
def catchwordlaw07_Few.l0 : Nat → List ByteArray → Int → Option (Bool)
 | 0, _, _ => none
 | k + 1, x0, x3 => if x3 < (x0.length : Int) then (if 0 ≤ x3 then (if ((rdOf ByteArray.empty x0 x3).size : Int) > 40 then (some false) else (catchwordlaw07_Few.l0 k x0 (wrap64 (x3 + 1)))) else (none)) else (some true)
def catchwordlaw07_Few.f (k : Nat) (l0 : List ByteArray) : Option (Bool) := if (l0.length : Int) > 210 then (some false) else (catchwordlaw07_Few.l0 k l0 0)
theorem catchwordlaw07_Few.mono_l : ∀ k, (∀ y0 y1, LeO (catchwordlaw07_Few.l0 k y0 y1) (catchwordlaw07_Few.l0 (k + 1) y0 y1))
 | 0 => fun _ _ r h => by simp [catchwordlaw07_Few.l0] at h
 | k + 1 => by
  have ih0 := catchwordlaw07_Few.mono_l k
  ·intro y0 y1
   unfold catchwordlaw07_Few.l0
   repeat' first
   | (with_reducible exact ih0 _ _)
   | (with_reducible exact LeO.refl _)
   | (with_reducible exact LeO.none _)
   | (with_reducible refine LeO.ite ?_ ?_)
   | (with_reducible refine LeO.bind ?_ (fun _ => ?_))
   | exact ih0 _ _
   | exact LeO.none _
   | refine LeO.ite ?_ ?_
   | refine LeO.bind ?_ (fun _ => ?_)
theorem catchwordlaw07_Few.mono : ∀ a0 k, LeO (catchwordlaw07_Few.f k a0) (catchwordlaw07_Few.f (k + 1) a0) := by
 intro a0 k
 have ih0 := catchwordlaw07_Few.mono_l k
 unfold catchwordlaw07_Few.f
 repeat' first
   | (with_reducible exact ih0 _ _)
   | (with_reducible exact LeO.refl _)
   | (with_reducible exact LeO.none _)
   | (with_reducible refine LeO.ite ?_ ?_)
   | (with_reducible refine LeO.bind ?_ (fun _ => ?_))
   | exact ih0 _ _
   | exact LeO.none _
   | refine LeO.ite ?_ ?_
   | refine LeO.bind ?_ (fun _ => ?_)
set_option maxHeartbeats 8000000 in
set_option maxRecDepth 100000 in
theorem catchwordlaw07_Few.calls (k : Nat) (A0 : Option Addr) (c0 : Nat) (l0 : List ByteArray) (r : Bool) (w : World) (hr0 : Kd.C Kd.string w A0 l0.length l0) (hc0 : l0.length ≤ c0) (h : catchwordlaw07_Few.f k l0 = some r) :
  Calls Try.prog 11 #[.slice A0 l0.length c0] w fun e w' => e = .returned (.bool r) ∧ Drawn0 w w' := by
 have HR0 := Aside0.mk hr0
 have HC0 := Aside0.mk hc0
 clear hr0 hc0
 have H : (if (l0.length : Int) > 210 then (some false) else (catchwordlaw07_Few.l0 k l0 0)) = some r := h
 clear h
 by_cases c2 : (l0.length : Int) > 210
 ·rw [if_pos c2] at H
  have c2b0 : decide (210 < (l0.length : Int)) = true := decide_eq_true c2
  have c2b1 : decide (210 < l0.length) = true := decide_eq_true (by omega)
  clear c2
  obtain rfl := Option.some.inj H
  go_enter Try.func11, Try.ntmps11
  go_wp2
  go_ret
  exact ⟨by first | rfl | (simp; done) | (simp [*]; done), by repeat (first | exact Drawn0.refl _ | apply Drawn0.step)⟩
 ·rw [if_neg c2] at H
  have c2b0 : decide (210 < (l0.length : Int)) = false := decide_eq_false c2
  have c2b1 : decide (210 < l0.length) = false := decide_eq_false (by omega)
  clear c2
  have H' := Aside0.mk H
  clear H
  go_enter Try.func11, Try.ntmps11
  go_wp2
  go_loopg [3] k (fun kq v3 w' => ∃ (x3_1 : Int), v3 = .int .i64 x3_1 ∧ Aside0 (catchwordlaw07_Few.l0 kq l0 x3_1 = some r) ∧ Aside0 (kq ≤ k) ∧ Drawn0 w w')
  case atStart => exact ⟨(0), (by first | rfl | (simp; done) | (simp [*]; done)), H', ⟨Nat.le_refl _⟩, by repeat (first | exact Drawn0.refl _ | apply Drawn0.step)⟩
  case round =>
   clear H'
   try clear c1
   try clear c2
   try clear c2b0
   try clear c2b1
   try clear p2
   obtain ⟨x3_1, rfl, HA, HK1, ⟨m1, rfl⟩⟩ := hrel
   cases gk with
   | zero => exact absurd HA.out (by simp [catchwordlaw07_Few.l0])
   | succ k1 =>
    have H := HA.out
    clear HA
    simp only [catchwordlaw07_Few.l0] at H
    by_cases c3 : x3_1 < (l0.length : Int)
    ·rw [if_pos c3] at H
     have c3b0 : decide (x3_1 < (l0.length : Int)) = true := decide_eq_true c3
     clear c3
     by_cases c4 : 0 ≤ x3_1
     ·rw [if_pos c4] at H
      have c4b0 : decide (0 ≤ x3_1) = true := decide_eq_true c4
      clear c4
      by_cases c5 : ((rdOf ByteArray.empty l0 x3_1).size : Int) > 40
      ·rw [if_pos c5] at H
       have c5b0 : decide (40 < ((rdOf ByteArray.empty l0 x3_1).size : Int)) = true := decide_eq_true c5
       have c5b1 : decide (40 < (rdOf ByteArray.empty l0 x3_1).size) = true := decide_eq_true (by omega)
       clear c5
       obtain rfl := Option.some.inj H
       have p233 : 0 ≤ (x3_1 : Int) := of_decide_eq_true (by first | (with_reducible assumption) | assumption)
       have q233 : x3_1 < (l0.length : Int) := of_decide_eq_true (by first | (with_reducible assumption) | assumption)
       obtain ⟨ad233, e233, hx233_0⟩ := Kd.at_string HR0.out x3_1 p233 q233
       cases e233
       replace p233 := eq_true p233
       replace q233 := eq_true q233
       go_wp2
       go_ret
       exact ⟨by first | rfl | (simp; done) | (simp [*]; done), by repeat (first | exact Drawn0.refl _ | apply Drawn0.step)⟩
      ·rw [if_neg c5] at H
       have c5b0 : decide (40 < ((rdOf ByteArray.empty l0 x3_1).size : Int)) = false := decide_eq_false c5
       have c5b1 : decide (40 < (rdOf ByteArray.empty l0 x3_1).size) = false := decide_eq_false (by omega)
       clear c5
       have H' := Aside0.mk H
       clear H
       have p233 : 0 ≤ (x3_1 : Int) := of_decide_eq_true (by first | (with_reducible assumption) | assumption)
       have q233 : x3_1 < (l0.length : Int) := of_decide_eq_true (by first | (with_reducible assumption) | assumption)
       obtain ⟨ad233, e233, hx233_0⟩ := Kd.at_string HR0.out x3_1 p233 q233
       cases e233
       replace p233 := eq_true p233
       replace q233 := eq_true q233
       go_wp2
       go_roundg k1
       case measure => have := HK1.out; omega
       case rel => exact ⟨(wrap64 (x3_1 + 1)), (by first | rfl | (simp; done) | (simp [*]; done)), H', ⟨by have := HK1.out; omega⟩, by repeat (first | exact Drawn0.refl _ | apply Drawn0.step)⟩
     ·rw [if_neg c4] at H
      exact absurd H (by simp)
    ·rw [if_neg c3] at H
     have c3b0 : decide (x3_1 < (l0.length : Int)) = false := decide_eq_false c3
     clear c3
     obtain rfl := Option.some.inj H
     go_wp2
     go_ret
     exact ⟨by first | rfl | (simp; done) | (simp [*]; done), by repeat (first | exact Drawn0.refl _ | apply Drawn0.step)⟩

/-! ### catchwordlaw07_DictFinds: function 8 -/
mutual
def catchwordlaw07_DictFinds.j0 : Nat → List ByteArray → Int → ByteArray → Bool → Bool → Option (Bool)
 | 0, _, _, _, _, _ => none
 | k + 1, x0, x1, x2, x7, x30 => if x30 = true then (some x7) else (if x1 ≥ 0 then (if x1 < (x0.length : Int) then (if 0 ≤ x1 then ((dict_Find.f k x0 (rdOf ByteArray.empty x0 x1)).bind fun t238 => (if t238 = x1 then ((dict_Below.f k x0 (rdOf ByteArray.empty x0 x1)).bind fun t240 => (catchwordlaw07_DictFinds.j1 k x0 x2 (t240 != x1))) else (catchwordlaw07_DictFinds.j1 k x0 x2 true))) else (none)) else (catchwordlaw07_DictFinds.j1 k x0 x2 false)) else (catchwordlaw07_DictFinds.j1 k x0 x2 false))
def catchwordlaw07_DictFinds.j1 : Nat → List ByteArray → ByteArray → Bool → Option (Bool)
 | 0, _, _, _ => none
 | k + 1, x0, x2, x59 => if x59 = true then (some false) else ((dict_Below.f k x0 x2).bind fun t241 => (if t241 < 0 then (some false) else (if t241 > (x0.length : Int) then (some false) else (if t241 < (x0.length : Int) then (if 0 ≤ t241 then ((dict_Find.f k x0 x2).bind fun t243 => (if (rdOf ByteArray.empty x0 t241).toList = x2.toList then (if t243 = t241 then (some true) else (if ((rdOf ByteArray.empty x0 t241).toList = x2.toList) then (some false) else (if t243 = (-1) then (if t241 = 0 then (if t241 = (x0.length : Int) then (some true) else (some (Op.bytesLess x2.toList ((rdOf ByteArray.empty x0 t241).toList)))) else (if 0 ≤ (wrap64 (t241 - 1)) then (if (wrap64 (t241 - 1)) < (x0.length : Int) then (if (Op.bytesLess ((rdOf ByteArray.empty x0 (wrap64 (t241 - 1))).toList) x2.toList) = true then (if t241 = (x0.length : Int) then (some true) else (some (Op.bytesLess x2.toList ((rdOf ByteArray.empty x0 t241).toList)))) else (some false)) else (none)) else (none))) else (some false)))) else (if ((rdOf ByteArray.empty x0 t241).toList = x2.toList) then (some false) else (if t243 = (-1) then (if t241 = 0 then (if t241 = (x0.length : Int) then (some true) else (some (Op.bytesLess x2.toList ((rdOf ByteArray.empty x0 t241).toList)))) else (if 0 ≤ (wrap64 (t241 - 1)) then (if (wrap64 (t241 - 1)) < (x0.length : Int) then (if (Op.bytesLess ((rdOf ByteArray.empty x0 (wrap64 (t241 - 1))).toList) x2.toList) = true then (if t241 = (x0.length : Int) then (some true) else (some (Op.bytesLess x2.toList ((rdOf ByteArray.empty x0 t241).toList)))) else (some false)) else (none)) else (none))) else (some false))))) else (none)) else ((dict_Find.f k x0 x2).bind fun t250 => (if t250 = (-1) then (if t241 = 0 then (if t241 = (x0.length : Int) then (some true) else (if 0 ≤ t241 then (none) else (none))) else (if 0 ≤ (wrap64 (t241 - 1)) then (if (wrap64 (t241 - 1)) < (x0.length : Int) then (if (Op.bytesLess ((rdOf ByteArray.empty x0 (wrap64 (t241 - 1))).toList) x2.toList) = true then (if t241 = (x0.length : Int) then (some true) else (if 0 ≤ t241 then (none) else (none))) else (some false)) else (none)) else (none))) else (some false)))))))
end
def catchwordlaw07_DictFinds.f (k : Nat) (l0 : List ByteArray) (a1 : Int) (a2 : ByteArray) : Option (Bool) := (catchwordlaw07_awake.f k).bind fun t234 => ((catchwordlaw07_Few.f k l0).bind fun t235 => (if t234 = true then (if t235 = true then ((dict_May.f k l0).bind fun t236 => (if t236 = true then (catchwordlaw07_DictFinds.j0 k l0 a1 a2 t234 (decide ((a2.size : Int) > 40))) else (catchwordlaw07_DictFinds.j0 k l0 a1 a2 t234 true))) else (catchwordlaw07_DictFinds.j0 k l0 a1 a2 t234 true)) else (catchwordlaw07_DictFinds.j0 k l0 a1 a2 t234 true)))
theorem catchwordlaw07_DictFinds.mono_l : ∀ k, (∀ y0 y1 y2 y3 y4, LeO (catchwordlaw07_DictFinds.j0 k y0 y1 y2 y3 y4) (catchwordlaw07_DictFinds.j0 (k + 1) y0 y1 y2 y3 y4)) ∧ (∀ y0 y1 y2, LeO (catchwordlaw07_DictFinds.j1 k y0 y1 y2) (catchwordlaw07_DictFinds.j1 (k + 1) y0 y1 y2))
 | 0 => ⟨fun _ _ _ _ _ r h => by simp [catchwordlaw07_DictFinds.j0] at h, fun _ _ _ r h => by simp [catchwordlaw07_DictFinds.j1] at h⟩
 | k + 1 => by
  obtain ⟨ih0, ih1⟩ := catchwordlaw07_DictFinds.mono_l k
  refine ⟨?_, ?_⟩
  ·intro y0 y1 y2 y3 y4
   unfold catchwordlaw07_DictFinds.j0
   repeat' first
   | (with_reducible exact ih0 _ _ _ _ _)
   | (with_reducible exact ih1 _ _ _)
   | (with_reducible exact catchwordlaw07_Few.mono _ _)
   | (with_reducible exact catchwordlaw07_awake.mono _)
   | (with_reducible exact dict_Below.mono _ _ _)
   | (with_reducible exact dict_Find.mono _ _ _)
   | (with_reducible exact dict_May.mono _ _)
   | (with_reducible exact LeO.refl _)
   | (with_reducible exact LeO.none _)
   | (with_reducible refine LeO.ite ?_ ?_)
   | (with_reducible refine LeO.bind ?_ (fun _ => ?_))
   | exact ih0 _ _ _ _ _
   | exact ih1 _ _ _
   | exact catchwordlaw07_Few.mono _ _
   | exact catchwordlaw07_awake.mono _
   | exact dict_Below.mono _ _ _
   | exact dict_Find.mono _ _ _
   | exact dict_May.mono _ _
   | exact LeO.none _
   | refine LeO.ite ?_ ?_
   | refine LeO.bind ?_ (fun _ => ?_)
  ·intro y0 y1 y2
   unfold catchwordlaw07_DictFinds.j1
   repeat' first
   | (with_reducible exact ih0 _ _ _ _ _)
   | (with_reducible exact ih1 _ _ _)
   | (with_reducible exact catchwordlaw07_Few.mono _ _)
   | (with_reducible exact catchwordlaw07_awake.mono _)
   | (with_reducible exact dict_Below.mono _ _ _)
   | (with_reducible exact dict_Find.mono _ _ _)
   | (with_reducible exact dict_May.mono _ _)
   | (with_reducible exact LeO.refl _)
   | (with_reducible exact LeO.none _)
   | (with_reducible refine LeO.ite ?_ ?_)
   | (with_reducible refine LeO.bind ?_ (fun _ => ?_))
   | exact ih0 _ _ _ _ _
   | exact ih1 _ _ _
   | exact catchwordlaw07_Few.mono _ _
   | exact catchwordlaw07_awake.mono _
   | exact dict_Below.mono _ _ _
   | exact dict_Find.mono _ _ _
   | exact dict_May.mono _ _
   | exact LeO.none _
   | refine LeO.ite ?_ ?_
   | refine LeO.bind ?_ (fun _ => ?_)
theorem catchwordlaw07_DictFinds.mono : ∀ a0 a1 a2 k, LeO (catchwordlaw07_DictFinds.f k a0 a1 a2) (catchwordlaw07_DictFinds.f (k + 1) a0 a1 a2) := by
 intro a0 a1 a2 k
 obtain ⟨ih0, ih1⟩ := catchwordlaw07_DictFinds.mono_l k
 unfold catchwordlaw07_DictFinds.f
 repeat' first
   | (with_reducible exact ih0 _ _ _ _ _)
   | (with_reducible exact ih1 _ _ _)
   | (with_reducible exact catchwordlaw07_Few.mono _ _)
   | (with_reducible exact catchwordlaw07_awake.mono _)
   | (with_reducible exact dict_Below.mono _ _ _)
   | (with_reducible exact dict_Find.mono _ _ _)
   | (with_reducible exact dict_May.mono _ _)
   | (with_reducible exact LeO.refl _)
   | (with_reducible exact LeO.none _)
   | (with_reducible refine LeO.ite ?_ ?_)
   | (with_reducible refine LeO.bind ?_ (fun _ => ?_))
   | exact ih0 _ _ _ _ _
   | exact ih1 _ _ _
   | exact catchwordlaw07_Few.mono _ _
   | exact catchwordlaw07_awake.mono _
   | exact dict_Below.mono _ _ _
   | exact dict_Find.mono _ _ _
   | exact dict_May.mono _ _
   | exact LeO.none _
   | refine LeO.ite ?_ ?_
   | refine LeO.bind ?_ (fun _ => ?_)
set_option maxHeartbeats 8000000 in
set_option maxRecDepth 100000 in
theorem catchwordlaw07_DictFinds.calls (k : Nat) (A0 : Option Addr) (c0 : Nat) (l0 : List ByteArray) (a1 : Int) (a2 : ByteArray) (r : Bool) (w : World) (hr0 : Kd.C Kd.string w A0 l0.length l0) (hc0 : l0.length ≤ c0) (h : catchwordlaw07_DictFinds.f k l0 a1 a2 = some r) :
  Calls Try.prog 8 #[.slice A0 l0.length c0, .int .i64 a1, .string a2] w fun e w' => e = .returned (.bool r) ∧ Below w.heap.size w w' := by
 have HR0 := Aside0.mk hr0
 have HC0 := Aside0.mk hc0
 clear hr0 hc0
 have HB := Aside0.mk (Below.refl w.heap.size w)
 have H : ((catchwordlaw07_awake.f k).bind fun t234 => ((catchwordlaw07_Few.f k l0).bind fun t235 => (if t234 = true then (if t235 = true then ((dict_May.f k l0).bind fun t236 => (if t236 = true then (catchwordlaw07_DictFinds.j0 k l0 a1 a2 t234 (decide ((a2.size : Int) > 40))) else (catchwordlaw07_DictFinds.j0 k l0 a1 a2 t234 true))) else (catchwordlaw07_DictFinds.j0 k l0 a1 a2 t234 true)) else (catchwordlaw07_DictFinds.j0 k l0 a1 a2 t234 true)))) = some r := h
 clear h
 replace H := Option.bind_eq_some_iff.mp H
 obtain ⟨t234, A40, H⟩ := H
 replace H : ((catchwordlaw07_Few.f k l0).bind fun t235 => (if t234 = true then (if t235 = true then ((dict_May.f k l0).bind fun t236 => (if t236 = true then (catchwordlaw07_DictFinds.j0 k l0 a1 a2 t234 (decide ((a2.size : Int) > 40))) else (catchwordlaw07_DictFinds.j0 k l0 a1 a2 t234 true))) else (catchwordlaw07_DictFinds.j0 k l0 a1 a2 t234 true)) else (catchwordlaw07_DictFinds.j0 k l0 a1 a2 t234 true))) = some r := H
 have A4 := Aside0.mk A40
 clear A40
 replace H := Option.bind_eq_some_iff.mp H
 obtain ⟨t235, A50, H⟩ := H
 replace H : (if t234 = true then (if t235 = true then ((dict_May.f k l0).bind fun t236 => (if t236 = true then (catchwordlaw07_DictFinds.j0 k l0 a1 a2 t234 (decide ((a2.size : Int) > 40))) else (catchwordlaw07_DictFinds.j0 k l0 a1 a2 t234 true))) else (catchwordlaw07_DictFinds.j0 k l0 a1 a2 t234 true)) else (catchwordlaw07_DictFinds.j0 k l0 a1 a2 t234 true)) = some r := H
 have A5 := Aside0.mk A50
 clear A50
 have HC6 := Aside0.mk H
 clear H
 go_enter Try.func8, Try.ntmps8
 go_upto_region 3 with (first | ((with_reducible refine gate_callee (f := 10) rfl ?_); refine goesL_ (some 12) rfl rfl Try.func10 (by kernel_rfl) rfl #[] rfl (by (try simp only [List.map_toArray, List.map_cons, List.map_nil]); first | done | rfl | (simp only [List.length_drop, List.length_take]; rfl)) ?_; (with_reducible refine (catchwordlaw07_awake.calls k  t234 _ A4.out).mono ?_); rintro e w7 ⟨rfl, hb⟩; refine ⟨_, rfl, ?_⟩; have n0_ := Aside0.mk (below_step (by repeat (first | (with_reducible first | exact HB.out | apply below_alloc | apply pw_below_drewN | apply below_drew1) | exact HB.out)) hb); clear HB; have HB := n0_; clear n0_; (try clear hb); (try clear hb2); (try clear hk); (try clear hi)) | ((with_reducible refine gate_callee (f := 11) rfl ?_); refine goesL_ (some 14) rfl rfl Try.func11 (by kernel_rfl) rfl #[.slice A0 l0.length c0] rfl (by (try simp only [List.map_toArray, List.map_cons, List.map_nil]); first | done | rfl | (simp only [List.length_drop, List.length_take]; rfl)) ?_; (with_reducible refine (catchwordlaw07_Few.calls k _ _ l0 t235 _ ?side1 ?side2 A5.out).mono ?_); (case side1 => repeat (first | exact (Kd.C_below HR0.out HB.out) | (with_reducible refine Kd.C_alloc ?_ _) | (with_reducible refine Kd.C_drewN ?_ _) | (with_reducible refine Kd.C_drew ?_))); (case side2 => exact HC0.out); rintro e w' ⟨rfl, ⟨nd, rfl⟩⟩; refine ⟨_, rfl, ?_⟩))
 (try simp only [Act.put, List.setIfInBounds_toArray, List.set_cons_zero, List.set_cons_succ])
 go_cut [30] (fun v30 wc => ∃ (kq : Nat) (x30_5 : Bool), v30 = .bool x30_5 ∧ Aside0 (catchwordlaw07_DictFinds.j0 kq l0 a1 a2 t234 x30_5 = some r) ∧ Aside0 (kq ≤ k) ∧ Aside0 (Below w.heap.size w wc))
 case first =>
  have H := HC6.out
  clear HC6
  by_cases c8 : t234 = true
  ·subst c8
   have H1 : (if t235 = true then ((dict_May.f k l0).bind fun t236 => (if t236 = true then (catchwordlaw07_DictFinds.j0 k l0 a1 a2 true (decide ((a2.size : Int) > 40))) else (catchwordlaw07_DictFinds.j0 k l0 a1 a2 true true))) else (catchwordlaw07_DictFinds.j0 k l0 a1 a2 true true)) = some r := by rw [if_pos rfl] at H; exact H
   clear H
   have H := H1
   clear H1
   by_cases c9 : t235 = true
   ·subst c9
    have H1 : ((dict_May.f k l0).bind fun t236 => (if t236 = true then (catchwordlaw07_DictFinds.j0 k l0 a1 a2 true (decide ((a2.size : Int) > 40))) else (catchwordlaw07_DictFinds.j0 k l0 a1 a2 true true))) = some r := by rw [if_pos rfl] at H; exact H
    clear H
    have H := H1
    clear H1
    replace H := Option.bind_eq_some_iff.mp H
    obtain ⟨t236, A100, H⟩ := H
    replace H : (if t236 = true then (catchwordlaw07_DictFinds.j0 k l0 a1 a2 true (decide ((a2.size : Int) > 40))) else (catchwordlaw07_DictFinds.j0 k l0 a1 a2 true true)) = some r := H
    have A10 := Aside0.mk A100
    clear A100
    by_cases c11 : t236 = true
    ·subst c11
     have H1 : (catchwordlaw07_DictFinds.j0 k l0 a1 a2 true (decide ((a2.size : Int) > 40))) = some r := by rw [if_pos rfl] at H; exact H
     clear H
     have H := H1
     clear H1
     have H' := Aside0.mk H
     clear H
     go_wp2_with (first | (go_at_call 12; (with_reducible refine (dict_May.calls k _ _ l0 true _ ?side1 ?side2 A10.out).mono ?_); (case side1 => repeat (first | exact (Kd.C_below HR0.out HB.out) | (with_reducible refine Kd.C_alloc ?_ _) | (with_reducible refine Kd.C_drewN ?_ _) | (with_reducible refine Kd.C_drew ?_))); (case side2 => exact HC0.out); rintro e w' ⟨rfl, ⟨nd, rfl⟩⟩))
     go_meet
     case rel => exact ⟨_, (decide ((a2.size : Int) > 40)), (by first | rfl | (simp; done) | (simp [*]; done)), H', ⟨by first | omega | exact Nat.le_refl _⟩, ⟨by repeat (first | (with_reducible first | exact HB.out | apply below_alloc | apply pw_below_drewN | apply below_drew1) | exact HB.out)⟩⟩
    ·replace c11 := Bool.eq_false_iff.mpr c11
     subst c11
     have H1 : (catchwordlaw07_DictFinds.j0 k l0 a1 a2 true true) = some r := by rw [if_neg (show ¬ (false = true) by decide)] at H; exact H
     clear H
     have H := H1
     clear H1
     have H' := Aside0.mk H
     clear H
     go_wp2_with (first | (go_at_call 12; (with_reducible refine (dict_May.calls k _ _ l0 false _ ?side1 ?side2 A10.out).mono ?_); (case side1 => repeat (first | exact (Kd.C_below HR0.out HB.out) | (with_reducible refine Kd.C_alloc ?_ _) | (with_reducible refine Kd.C_drewN ?_ _) | (with_reducible refine Kd.C_drew ?_))); (case side2 => exact HC0.out); rintro e w' ⟨rfl, ⟨nd, rfl⟩⟩))
     go_meet
     case rel => exact ⟨_, (true), (by first | rfl | (simp; done) | (simp [*]; done)), H', ⟨by first | omega | exact Nat.le_refl _⟩, ⟨by repeat (first | (with_reducible first | exact HB.out | apply below_alloc | apply pw_below_drewN | apply below_drew1) | exact HB.out)⟩⟩
   ·replace c9 := Bool.eq_false_iff.mpr c9
    subst c9
    have H1 : (catchwordlaw07_DictFinds.j0 k l0 a1 a2 true true) = some r := by rw [if_neg (show ¬ (false = true) by decide)] at H; exact H
    clear H
    have H := H1
    clear H1
    have H' := Aside0.mk H
    clear H
    go_wp2
    go_meet
    case rel => exact ⟨_, (true), (by first | rfl | (simp; done) | (simp [*]; done)), H', ⟨by first | omega | exact Nat.le_refl _⟩, ⟨by repeat (first | (with_reducible first | exact HB.out | apply below_alloc | apply pw_below_drewN | apply below_drew1) | exact HB.out)⟩⟩
  ·replace c8 := Bool.eq_false_iff.mpr c8
   subst c8
   have H1 : (catchwordlaw07_DictFinds.j0 k l0 a1 a2 false true) = some r := by rw [if_neg (show ¬ (false = true) by decide)] at H; exact H
   clear H
   have H := H1
   clear H1
   have H' := Aside0.mk H
   clear H
   go_wp2
   go_meet
   case rel => exact ⟨_, (true), (by first | rfl | (simp; done) | (simp [*]; done)), H', ⟨by first | omega | exact Nat.le_refl _⟩, ⟨by repeat (first | (with_reducible first | exact HB.out | apply below_alloc | apply pw_below_drewN | apply below_drew1) | exact HB.out)⟩⟩
 case rest =>
  clear HC6
  try clear c1
  try clear p2
  try clear c8
  try clear c9
  try clear c10
  try clear c11
  obtain ⟨kq, x30_5, rfl, HA, HJ5, HB⟩ := hcut
  cases kq with
  | zero => exact absurd HA.out (by simp [catchwordlaw07_DictFinds.j0])
  | succ kj5 =>
   have H := HA.out
   clear HA
   simp only [catchwordlaw07_DictFinds.j0] at H
   by_cases c12 : x30_5 = true
   ·subst c12
    have H1 : (some t234) = some r := by rw [if_pos rfl] at H; exact H
    clear H
    have H := H1
    clear H1
    obtain rfl := Option.some.inj H
    go_wp2
    go_ret
    exact ⟨by first | rfl | (simp [errW_none, errW_some] <;> rfl) | (simp [*, errW_none, errW_some] <;> rfl), by repeat (first | (with_reducible first | exact HB.out | apply below_alloc | apply pw_below_drewN | apply below_drew1) | exact HB.out)⟩
   ·replace c12 := Bool.eq_false_iff.mpr c12
    subst c12
    have H1 : (if a1 ≥ 0 then (if a1 < (l0.length : Int) then (if 0 ≤ a1 then ((dict_Find.f kj5 l0 (rdOf ByteArray.empty l0 a1)).bind fun t238 => (if t238 = a1 then ((dict_Below.f kj5 l0 (rdOf ByteArray.empty l0 a1)).bind fun t240 => (catchwordlaw07_DictFinds.j1 kj5 l0 a2 (t240 != a1))) else (catchwordlaw07_DictFinds.j1 kj5 l0 a2 true))) else (none)) else (catchwordlaw07_DictFinds.j1 kj5 l0 a2 false)) else (catchwordlaw07_DictFinds.j1 kj5 l0 a2 false)) = some r := by rw [if_neg (show ¬ (false = true) by decide)] at H; exact H
    clear H
    have H := H1
    clear H1
    have HC13 := Aside0.mk H
    clear H
    go_upto_region 5 with (fail)
    go_cut [59] (fun v59 wc => ∃ (kq : Nat) (x59_12 : Bool), v59 = .bool x59_12 ∧ Aside0 (catchwordlaw07_DictFinds.j1 kq l0 a2 x59_12 = some r) ∧ Aside0 (kq ≤ kj5) ∧ Aside0 (Below w.heap.size w wc))
    case first =>
     have H := HC13.out
     clear HC13
     by_cases c14 : a1 ≥ 0
     ·rw [if_pos c14] at H
      have c14b0 : decide (0 ≤ a1) = true := decide_eq_true c14
      clear c14
      (first | rw [c14b0] | (simp only [i64_w, i32_w]; rw [c14b0]) | skip)
      by_cases c15 : a1 < (l0.length : Int)
      ·rw [if_pos c15] at H
       have c15b0 : decide (a1 < (l0.length : Int)) = true := decide_eq_true c15
       clear c15
       by_cases c16 : 0 ≤ a1
       ·rw [if_pos c16] at H
        have c16b0 : decide (0 ≤ a1) = true := decide_eq_true c16
        clear c16
        replace H := Option.bind_eq_some_iff.mp H
        obtain ⟨t238, A170, H⟩ := H
        replace H : (if t238 = a1 then ((dict_Below.f kj5 l0 (rdOf ByteArray.empty l0 a1)).bind fun t240 => (catchwordlaw07_DictFinds.j1 kj5 l0 a2 (t240 != a1))) else (catchwordlaw07_DictFinds.j1 kj5 l0 a2 true)) = some r := H
        have A17 := Aside0.mk A170
        clear A170
        by_cases c18 : t238 = a1
        ·rw [if_pos c18] at H
         have c18b0 : (t238 == a1) = true := beq_iff_eq.mpr c18
         have c18b1 : (t238 != a1) = false := bne_eq_false_iff_eq.mpr c18
         clear c18
         replace H := Option.bind_eq_some_iff.mp H
         obtain ⟨t240, A190, H⟩ := H
         replace H : (catchwordlaw07_DictFinds.j1 kj5 l0 a2 (t240 != a1)) = some r := H
         have A19 := Aside0.mk A190
         clear A190
         have H' := Aside0.mk H
         clear H
         have p237 : 0 ≤ (a1 : Int) := of_decide_eq_true (by first | (with_reducible assumption) | assumption)
         have q237 : a1 < (l0.length : Int) := of_decide_eq_true (by first | (with_reducible assumption) | assumption)
         obtain ⟨ad237, e237, hx237_0⟩ := Kd.at_string HR0.out a1 p237 q237
         cases e237
         replace hx237_0 := (HB.out.cell (World.block_lt_of_cell? w _ hx237_0)).trans hx237_0
         replace p237 := eq_true p237
         replace q237 := eq_true q237
         go_wp2_with (first | (go_at_call 14; (with_reducible refine (dict_Find.calls kj5 _ _ l0 (rdOf ByteArray.empty l0 a1) t238 _ ?side1 ?side2 A17.out).mono ?_); (case side1 => repeat (first | exact (Kd.C_below HR0.out HB.out) | (with_reducible refine Kd.C_alloc ?_ _) | (with_reducible refine Kd.C_drewN ?_ _) | (with_reducible refine Kd.C_drew ?_))); (case side2 => exact HC0.out); rintro e w' ⟨rfl, ⟨nd, rfl⟩⟩; have p239 : 0 ≤ (a1 : Int) := of_decide_eq_true (by first | (with_reducible assumption) | assumption); have q239 : a1 < (l0.length : Int) := of_decide_eq_true (by first | (with_reducible assumption) | assumption); obtain ⟨ad239, e239, hx239_0⟩ := Kd.at_string HR0.out a1 p239 q239; obtain rfl : ad237 = ad239 := (by injection e239); replace hx239_0 := (HB.out.cell (World.block_lt_of_cell? w _ hx239_0)).trans hx239_0; replace p239 := eq_true p239; replace q239 := eq_true q239) | (go_at_call 16; (with_reducible refine (dict_Below.calls kj5 _ _ l0 (rdOf ByteArray.empty l0 a1) t240 _ ?side1 ?side2 A19.out).mono ?_); (case side1 => repeat (first | exact (Kd.C_below HR0.out (by repeat (first | (with_reducible first | exact HB.out | apply below_alloc | apply pw_below_drewN | apply below_drew1) | exact HB.out))) | (with_reducible refine Kd.C_alloc ?_ _) | (with_reducible refine Kd.C_drewN ?_ _) | (with_reducible refine Kd.C_drew ?_))); (case side2 => exact HC0.out); rintro e w' ⟨rfl, ⟨nd, rfl⟩⟩))
         go_meet
         case rel => exact ⟨_, ((t240 != a1)), (by first | rfl | (simp; done) | (simp [*]; done)), H', ⟨by have := HJ5.out; first | omega | exact Nat.le_refl _⟩, ⟨by repeat (first | (with_reducible first | exact HB.out | apply below_alloc | apply pw_below_drewN | apply below_drew1) | exact HB.out)⟩⟩
        ·rw [if_neg c18] at H
         have c18b0 : (t238 == a1) = false := beq_eq_false_iff_ne.mpr c18
         have c18b1 : (t238 != a1) = true := bne_iff_ne.mpr c18
         have H' := Aside0.mk H
         clear H
         have p237 : 0 ≤ (a1 : Int) := of_decide_eq_true (by first | (with_reducible assumption) | assumption)
         have q237 : a1 < (l0.length : Int) := of_decide_eq_true (by first | (with_reducible assumption) | assumption)
         obtain ⟨ad237, e237, hx237_0⟩ := Kd.at_string HR0.out a1 p237 q237
         cases e237
         replace hx237_0 := (HB.out.cell (World.block_lt_of_cell? w _ hx237_0)).trans hx237_0
         replace p237 := eq_true p237
         replace q237 := eq_true q237
         go_wp2_with (first | (go_at_call 14; (with_reducible refine (dict_Find.calls kj5 _ _ l0 (rdOf ByteArray.empty l0 a1) t238 _ ?side1 ?side2 A17.out).mono ?_); (case side1 => repeat (first | exact (Kd.C_below HR0.out HB.out) | (with_reducible refine Kd.C_alloc ?_ _) | (with_reducible refine Kd.C_drewN ?_ _) | (with_reducible refine Kd.C_drew ?_))); (case side2 => exact HC0.out); rintro e w' ⟨rfl, ⟨nd, rfl⟩⟩))
         go_meet
         case rel => exact ⟨_, (true), (by first | rfl | (simp; done) | (simp [*]; done)), H', ⟨by have := HJ5.out; first | omega | exact Nat.le_refl _⟩, ⟨by repeat (first | (with_reducible first | exact HB.out | apply below_alloc | apply pw_below_drewN | apply below_drew1) | exact HB.out)⟩⟩
       ·rw [if_neg c16] at H
        exact absurd H (by simp)
      ·rw [if_neg c15] at H
       have c15b0 : decide (a1 < (l0.length : Int)) = false := decide_eq_false c15
       clear c15
       have H' := Aside0.mk H
       clear H
       go_wp2
       go_meet
       case rel => exact ⟨_, (false), (by first | rfl | (simp; done) | (simp [*]; done)), H', ⟨by have := HJ5.out; first | omega | exact Nat.le_refl _⟩, ⟨by repeat (first | (with_reducible first | exact HB.out | apply below_alloc | apply pw_below_drewN | apply below_drew1) | exact HB.out)⟩⟩
     ·rw [if_neg c14] at H
      have c14b0 : decide (0 ≤ a1) = false := decide_eq_false c14
      clear c14
      (first | rw [c14b0] | (simp only [i64_w, i32_w]; rw [c14b0]) | skip)
      have H' := Aside0.mk H
      clear H
      go_wp2
      go_meet
      case rel => exact ⟨_, (false), (by first | rfl | (simp; done) | (simp [*]; done)), H', ⟨by have := HJ5.out; first | omega | exact Nat.le_refl _⟩, ⟨by repeat (first | (with_reducible first | exact HB.out | apply below_alloc | apply pw_below_drewN | apply below_drew1) | exact HB.out)⟩⟩
    case rest =>
     clear HC13
     try clear c1
     try clear p2
     try clear q2
     try clear hx2
     try clear c8
     try clear c9
     try clear c10
     try clear c11
     try clear c12
     try clear c14
     try clear c14b0
     try clear c15
     try clear c15b0
     try clear c16
     try clear c16b0
     try clear c18
     try clear c18b0
     try clear c18b1
     try clear hx237_0
     try clear hx239_0
     try clear p2
     try clear p237
     try clear p239
     try clear q237
     try clear q239
     obtain ⟨kq, x59_12, rfl, HA, HJ12, HB⟩ := hcut
     cases kq with
     | zero => exact absurd HA.out (by simp [catchwordlaw07_DictFinds.j1])
     | succ kj12 =>
      have H := HA.out
      clear HA
      simp only [catchwordlaw07_DictFinds.j1] at H
      by_cases c20 : x59_12 = true
      ·subst c20
       have H1 : (some false) = some r := by rw [if_pos rfl] at H; exact H
       clear H
       have H := H1
       clear H1
       obtain rfl := Option.some.inj H
       go_wp2
       go_ret
       exact ⟨by first | rfl | (simp [errW_none, errW_some] <;> rfl) | (simp [*, errW_none, errW_some] <;> rfl), by repeat (first | (with_reducible first | exact HB.out | apply below_alloc | apply pw_below_drewN | apply below_drew1) | exact HB.out)⟩
      ·replace c20 := Bool.eq_false_iff.mpr c20
       subst c20
       have H1 : ((dict_Below.f kj12 l0 a2).bind fun t241 => (if t241 < 0 then (some false) else (if t241 > (l0.length : Int) then (some false) else (if t241 < (l0.length : Int) then (if 0 ≤ t241 then ((dict_Find.f kj12 l0 a2).bind fun t243 => (if (rdOf ByteArray.empty l0 t241).toList = a2.toList then (if t243 = t241 then (some true) else (if ((rdOf ByteArray.empty l0 t241).toList = a2.toList) then (some false) else (if t243 = (-1) then (if t241 = 0 then (if t241 = (l0.length : Int) then (some true) else (some (Op.bytesLess a2.toList ((rdOf ByteArray.empty l0 t241).toList)))) else (if 0 ≤ (wrap64 (t241 - 1)) then (if (wrap64 (t241 - 1)) < (l0.length : Int) then (if (Op.bytesLess ((rdOf ByteArray.empty l0 (wrap64 (t241 - 1))).toList) a2.toList) = true then (if t241 = (l0.length : Int) then (some true) else (some (Op.bytesLess a2.toList ((rdOf ByteArray.empty l0 t241).toList)))) else (some false)) else (none)) else (none))) else (some false)))) else (if ((rdOf ByteArray.empty l0 t241).toList = a2.toList) then (some false) else (if t243 = (-1) then (if t241 = 0 then (if t241 = (l0.length : Int) then (some true) else (some (Op.bytesLess a2.toList ((rdOf ByteArray.empty l0 t241).toList)))) else (if 0 ≤ (wrap64 (t241 - 1)) then (if (wrap64 (t241 - 1)) < (l0.length : Int) then (if (Op.bytesLess ((rdOf ByteArray.empty l0 (wrap64 (t241 - 1))).toList) a2.toList) = true then (if t241 = (l0.length : Int) then (some true) else (some (Op.bytesLess a2.toList ((rdOf ByteArray.empty l0 t241).toList)))) else (some false)) else (none)) else (none))) else (some false))))) else (none)) else ((dict_Find.f kj12 l0 a2).bind fun t250 => (if t250 = (-1) then (if t241 = 0 then (if t241 = (l0.length : Int) then (some true) else (if 0 ≤ t241 then (none) else (none))) else (if 0 ≤ (wrap64 (t241 - 1)) then (if (wrap64 (t241 - 1)) < (l0.length : Int) then (if (Op.bytesLess ((rdOf ByteArray.empty l0 (wrap64 (t241 - 1))).toList) a2.toList) = true then (if t241 = (l0.length : Int) then (some true) else (if 0 ≤ t241 then (none) else (none))) else (some false)) else (none)) else (none))) else (some false))))))) = some r := by rw [if_neg (show ¬ (false = true) by decide)] at H; exact H
       clear H
       have H := H1
       clear H1
       replace H := Option.bind_eq_some_iff.mp H
       obtain ⟨t241, A210, H⟩ := H
       replace H : (if t241 < 0 then (some false) else (if t241 > (l0.length : Int) then (some false) else (if t241 < (l0.length : Int) then (if 0 ≤ t241 then ((dict_Find.f kj12 l0 a2).bind fun t243 => (if (rdOf ByteArray.empty l0 t241).toList = a2.toList then (if t243 = t241 then (some true) else (if ((rdOf ByteArray.empty l0 t241).toList = a2.toList) then (some false) else (if t243 = (-1) then (if t241 = 0 then (if t241 = (l0.length : Int) then (some true) else (some (Op.bytesLess a2.toList ((rdOf ByteArray.empty l0 t241).toList)))) else (if 0 ≤ (wrap64 (t241 - 1)) then (if (wrap64 (t241 - 1)) < (l0.length : Int) then (if (Op.bytesLess ((rdOf ByteArray.empty l0 (wrap64 (t241 - 1))).toList) a2.toList) = true then (if t241 = (l0.length : Int) then (some true) else (some (Op.bytesLess a2.toList ((rdOf ByteArray.empty l0 t241).toList)))) else (some false)) else (none)) else (none))) else (some false)))) else (if ((rdOf ByteArray.empty l0 t241).toList = a2.toList) then (some false) else (if t243 = (-1) then (if t241 = 0 then (if t241 = (l0.length : Int) then (some true) else (some (Op.bytesLess a2.toList ((rdOf ByteArray.empty l0 t241).toList)))) else (if 0 ≤ (wrap64 (t241 - 1)) then (if (wrap64 (t241 - 1)) < (l0.length : Int) then (if (Op.bytesLess ((rdOf ByteArray.empty l0 (wrap64 (t241 - 1))).toList) a2.toList) = true then (if t241 = (l0.length : Int) then (some true) else (some (Op.bytesLess a2.toList ((rdOf ByteArray.empty l0 t241).toList)))) else (some false)) else (none)) else (none))) else (some false))))) else (none)) else ((dict_Find.f kj12 l0 a2).bind fun t250 => (if t250 = (-1) then (if t241 = 0 then (if t241 = (l0.length : Int) then (some true) else (if 0 ≤ t241 then (none) else (none))) else (if 0 ≤ (wrap64 (t241 - 1)) then (if (wrap64 (t241 - 1)) < (l0.length : Int) then (if (Op.bytesLess ((rdOf ByteArray.empty l0 (wrap64 (t241 - 1))).toList) a2.toList) = true then (if t241 = (l0.length : Int) then (some true) else (if 0 ≤ t241 then (none) else (none))) else (some false)) else (none)) else (none))) else (some false)))))) = some r := H
       have A21 := Aside0.mk A210
       clear A210
       by_cases c22 : t241 < 0
       ·rw [if_pos c22] at H
        have c22b0 : decide (t241 < 0) = true := decide_eq_true c22
        clear c22
        obtain rfl := Option.some.inj H
        go_wp2_with (first | ((with_reducible refine gate_callee (f := 16) rfl ?_); refine goesL_ (some 62) rfl rfl Try.func16 (by kernel_rfl) rfl #[.slice A0 l0.length c0, .string a2] rfl (by (try simp only [List.map_toArray, List.map_cons, List.map_nil]); first | done | rfl | (simp only [List.length_drop, List.length_take]; rfl)) ?_; (with_reducible refine (dict_Below.calls kj12 _ _ l0 a2 t241 _ ?side1 ?side2 A21.out).mono ?_); (case side1 => repeat (first | exact (Kd.C_below HR0.out HB.out) | (with_reducible refine Kd.C_alloc ?_ _) | (with_reducible refine Kd.C_drewN ?_ _) | (with_reducible refine Kd.C_drew ?_))); (case side2 => exact HC0.out); rintro e w' ⟨rfl, ⟨nd, rfl⟩⟩; refine ⟨_, rfl, ?_⟩))
        go_ret
        exact ⟨by first | rfl | (simp [errW_none, errW_some] <;> rfl) | (simp [*, errW_none, errW_some] <;> rfl), by repeat (first | (with_reducible first | exact HB.out | apply below_alloc | apply pw_below_drewN | apply below_drew1) | exact HB.out)⟩
       ·rw [if_neg c22] at H
        have c22b0 : decide (t241 < 0) = false := decide_eq_false c22
        clear c22
        by_cases c23 : t241 > (l0.length : Int)
        ·rw [if_pos c23] at H
         have c23b0 : decide ((l0.length : Int) < t241) = true := decide_eq_true c23
         clear c23
         obtain rfl := Option.some.inj H
         go_wp2_with (first | ((with_reducible refine gate_callee (f := 16) rfl ?_); refine goesL_ (some 62) rfl rfl Try.func16 (by kernel_rfl) rfl #[.slice A0 l0.length c0, .string a2] rfl (by (try simp only [List.map_toArray, List.map_cons, List.map_nil]); first | done | rfl | (simp only [List.length_drop, List.length_take]; rfl)) ?_; (with_reducible refine (dict_Below.calls kj12 _ _ l0 a2 t241 _ ?side1 ?side2 A21.out).mono ?_); (case side1 => repeat (first | exact (Kd.C_below HR0.out HB.out) | (with_reducible refine Kd.C_alloc ?_ _) | (with_reducible refine Kd.C_drewN ?_ _) | (with_reducible refine Kd.C_drew ?_))); (case side2 => exact HC0.out); rintro e w' ⟨rfl, ⟨nd, rfl⟩⟩; refine ⟨_, rfl, ?_⟩))
         go_ret
         exact ⟨by first | rfl | (simp [errW_none, errW_some] <;> rfl) | (simp [*, errW_none, errW_some] <;> rfl), by repeat (first | (with_reducible first | exact HB.out | apply below_alloc | apply pw_below_drewN | apply below_drew1) | exact HB.out)⟩
        ·rw [if_neg c23] at H
         have c23b0 : decide ((l0.length : Int) < t241) = false := decide_eq_false c23
         clear c23
         by_cases c24 : t241 < (l0.length : Int)
         ·rw [if_pos c24] at H
          have c24b0 : decide (t241 < (l0.length : Int)) = true := decide_eq_true c24
          clear c24
          by_cases c25 : 0 ≤ t241
          ·rw [if_pos c25] at H
           have c25b0 : decide (0 ≤ t241) = true := decide_eq_true c25
           clear c25
           replace H := Option.bind_eq_some_iff.mp H
           obtain ⟨t243, A260, H⟩ := H
           replace H : (if (rdOf ByteArray.empty l0 t241).toList = a2.toList then (if t243 = t241 then (some true) else (if ((rdOf ByteArray.empty l0 t241).toList = a2.toList) then (some false) else (if t243 = (-1) then (if t241 = 0 then (if t241 = (l0.length : Int) then (some true) else (some (Op.bytesLess a2.toList ((rdOf ByteArray.empty l0 t241).toList)))) else (if 0 ≤ (wrap64 (t241 - 1)) then (if (wrap64 (t241 - 1)) < (l0.length : Int) then (if (Op.bytesLess ((rdOf ByteArray.empty l0 (wrap64 (t241 - 1))).toList) a2.toList) = true then (if t241 = (l0.length : Int) then (some true) else (some (Op.bytesLess a2.toList ((rdOf ByteArray.empty l0 t241).toList)))) else (some false)) else (none)) else (none))) else (some false)))) else (if ((rdOf ByteArray.empty l0 t241).toList = a2.toList) then (some false) else (if t243 = (-1) then (if t241 = 0 then (if t241 = (l0.length : Int) then (some true) else (some (Op.bytesLess a2.toList ((rdOf ByteArray.empty l0 t241).toList)))) else (if 0 ≤ (wrap64 (t241 - 1)) then (if (wrap64 (t241 - 1)) < (l0.length : Int) then (if (Op.bytesLess ((rdOf ByteArray.empty l0 (wrap64 (t241 - 1))).toList) a2.toList) = true then (if t241 = (l0.length : Int) then (some true) else (some (Op.bytesLess a2.toList ((rdOf ByteArray.empty l0 t241).toList)))) else (some false)) else (none)) else (none))) else (some false)))) = some r := H
           have A26 := Aside0.mk A260
           clear A260
           by_cases c27 : (rdOf ByteArray.empty l0 t241).toList = a2.toList
           ·rw [if_pos c27] at H
            have c27b0 : ((rdOf ByteArray.empty l0 t241).toList == a2.toList) = true := beq_iff_eq.mpr c27
            have c27b1 : ((rdOf ByteArray.empty l0 t241).toList != a2.toList) = false := bne_eq_false_iff_eq.mpr c27
            clear c27
            by_cases c28 : t243 = t241
            ·rw [if_pos c28] at H
             have c28b0 : (t243 == t241) = true := beq_iff_eq.mpr c28
             have c28b1 : (t243 != t241) = false := bne_eq_false_iff_eq.mpr c28
             clear c28
             obtain rfl := Option.some.inj H
             go_wp2_with (first | ((with_reducible refine gate_callee (f := 16) rfl ?_); refine goesL_ (some 62) rfl rfl Try.func16 (by kernel_rfl) rfl #[.slice A0 l0.length c0, .string a2] rfl (by (try simp only [List.map_toArray, List.map_cons, List.map_nil]); first | done | rfl | (simp only [List.length_drop, List.length_take]; rfl)) ?_; (with_reducible refine (dict_Below.calls kj12 _ _ l0 a2 t241 _ ?side1 ?side2 A21.out).mono ?_); (case side1 => repeat (first | exact (Kd.C_below HR0.out HB.out) | (with_reducible refine Kd.C_alloc ?_ _) | (with_reducible refine Kd.C_drewN ?_ _) | (with_reducible refine Kd.C_drew ?_))); (case side2 => exact HC0.out); rintro e w' ⟨rfl, ⟨nd, rfl⟩⟩; refine ⟨_, rfl, ?_⟩; have p242 : 0 ≤ (t241 : Int) := of_decide_eq_true (by first | (with_reducible assumption) | assumption); have q242 : t241 < (l0.length : Int) := of_decide_eq_true (by first | (with_reducible assumption) | assumption); obtain ⟨ad242, e242, hx242_0⟩ := Kd.at_string HR0.out t241 p242 q242; cases e242; replace hx242_0 := (HB.out.cell (World.block_lt_of_cell? w _ hx242_0)).trans hx242_0; replace p242 := eq_true p242; replace q242 := eq_true q242) | ((with_reducible refine gate_callee (f := 14) rfl ?_); refine goesL_ (some 85) rfl rfl Try.func14 (by kernel_rfl) rfl #[.slice (some ad242) l0.length c0, .string a2] rfl (by (try simp only [List.map_toArray, List.map_cons, List.map_nil]); first | done | rfl | (simp only [List.length_drop, List.length_take]; rfl)) ?_; (with_reducible refine (dict_Find.calls kj12 _ _ l0 a2 t243 _ ?side1 ?side2 A26.out).mono ?_); (case side1 => repeat (first | exact (Kd.C_below HR0.out (by repeat (first | (with_reducible first | exact HB.out | apply below_alloc | apply pw_below_drewN | apply below_drew1) | exact HB.out))) | (with_reducible refine Kd.C_alloc ?_ _) | (with_reducible refine Kd.C_drewN ?_ _) | (with_reducible refine Kd.C_drew ?_))); (case side2 => exact HC0.out); rintro e w' ⟨rfl, ⟨nd, rfl⟩⟩; refine ⟨_, rfl, ?_⟩))
             go_ret
             exact ⟨by first | rfl | (simp [errW_none, errW_some] <;> rfl) | (simp [*, errW_none, errW_some] <;> rfl), by repeat (first | (with_reducible first | exact HB.out | apply below_alloc | apply pw_below_drewN | apply below_drew1) | exact HB.out)⟩
            ·rw [if_neg c28] at H
             have c28b0 : (t243 == t241) = false := beq_eq_false_iff_ne.mpr c28
             have c28b1 : (t243 != t241) = true := bne_iff_ne.mpr c28
             by_cases c29 : ((rdOf ByteArray.empty l0 t241).toList = a2.toList)
             ·rw [if_pos c29] at H
              have c29b0 : ((rdOf ByteArray.empty l0 t241).toList == a2.toList) = true := beq_iff_eq.mpr c29
              have c29b1 : ((rdOf ByteArray.empty l0 t241).toList != a2.toList) = false := bne_eq_false_iff_eq.mpr c29
              clear c29
              obtain rfl := Option.some.inj H
              go_wp2_with (first | ((with_reducible refine gate_callee (f := 16) rfl ?_); refine goesL_ (some 62) rfl rfl Try.func16 (by kernel_rfl) rfl #[.slice A0 l0.length c0, .string a2] rfl (by (try simp only [List.map_toArray, List.map_cons, List.map_nil]); first | done | rfl | (simp only [List.length_drop, List.length_take]; rfl)) ?_; (with_reducible refine (dict_Below.calls kj12 _ _ l0 a2 t241 _ ?side1 ?side2 A21.out).mono ?_); (case side1 => repeat (first | exact (Kd.C_below HR0.out HB.out) | (with_reducible refine Kd.C_alloc ?_ _) | (with_reducible refine Kd.C_drewN ?_ _) | (with_reducible refine Kd.C_drew ?_))); (case side2 => exact HC0.out); rintro e w' ⟨rfl, ⟨nd, rfl⟩⟩; refine ⟨_, rfl, ?_⟩; have p242 : 0 ≤ (t241 : Int) := of_decide_eq_true (by first | (with_reducible assumption) | assumption); have q242 : t241 < (l0.length : Int) := of_decide_eq_true (by first | (with_reducible assumption) | assumption); obtain ⟨ad242, e242, hx242_0⟩ := Kd.at_string HR0.out t241 p242 q242; cases e242; replace hx242_0 := (HB.out.cell (World.block_lt_of_cell? w _ hx242_0)).trans hx242_0; replace p242 := eq_true p242; replace q242 := eq_true q242) | ((with_reducible refine gate_callee (f := 14) rfl ?_); refine goesL_ (some 85) rfl rfl Try.func14 (by kernel_rfl) rfl #[.slice (some ad242) l0.length c0, .string a2] rfl (by (try simp only [List.map_toArray, List.map_cons, List.map_nil]); first | done | rfl | (simp only [List.length_drop, List.length_take]; rfl)) ?_; (with_reducible refine (dict_Find.calls kj12 _ _ l0 a2 t243 _ ?side1 ?side2 A26.out).mono ?_); (case side1 => repeat (first | exact (Kd.C_below HR0.out (by repeat (first | (with_reducible first | exact HB.out | apply below_alloc | apply pw_below_drewN | apply below_drew1) | exact HB.out))) | (with_reducible refine Kd.C_alloc ?_ _) | (with_reducible refine Kd.C_drewN ?_ _) | (with_reducible refine Kd.C_drew ?_))); (case side2 => exact HC0.out); rintro e w' ⟨rfl, ⟨nd, rfl⟩⟩; refine ⟨_, rfl, ?_⟩))
              go_ret
              exact ⟨by first | rfl | (simp [errW_none, errW_some] <;> rfl) | (simp [*, errW_none, errW_some] <;> rfl), by repeat (first | (with_reducible first | exact HB.out | apply below_alloc | apply pw_below_drewN | apply below_drew1) | exact HB.out)⟩
             ·rw [if_neg c29] at H
              have c29b0 : ((rdOf ByteArray.empty l0 t241).toList == a2.toList) = false := beq_eq_false_iff_ne.mpr c29
              exact absurd (c27b0.symm.trans c29b0) (by decide)
           ·rw [if_neg c27] at H
            have c27b0 : ((rdOf ByteArray.empty l0 t241).toList == a2.toList) = false := beq_eq_false_iff_ne.mpr c27
            have c27b1 : ((rdOf ByteArray.empty l0 t241).toList != a2.toList) = true := bne_iff_ne.mpr c27
            by_cases c38 : ((rdOf ByteArray.empty l0 t241).toList = a2.toList)
            ·rw [if_pos c38] at H
             have c38b0 : ((rdOf ByteArray.empty l0 t241).toList == a2.toList) = true := beq_iff_eq.mpr c38
             exact absurd (c27b0.symm.trans c38b0) (by decide)
            ·rw [if_neg c38] at H
             have c38b0 : ((rdOf ByteArray.empty l0 t241).toList == a2.toList) = false := beq_eq_false_iff_ne.mpr c38
             have c38b1 : ((rdOf ByteArray.empty l0 t241).toList != a2.toList) = true := bne_iff_ne.mpr c38
             by_cases c39 : t243 = (-1)
             ·rw [if_pos c39] at H
              have c39b0 : (t243 == (-1)) = true := beq_iff_eq.mpr c39
              have c39b1 : (t243 != (-1)) = false := bne_eq_false_iff_eq.mpr c39
              clear c39
              by_cases c40 : t241 = 0
              ·rw [if_pos c40] at H
               have c40b0 : (t241 == 0) = true := beq_iff_eq.mpr c40
               have c40b1 : (t241 != 0) = false := bne_eq_false_iff_eq.mpr c40
               clear c40
               by_cases c41 : t241 = (l0.length : Int)
               ·rw [if_pos c41] at H
                have c41b0 : (t241 == (l0.length : Int)) = true := beq_iff_eq.mpr c41
                have c41b1 : (t241 != (l0.length : Int)) = false := bne_eq_false_iff_eq.mpr c41
                clear c41
                obtain rfl := Option.some.inj H
                go_wp2_with (first | ((with_reducible refine gate_callee (f := 16) rfl ?_); refine goesL_ (some 62) rfl rfl Try.func16 (by kernel_rfl) rfl #[.slice A0 l0.length c0, .string a2] rfl (by (try simp only [List.map_toArray, List.map_cons, List.map_nil]); first | done | rfl | (simp only [List.length_drop, List.length_take]; rfl)) ?_; (with_reducible refine (dict_Below.calls kj12 _ _ l0 a2 t241 _ ?side1 ?side2 A21.out).mono ?_); (case side1 => repeat (first | exact (Kd.C_below HR0.out HB.out) | (with_reducible refine Kd.C_alloc ?_ _) | (with_reducible refine Kd.C_drewN ?_ _) | (with_reducible refine Kd.C_drew ?_))); (case side2 => exact HC0.out); rintro e w' ⟨rfl, ⟨nd, rfl⟩⟩; refine ⟨_, rfl, ?_⟩; have p242 : 0 ≤ (t241 : Int) := of_decide_eq_true (by first | (with_reducible assumption) | assumption); have q242 : t241 < (l0.length : Int) := of_decide_eq_true (by first | (with_reducible assumption) | assumption); obtain ⟨ad242, e242, hx242_0⟩ := Kd.at_string HR0.out t241 p242 q242; cases e242; replace hx242_0 := (HB.out.cell (World.block_lt_of_cell? w _ hx242_0)).trans hx242_0; replace p242 := eq_true p242; replace q242 := eq_true q242) | ((with_reducible refine gate_callee (f := 14) rfl ?_); refine goesL_ (some 85) rfl rfl Try.func14 (by kernel_rfl) rfl #[.slice (some ad242) l0.length c0, .string a2] rfl (by (try simp only [List.map_toArray, List.map_cons, List.map_nil]); first | done | rfl | (simp only [List.length_drop, List.length_take]; rfl)) ?_; (with_reducible refine (dict_Find.calls kj12 _ _ l0 a2 t243 _ ?side1 ?side2 A26.out).mono ?_); (case side1 => repeat (first | exact (Kd.C_below HR0.out (by repeat (first | (with_reducible first | exact HB.out | apply below_alloc | apply pw_below_drewN | apply below_drew1) | exact HB.out))) | (with_reducible refine Kd.C_alloc ?_ _) | (with_reducible refine Kd.C_drewN ?_ _) | (with_reducible refine Kd.C_drew ?_))); (case side2 => exact HC0.out); rintro e w' ⟨rfl, ⟨nd, rfl⟩⟩; refine ⟨_, rfl, ?_⟩))
                go_ret
                exact ⟨by first | rfl | (simp [errW_none, errW_some] <;> rfl) | (simp [*, errW_none, errW_some] <;> rfl), by repeat (first | (with_reducible first | exact HB.out | apply below_alloc | apply pw_below_drewN | apply below_drew1) | exact HB.out)⟩
               ·rw [if_neg c41] at H
                have c41b0 : (t241 == (l0.length : Int)) = false := beq_eq_false_iff_ne.mpr c41
                have c41b1 : (t241 != (l0.length : Int)) = true := bne_iff_ne.mpr c41
                obtain rfl := Option.some.inj H
                go_wp2_with (first | ((with_reducible refine gate_callee (f := 16) rfl ?_); refine goesL_ (some 62) rfl rfl Try.func16 (by kernel_rfl) rfl #[.slice A0 l0.length c0, .string a2] rfl (by (try simp only [List.map_toArray, List.map_cons, List.map_nil]); first | done | rfl | (simp only [List.length_drop, List.length_take]; rfl)) ?_; (with_reducible refine (dict_Below.calls kj12 _ _ l0 a2 t241 _ ?side1 ?side2 A21.out).mono ?_); (case side1 => repeat (first | exact (Kd.C_below HR0.out HB.out) | (with_reducible refine Kd.C_alloc ?_ _) | (with_reducible refine Kd.C_drewN ?_ _) | (with_reducible refine Kd.C_drew ?_))); (case side2 => exact HC0.out); rintro e w' ⟨rfl, ⟨nd, rfl⟩⟩; refine ⟨_, rfl, ?_⟩; have p242 : 0 ≤ (t241 : Int) := of_decide_eq_true (by first | (with_reducible assumption) | assumption); have q242 : t241 < (l0.length : Int) := of_decide_eq_true (by first | (with_reducible assumption) | assumption); obtain ⟨ad242, e242, hx242_0⟩ := Kd.at_string HR0.out t241 p242 q242; cases e242; replace hx242_0 := (HB.out.cell (World.block_lt_of_cell? w _ hx242_0)).trans hx242_0; replace p242 := eq_true p242; replace q242 := eq_true q242) | ((with_reducible refine gate_callee (f := 14) rfl ?_); refine goesL_ (some 85) rfl rfl Try.func14 (by kernel_rfl) rfl #[.slice (some ad242) l0.length c0, .string a2] rfl (by (try simp only [List.map_toArray, List.map_cons, List.map_nil]); first | done | rfl | (simp only [List.length_drop, List.length_take]; rfl)) ?_; (with_reducible refine (dict_Find.calls kj12 _ _ l0 a2 t243 _ ?side1 ?side2 A26.out).mono ?_); (case side1 => repeat (first | exact (Kd.C_below HR0.out (by repeat (first | (with_reducible first | exact HB.out | apply below_alloc | apply pw_below_drewN | apply below_drew1) | exact HB.out))) | (with_reducible refine Kd.C_alloc ?_ _) | (with_reducible refine Kd.C_drewN ?_ _) | (with_reducible refine Kd.C_drew ?_))); (case side2 => exact HC0.out); rintro e w' ⟨rfl, ⟨nd, rfl⟩⟩; refine ⟨_, rfl, ?_⟩; have p247 : 0 ≤ (t241 : Int) := of_decide_eq_true (by first | (with_reducible assumption) | assumption); have q247 : t241 < (l0.length : Int) := of_decide_eq_true (by first | (with_reducible assumption) | assumption); obtain ⟨ad247, e247, hx247_0⟩ := Kd.at_string HR0.out t241 p247 q247; obtain rfl : ad242 = ad247 := (by injection e247); replace hx247_0 := (HB.out.cell (World.block_lt_of_cell? w _ hx247_0)).trans hx247_0; replace p247 := eq_true p247; replace q247 := eq_true q247))
                go_ret
                exact ⟨by first | rfl | (simp [errW_none, errW_some] <;> rfl) | (simp [*, errW_none, errW_some] <;> rfl), by repeat (first | (with_reducible first | exact HB.out | apply below_alloc | apply pw_below_drewN | apply below_drew1) | exact HB.out)⟩
              ·rw [if_neg c40] at H
               have c40b0 : (t241 == 0) = false := beq_eq_false_iff_ne.mpr c40
               have c40b1 : (t241 != 0) = true := bne_iff_ne.mpr c40
               obtain ⟨ji42, hji42⟩ : ∃ j_ : Int, (wrap64 (t241 - 1)) = j_ := ⟨_, rfl⟩
               replace H : (if 0 ≤ (ji42) then (if (ji42) < (l0.length : Int) then (if (Op.bytesLess ((rdOf ByteArray.empty l0 (ji42)).toList) a2.toList) = true then (if t241 = (l0.length : Int) then (some true) else (some (Op.bytesLess a2.toList ((rdOf ByteArray.empty l0 t241).toList)))) else (some false)) else (none)) else (none)) = some r := by first | (rw [hji42] at H; exact H) | (simp only [hji42] at H ⊢; exact H)
               (try rw [hji42] at A21)
               (try rw [hji42] at A26)
               have hji42w : (IntKind.i64.wrap (t241 - 1)) = ji42 := (i64_w _).trans hji42
               by_cases c43 : 0 ≤ (ji42)
               ·rw [if_pos c43] at H
                have c43b0 : decide (0 ≤ (ji42)) = true := decide_eq_true c43
                clear c43
                by_cases c44 : (ji42) < (l0.length : Int)
                ·rw [if_pos c44] at H
                 have c44b0 : decide ((ji42) < (l0.length : Int)) = true := decide_eq_true c44
                 clear c44
                 by_cases c45 : (Op.bytesLess ((rdOf ByteArray.empty l0 (ji42)).toList) a2.toList) = true
                 ·rw [if_pos c45] at H
                  have c45b0 : (Op.bytesLess ((rdOf ByteArray.empty l0 (ji42)).toList) a2.toList) = true := c45
                  clear c45
                  by_cases c46 : t241 = (l0.length : Int)
                  ·rw [if_pos c46] at H
                   have c46b0 : (t241 == (l0.length : Int)) = true := beq_iff_eq.mpr c46
                   have c46b1 : (t241 != (l0.length : Int)) = false := bne_eq_false_iff_eq.mpr c46
                   clear c46
                   obtain rfl := Option.some.inj H
                   go_wp2_with (first | ((with_reducible refine gate_callee (f := 16) rfl ?_); refine goesL_ (some 62) rfl rfl Try.func16 (by kernel_rfl) rfl #[.slice A0 l0.length c0, .string a2] rfl (by (try simp only [List.map_toArray, List.map_cons, List.map_nil]); first | done | rfl | (simp only [List.length_drop, List.length_take]; rfl)) ?_; (with_reducible refine (dict_Below.calls kj12 _ _ l0 a2 t241 _ ?side1 ?side2 A21.out).mono ?_); (case side1 => repeat (first | exact (Kd.C_below HR0.out HB.out) | (with_reducible refine Kd.C_alloc ?_ _) | (with_reducible refine Kd.C_drewN ?_ _) | (with_reducible refine Kd.C_drew ?_))); (case side2 => exact HC0.out); rintro e w' ⟨rfl, ⟨nd, rfl⟩⟩; refine ⟨_, rfl, ?_⟩; have p242 : 0 ≤ (t241 : Int) := of_decide_eq_true (by first | (with_reducible assumption) | assumption); have q242 : t241 < (l0.length : Int) := of_decide_eq_true (by first | (with_reducible assumption) | assumption); obtain ⟨ad242, e242, hx242_0⟩ := Kd.at_string HR0.out t241 p242 q242; cases e242; replace hx242_0 := (HB.out.cell (World.block_lt_of_cell? w _ hx242_0)).trans hx242_0; replace p242 := eq_true p242; replace q242 := eq_true q242) | ((with_reducible refine gate_callee (f := 14) rfl ?_); refine goesL_ (some 85) rfl rfl Try.func14 (by kernel_rfl) rfl #[.slice (some ad242) l0.length c0, .string a2] rfl (by (try simp only [List.map_toArray, List.map_cons, List.map_nil]); first | done | rfl | (simp only [List.length_drop, List.length_take]; rfl)) ?_; (with_reducible refine (dict_Find.calls kj12 _ _ l0 a2 t243 _ ?side1 ?side2 A26.out).mono ?_); (case side1 => repeat (first | exact (Kd.C_below HR0.out (by repeat (first | (with_reducible first | exact HB.out | apply below_alloc | apply pw_below_drewN | apply below_drew1) | exact HB.out))) | (with_reducible refine Kd.C_alloc ?_ _) | (with_reducible refine Kd.C_drewN ?_ _) | (with_reducible refine Kd.C_drew ?_))); (case side2 => exact HC0.out); rintro e w' ⟨rfl, ⟨nd, rfl⟩⟩; refine ⟨_, rfl, ?_⟩; have p248 : 0 ≤ ((ji42) : Int) := of_decide_eq_true (by first | (with_reducible assumption) | assumption); have q248 : (ji42) < (l0.length : Int) := of_decide_eq_true (by first | (with_reducible assumption) | assumption); obtain ⟨ad248, e248, hx248_0⟩ := Kd.at_string HR0.out (ji42) p248 q248; obtain rfl : ad242 = ad248 := (by injection e248); replace hx248_0 := (HB.out.cell (World.block_lt_of_cell? w _ hx248_0)).trans hx248_0; replace p248 := eq_true p248; replace q248 := eq_true q248))
                   go_ret
                   exact ⟨by first | rfl | (simp [errW_none, errW_some] <;> rfl) | (simp only [← hji42]; first | rfl | (simp [errW_none, errW_some] <;> rfl)) | (simp [*, errW_none, errW_some] <;> rfl), by repeat (first | (with_reducible first | exact HB.out | apply below_alloc | apply pw_below_drewN | apply below_drew1) | exact HB.out)⟩
                  ·rw [if_neg c46] at H
                   have c46b0 : (t241 == (l0.length : Int)) = false := beq_eq_false_iff_ne.mpr c46
                   have c46b1 : (t241 != (l0.length : Int)) = true := bne_iff_ne.mpr c46
                   obtain rfl := Option.some.inj H
                   go_wp2_with (first | ((with_reducible refine gate_callee (f := 16) rfl ?_); refine goesL_ (some 62) rfl rfl Try.func16 (by kernel_rfl) rfl #[.slice A0 l0.length c0, .string a2] rfl (by (try simp only [List.map_toArray, List.map_cons, List.map_nil]); first | done | rfl | (simp only [List.length_drop, List.length_take]; rfl)) ?_; (with_reducible refine (dict_Below.calls kj12 _ _ l0 a2 t241 _ ?side1 ?side2 A21.out).mono ?_); (case side1 => repeat (first | exact (Kd.C_below HR0.out HB.out) | (with_reducible refine Kd.C_alloc ?_ _) | (with_reducible refine Kd.C_drewN ?_ _) | (with_reducible refine Kd.C_drew ?_))); (case side2 => exact HC0.out); rintro e w' ⟨rfl, ⟨nd, rfl⟩⟩; refine ⟨_, rfl, ?_⟩; have p242 : 0 ≤ (t241 : Int) := of_decide_eq_true (by first | (with_reducible assumption) | assumption); have q242 : t241 < (l0.length : Int) := of_decide_eq_true (by first | (with_reducible assumption) | assumption); obtain ⟨ad242, e242, hx242_0⟩ := Kd.at_string HR0.out t241 p242 q242; cases e242; replace hx242_0 := (HB.out.cell (World.block_lt_of_cell? w _ hx242_0)).trans hx242_0; replace p242 := eq_true p242; replace q242 := eq_true q242) | ((with_reducible refine gate_callee (f := 14) rfl ?_); refine goesL_ (some 85) rfl rfl Try.func14 (by kernel_rfl) rfl #[.slice (some ad242) l0.length c0, .string a2] rfl (by (try simp only [List.map_toArray, List.map_cons, List.map_nil]); first | done | rfl | (simp only [List.length_drop, List.length_take]; rfl)) ?_; (with_reducible refine (dict_Find.calls kj12 _ _ l0 a2 t243 _ ?side1 ?side2 A26.out).mono ?_); (case side1 => repeat (first | exact (Kd.C_below HR0.out (by repeat (first | (with_reducible first | exact HB.out | apply below_alloc | apply pw_below_drewN | apply below_drew1) | exact HB.out))) | (with_reducible refine Kd.C_alloc ?_ _) | (with_reducible refine Kd.C_drewN ?_ _) | (with_reducible refine Kd.C_drew ?_))); (case side2 => exact HC0.out); rintro e w' ⟨rfl, ⟨nd, rfl⟩⟩; refine ⟨_, rfl, ?_⟩; have p248 : 0 ≤ ((ji42) : Int) := of_decide_eq_true (by first | (with_reducible assumption) | assumption); have q248 : (ji42) < (l0.length : Int) := of_decide_eq_true (by first | (with_reducible assumption) | assumption); obtain ⟨ad248, e248, hx248_0⟩ := Kd.at_string HR0.out (ji42) p248 q248; obtain rfl : ad242 = ad248 := (by injection e248); replace hx248_0 := (HB.out.cell (World.block_lt_of_cell? w _ hx248_0)).trans hx248_0; replace p248 := eq_true p248; replace q248 := eq_true q248; have p249 : 0 ≤ (t241 : Int) := of_decide_eq_true (by first | (with_reducible assumption) | assumption); have q249 : t241 < (l0.length : Int) := of_decide_eq_true (by first | (with_reducible assumption) | assumption); obtain ⟨ad249, e249, hx249_0⟩ := Kd.at_string HR0.out t241 p249 q249; obtain rfl : ad242 = ad249 := (by injection e249); replace hx249_0 := (HB.out.cell (World.block_lt_of_cell? w _ hx249_0)).trans hx249_0; replace p249 := eq_true p249; replace q249 := eq_true q249))
                   go_ret
                   exact ⟨by first | rfl | (simp [errW_none, errW_some] <;> rfl) | (simp only [← hji42]; first | rfl | (simp [errW_none, errW_some] <;> rfl)) | (simp [*, errW_none, errW_some] <;> rfl), by repeat (first | (with_reducible first | exact HB.out | apply below_alloc | apply pw_below_drewN | apply below_drew1) | exact HB.out)⟩
                 ·rw [if_neg c45] at H
                  have c45b0 : (Op.bytesLess ((rdOf ByteArray.empty l0 (ji42)).toList) a2.toList) = false := by simpa using c45
                  clear c45
                  obtain rfl := Option.some.inj H
                  go_wp2_with (first | ((with_reducible refine gate_callee (f := 16) rfl ?_); refine goesL_ (some 62) rfl rfl Try.func16 (by kernel_rfl) rfl #[.slice A0 l0.length c0, .string a2] rfl (by (try simp only [List.map_toArray, List.map_cons, List.map_nil]); first | done | rfl | (simp only [List.length_drop, List.length_take]; rfl)) ?_; (with_reducible refine (dict_Below.calls kj12 _ _ l0 a2 t241 _ ?side1 ?side2 A21.out).mono ?_); (case side1 => repeat (first | exact (Kd.C_below HR0.out HB.out) | (with_reducible refine Kd.C_alloc ?_ _) | (with_reducible refine Kd.C_drewN ?_ _) | (with_reducible refine Kd.C_drew ?_))); (case side2 => exact HC0.out); rintro e w' ⟨rfl, ⟨nd, rfl⟩⟩; refine ⟨_, rfl, ?_⟩; have p242 : 0 ≤ (t241 : Int) := of_decide_eq_true (by first | (with_reducible assumption) | assumption); have q242 : t241 < (l0.length : Int) := of_decide_eq_true (by first | (with_reducible assumption) | assumption); obtain ⟨ad242, e242, hx242_0⟩ := Kd.at_string HR0.out t241 p242 q242; cases e242; replace hx242_0 := (HB.out.cell (World.block_lt_of_cell? w _ hx242_0)).trans hx242_0; replace p242 := eq_true p242; replace q242 := eq_true q242) | ((with_reducible refine gate_callee (f := 14) rfl ?_); refine goesL_ (some 85) rfl rfl Try.func14 (by kernel_rfl) rfl #[.slice (some ad242) l0.length c0, .string a2] rfl (by (try simp only [List.map_toArray, List.map_cons, List.map_nil]); first | done | rfl | (simp only [List.length_drop, List.length_take]; rfl)) ?_; (with_reducible refine (dict_Find.calls kj12 _ _ l0 a2 t243 _ ?side1 ?side2 A26.out).mono ?_); (case side1 => repeat (first | exact (Kd.C_below HR0.out (by repeat (first | (with_reducible first | exact HB.out | apply below_alloc | apply pw_below_drewN | apply below_drew1) | exact HB.out))) | (with_reducible refine Kd.C_alloc ?_ _) | (with_reducible refine Kd.C_drewN ?_ _) | (with_reducible refine Kd.C_drew ?_))); (case side2 => exact HC0.out); rintro e w' ⟨rfl, ⟨nd, rfl⟩⟩; refine ⟨_, rfl, ?_⟩; have p248 : 0 ≤ ((ji42) : Int) := of_decide_eq_true (by first | (with_reducible assumption) | assumption); have q248 : (ji42) < (l0.length : Int) := of_decide_eq_true (by first | (with_reducible assumption) | assumption); obtain ⟨ad248, e248, hx248_0⟩ := Kd.at_string HR0.out (ji42) p248 q248; obtain rfl : ad242 = ad248 := (by injection e248); replace hx248_0 := (HB.out.cell (World.block_lt_of_cell? w _ hx248_0)).trans hx248_0; replace p248 := eq_true p248; replace q248 := eq_true q248))
                  go_ret
                  exact ⟨by first | rfl | (simp [errW_none, errW_some] <;> rfl) | (simp only [← hji42]; first | rfl | (simp [errW_none, errW_some] <;> rfl)) | (simp [*, errW_none, errW_some] <;> rfl), by repeat (first | (with_reducible first | exact HB.out | apply below_alloc | apply pw_below_drewN | apply below_drew1) | exact HB.out)⟩
                ·rw [if_neg c44] at H
                 exact absurd H (by simp)
               ·rw [if_neg c43] at H
                exact absurd H (by simp)
             ·rw [if_neg c39] at H
              have c39b0 : (t243 == (-1)) = false := beq_eq_false_iff_ne.mpr c39
              have c39b1 : (t243 != (-1)) = true := bne_iff_ne.mpr c39
              obtain rfl := Option.some.inj H
              go_wp2_with (first | ((with_reducible refine gate_callee (f := 16) rfl ?_); refine goesL_ (some 62) rfl rfl Try.func16 (by kernel_rfl) rfl #[.slice A0 l0.length c0, .string a2] rfl (by (try simp only [List.map_toArray, List.map_cons, List.map_nil]); first | done | rfl | (simp only [List.length_drop, List.length_take]; rfl)) ?_; (with_reducible refine (dict_Below.calls kj12 _ _ l0 a2 t241 _ ?side1 ?side2 A21.out).mono ?_); (case side1 => repeat (first | exact (Kd.C_below HR0.out HB.out) | (with_reducible refine Kd.C_alloc ?_ _) | (with_reducible refine Kd.C_drewN ?_ _) | (with_reducible refine Kd.C_drew ?_))); (case side2 => exact HC0.out); rintro e w' ⟨rfl, ⟨nd, rfl⟩⟩; refine ⟨_, rfl, ?_⟩; have p242 : 0 ≤ (t241 : Int) := of_decide_eq_true (by first | (with_reducible assumption) | assumption); have q242 : t241 < (l0.length : Int) := of_decide_eq_true (by first | (with_reducible assumption) | assumption); obtain ⟨ad242, e242, hx242_0⟩ := Kd.at_string HR0.out t241 p242 q242; cases e242; replace hx242_0 := (HB.out.cell (World.block_lt_of_cell? w _ hx242_0)).trans hx242_0; replace p242 := eq_true p242; replace q242 := eq_true q242) | ((with_reducible refine gate_callee (f := 14) rfl ?_); refine goesL_ (some 85) rfl rfl Try.func14 (by kernel_rfl) rfl #[.slice (some ad242) l0.length c0, .string a2] rfl (by (try simp only [List.map_toArray, List.map_cons, List.map_nil]); first | done | rfl | (simp only [List.length_drop, List.length_take]; rfl)) ?_; (with_reducible refine (dict_Find.calls kj12 _ _ l0 a2 t243 _ ?side1 ?side2 A26.out).mono ?_); (case side1 => repeat (first | exact (Kd.C_below HR0.out (by repeat (first | (with_reducible first | exact HB.out | apply below_alloc | apply pw_below_drewN | apply below_drew1) | exact HB.out))) | (with_reducible refine Kd.C_alloc ?_ _) | (with_reducible refine Kd.C_drewN ?_ _) | (with_reducible refine Kd.C_drew ?_))); (case side2 => exact HC0.out); rintro e w' ⟨rfl, ⟨nd, rfl⟩⟩; refine ⟨_, rfl, ?_⟩))
              go_ret
              exact ⟨by first | rfl | (simp [errW_none, errW_some] <;> rfl) | (simp [*, errW_none, errW_some] <;> rfl), by repeat (first | (with_reducible first | exact HB.out | apply below_alloc | apply pw_below_drewN | apply below_drew1) | exact HB.out)⟩
          ·rw [if_neg c25] at H
           exact absurd H (by simp)
         ·rw [if_neg c24] at H
          have c24b0 : decide (t241 < (l0.length : Int)) = false := decide_eq_false c24
          clear c24
          replace H := Option.bind_eq_some_iff.mp H
          obtain ⟨t250, A470, H⟩ := H
          replace H : (if t250 = (-1) then (if t241 = 0 then (if t241 = (l0.length : Int) then (some true) else (if 0 ≤ t241 then (none) else (none))) else (if 0 ≤ (wrap64 (t241 - 1)) then (if (wrap64 (t241 - 1)) < (l0.length : Int) then (if (Op.bytesLess ((rdOf ByteArray.empty l0 (wrap64 (t241 - 1))).toList) a2.toList) = true then (if t241 = (l0.length : Int) then (some true) else (if 0 ≤ t241 then (none) else (none))) else (some false)) else (none)) else (none))) else (some false)) = some r := H
          have A47 := Aside0.mk A470
          clear A470
          by_cases c48 : t250 = (-1)
          ·rw [if_pos c48] at H
           have c48b0 : (t250 == (-1)) = true := beq_iff_eq.mpr c48
           have c48b1 : (t250 != (-1)) = false := bne_eq_false_iff_eq.mpr c48
           clear c48
           by_cases c49 : t241 = 0
           ·rw [if_pos c49] at H
            have c49b0 : (t241 == 0) = true := beq_iff_eq.mpr c49
            have c49b1 : (t241 != 0) = false := bne_eq_false_iff_eq.mpr c49
            clear c49
            by_cases c50 : t241 = (l0.length : Int)
            ·rw [if_pos c50] at H
             have c50b0 : (t241 == (l0.length : Int)) = true := beq_iff_eq.mpr c50
             have c50b1 : (t241 != (l0.length : Int)) = false := bne_eq_false_iff_eq.mpr c50
             clear c50
             obtain rfl := Option.some.inj H
             go_wp2_with (first | ((with_reducible refine gate_callee (f := 16) rfl ?_); refine goesL_ (some 62) rfl rfl Try.func16 (by kernel_rfl) rfl #[.slice A0 l0.length c0, .string a2] rfl (by (try simp only [List.map_toArray, List.map_cons, List.map_nil]); first | done | rfl | (simp only [List.length_drop, List.length_take]; rfl)) ?_; (with_reducible refine (dict_Below.calls kj12 _ _ l0 a2 t241 _ ?side1 ?side2 A21.out).mono ?_); (case side1 => repeat (first | exact (Kd.C_below HR0.out HB.out) | (with_reducible refine Kd.C_alloc ?_ _) | (with_reducible refine Kd.C_drewN ?_ _) | (with_reducible refine Kd.C_drew ?_))); (case side2 => exact HC0.out); rintro e w' ⟨rfl, ⟨nd, rfl⟩⟩; refine ⟨_, rfl, ?_⟩) | ((with_reducible refine gate_callee (f := 14) rfl ?_); refine goesL_ (some 85) rfl rfl Try.func14 (by kernel_rfl) rfl #[.slice A0 l0.length c0, .string a2] rfl (by (try simp only [List.map_toArray, List.map_cons, List.map_nil]); first | done | rfl | (simp only [List.length_drop, List.length_take]; rfl)) ?_; (with_reducible refine (dict_Find.calls kj12 _ _ l0 a2 t250 _ ?side1 ?side2 A47.out).mono ?_); (case side1 => repeat (first | exact (Kd.C_below HR0.out (by repeat (first | (with_reducible first | exact HB.out | apply below_alloc | apply pw_below_drewN | apply below_drew1) | exact HB.out))) | (with_reducible refine Kd.C_alloc ?_ _) | (with_reducible refine Kd.C_drewN ?_ _) | (with_reducible refine Kd.C_drew ?_))); (case side2 => exact HC0.out); rintro e w' ⟨rfl, ⟨nd, rfl⟩⟩; refine ⟨_, rfl, ?_⟩))
             go_ret
             exact ⟨by first | rfl | (simp [errW_none, errW_some] <;> rfl) | (simp [*, errW_none, errW_some] <;> rfl), by repeat (first | (with_reducible first | exact HB.out | apply below_alloc | apply pw_below_drewN | apply below_drew1) | exact HB.out)⟩
            ·rw [if_neg c50] at H
             have c50b0 : (t241 == (l0.length : Int)) = false := beq_eq_false_iff_ne.mpr c50
             have c50b1 : (t241 != (l0.length : Int)) = true := bne_iff_ne.mpr c50
             by_cases c51 : 0 ≤ t241
             ·rw [if_pos c51] at H
              exact absurd H (by simp)
             ·rw [if_neg c51] at H
              exact absurd H (by simp)
           ·rw [if_neg c49] at H
            have c49b0 : (t241 == 0) = false := beq_eq_false_iff_ne.mpr c49
            have c49b1 : (t241 != 0) = true := bne_iff_ne.mpr c49
            obtain ⟨ji52, hji52⟩ : ∃ j_ : Int, (wrap64 (t241 - 1)) = j_ := ⟨_, rfl⟩
            replace H : (if 0 ≤ (ji52) then (if (ji52) < (l0.length : Int) then (if (Op.bytesLess ((rdOf ByteArray.empty l0 (ji52)).toList) a2.toList) = true then (if t241 = (l0.length : Int) then (some true) else (if 0 ≤ t241 then (none) else (none))) else (some false)) else (none)) else (none)) = some r := by first | (rw [hji52] at H; exact H) | (simp only [hji52] at H ⊢; exact H)
            (try rw [hji52] at A21)
            (try rw [hji52] at A47)
            have hji52w : (IntKind.i64.wrap (t241 - 1)) = ji52 := (i64_w _).trans hji52
            by_cases c53 : 0 ≤ (ji52)
            ·rw [if_pos c53] at H
             have c53b0 : decide (0 ≤ (ji52)) = true := decide_eq_true c53
             clear c53
             by_cases c54 : (ji52) < (l0.length : Int)
             ·rw [if_pos c54] at H
              have c54b0 : decide ((ji52) < (l0.length : Int)) = true := decide_eq_true c54
              clear c54
              by_cases c55 : (Op.bytesLess ((rdOf ByteArray.empty l0 (ji52)).toList) a2.toList) = true
              ·rw [if_pos c55] at H
               have c55b0 : (Op.bytesLess ((rdOf ByteArray.empty l0 (ji52)).toList) a2.toList) = true := c55
               clear c55
               by_cases c56 : t241 = (l0.length : Int)
               ·rw [if_pos c56] at H
                have c56b0 : (t241 == (l0.length : Int)) = true := beq_iff_eq.mpr c56
                have c56b1 : (t241 != (l0.length : Int)) = false := bne_eq_false_iff_eq.mpr c56
                clear c56
                obtain rfl := Option.some.inj H
                go_wp2_with (first | ((with_reducible refine gate_callee (f := 16) rfl ?_); refine goesL_ (some 62) rfl rfl Try.func16 (by kernel_rfl) rfl #[.slice A0 l0.length c0, .string a2] rfl (by (try simp only [List.map_toArray, List.map_cons, List.map_nil]); first | done | rfl | (simp only [List.length_drop, List.length_take]; rfl)) ?_; (with_reducible refine (dict_Below.calls kj12 _ _ l0 a2 t241 _ ?side1 ?side2 A21.out).mono ?_); (case side1 => repeat (first | exact (Kd.C_below HR0.out HB.out) | (with_reducible refine Kd.C_alloc ?_ _) | (with_reducible refine Kd.C_drewN ?_ _) | (with_reducible refine Kd.C_drew ?_))); (case side2 => exact HC0.out); rintro e w' ⟨rfl, ⟨nd, rfl⟩⟩; refine ⟨_, rfl, ?_⟩) | ((with_reducible refine gate_callee (f := 14) rfl ?_); refine goesL_ (some 85) rfl rfl Try.func14 (by kernel_rfl) rfl #[.slice A0 l0.length c0, .string a2] rfl (by (try simp only [List.map_toArray, List.map_cons, List.map_nil]); first | done | rfl | (simp only [List.length_drop, List.length_take]; rfl)) ?_; (with_reducible refine (dict_Find.calls kj12 _ _ l0 a2 t250 _ ?side1 ?side2 A47.out).mono ?_); (case side1 => repeat (first | exact (Kd.C_below HR0.out (by repeat (first | (with_reducible first | exact HB.out | apply below_alloc | apply pw_below_drewN | apply below_drew1) | exact HB.out))) | (with_reducible refine Kd.C_alloc ?_ _) | (with_reducible refine Kd.C_drewN ?_ _) | (with_reducible refine Kd.C_drew ?_))); (case side2 => exact HC0.out); rintro e w' ⟨rfl, ⟨nd, rfl⟩⟩; refine ⟨_, rfl, ?_⟩; have p251 : 0 ≤ ((ji52) : Int) := of_decide_eq_true (by first | (with_reducible assumption) | assumption); have q251 : (ji52) < (l0.length : Int) := of_decide_eq_true (by first | (with_reducible assumption) | assumption); obtain ⟨ad251, e251, hx251_0⟩ := Kd.at_string HR0.out (ji52) p251 q251; cases e251; replace hx251_0 := (HB.out.cell (World.block_lt_of_cell? w _ hx251_0)).trans hx251_0; replace p251 := eq_true p251; replace q251 := eq_true q251))
                go_ret
                exact ⟨by first | rfl | (simp [errW_none, errW_some] <;> rfl) | (simp only [← hji52]; first | rfl | (simp [errW_none, errW_some] <;> rfl)) | (simp [*, errW_none, errW_some] <;> rfl), by repeat (first | (with_reducible first | exact HB.out | apply below_alloc | apply pw_below_drewN | apply below_drew1) | exact HB.out)⟩
               ·rw [if_neg c56] at H
                have c56b0 : (t241 == (l0.length : Int)) = false := beq_eq_false_iff_ne.mpr c56
                have c56b1 : (t241 != (l0.length : Int)) = true := bne_iff_ne.mpr c56
                by_cases c57 : 0 ≤ t241
                ·rw [if_pos c57] at H
                 exact absurd H (by simp)
                ·rw [if_neg c57] at H
                 exact absurd H (by simp)
              ·rw [if_neg c55] at H
               have c55b0 : (Op.bytesLess ((rdOf ByteArray.empty l0 (ji52)).toList) a2.toList) = false := by simpa using c55
               clear c55
               obtain rfl := Option.some.inj H
               go_wp2_with (first | ((with_reducible refine gate_callee (f := 16) rfl ?_); refine goesL_ (some 62) rfl rfl Try.func16 (by kernel_rfl) rfl #[.slice A0 l0.length c0, .string a2] rfl (by (try simp only [List.map_toArray, List.map_cons, List.map_nil]); first | done | rfl | (simp only [List.length_drop, List.length_take]; rfl)) ?_; (with_reducible refine (dict_Below.calls kj12 _ _ l0 a2 t241 _ ?side1 ?side2 A21.out).mono ?_); (case side1 => repeat (first | exact (Kd.C_below HR0.out HB.out) | (with_reducible refine Kd.C_alloc ?_ _) | (with_reducible refine Kd.C_drewN ?_ _) | (with_reducible refine Kd.C_drew ?_))); (case side2 => exact HC0.out); rintro e w' ⟨rfl, ⟨nd, rfl⟩⟩; refine ⟨_, rfl, ?_⟩) | ((with_reducible refine gate_callee (f := 14) rfl ?_); refine goesL_ (some 85) rfl rfl Try.func14 (by kernel_rfl) rfl #[.slice A0 l0.length c0, .string a2] rfl (by (try simp only [List.map_toArray, List.map_cons, List.map_nil]); first | done | rfl | (simp only [List.length_drop, List.length_take]; rfl)) ?_; (with_reducible refine (dict_Find.calls kj12 _ _ l0 a2 t250 _ ?side1 ?side2 A47.out).mono ?_); (case side1 => repeat (first | exact (Kd.C_below HR0.out (by repeat (first | (with_reducible first | exact HB.out | apply below_alloc | apply pw_below_drewN | apply below_drew1) | exact HB.out))) | (with_reducible refine Kd.C_alloc ?_ _) | (with_reducible refine Kd.C_drewN ?_ _) | (with_reducible refine Kd.C_drew ?_))); (case side2 => exact HC0.out); rintro e w' ⟨rfl, ⟨nd, rfl⟩⟩; refine ⟨_, rfl, ?_⟩; have p251 : 0 ≤ ((ji52) : Int) := of_decide_eq_true (by first | (with_reducible assumption) | assumption); have q251 : (ji52) < (l0.length : Int) := of_decide_eq_true (by first | (with_reducible assumption) | assumption); obtain ⟨ad251, e251, hx251_0⟩ := Kd.at_string HR0.out (ji52) p251 q251; cases e251; replace hx251_0 := (HB.out.cell (World.block_lt_of_cell? w _ hx251_0)).trans hx251_0; replace p251 := eq_true p251; replace q251 := eq_true q251))
               go_ret
               exact ⟨by first | rfl | (simp [errW_none, errW_some] <;> rfl) | (simp only [← hji52]; first | rfl | (simp [errW_none, errW_some] <;> rfl)) | (simp [*, errW_none, errW_some] <;> rfl), by repeat (first | (with_reducible first | exact HB.out | apply below_alloc | apply pw_below_drewN | apply below_drew1) | exact HB.out)⟩
             ·rw [if_neg c54] at H
              exact absurd H (by simp)
            ·rw [if_neg c53] at H
             exact absurd H (by simp)
          ·rw [if_neg c48] at H
           have c48b0 : (t250 == (-1)) = false := beq_eq_false_iff_ne.mpr c48
           have c48b1 : (t250 != (-1)) = true := bne_iff_ne.mpr c48
           obtain rfl := Option.some.inj H
           go_wp2_with (first | ((with_reducible refine gate_callee (f := 16) rfl ?_); refine goesL_ (some 62) rfl rfl Try.func16 (by kernel_rfl) rfl #[.slice A0 l0.length c0, .string a2] rfl (by (try simp only [List.map_toArray, List.map_cons, List.map_nil]); first | done | rfl | (simp only [List.length_drop, List.length_take]; rfl)) ?_; (with_reducible refine (dict_Below.calls kj12 _ _ l0 a2 t241 _ ?side1 ?side2 A21.out).mono ?_); (case side1 => repeat (first | exact (Kd.C_below HR0.out HB.out) | (with_reducible refine Kd.C_alloc ?_ _) | (with_reducible refine Kd.C_drewN ?_ _) | (with_reducible refine Kd.C_drew ?_))); (case side2 => exact HC0.out); rintro e w' ⟨rfl, ⟨nd, rfl⟩⟩; refine ⟨_, rfl, ?_⟩) | ((with_reducible refine gate_callee (f := 14) rfl ?_); refine goesL_ (some 85) rfl rfl Try.func14 (by kernel_rfl) rfl #[.slice A0 l0.length c0, .string a2] rfl (by (try simp only [List.map_toArray, List.map_cons, List.map_nil]); first | done | rfl | (simp only [List.length_drop, List.length_take]; rfl)) ?_; (with_reducible refine (dict_Find.calls kj12 _ _ l0 a2 t250 _ ?side1 ?side2 A47.out).mono ?_); (case side1 => repeat (first | exact (Kd.C_below HR0.out (by repeat (first | (with_reducible first | exact HB.out | apply below_alloc | apply pw_below_drewN | apply below_drew1) | exact HB.out))) | (with_reducible refine Kd.C_alloc ?_ _) | (with_reducible refine Kd.C_drewN ?_ _) | (with_reducible refine Kd.C_drew ?_))); (case side2 => exact HC0.out); rintro e w' ⟨rfl, ⟨nd, rfl⟩⟩; refine ⟨_, rfl, ?_⟩))
           go_ret
           exact ⟨by first | rfl | (simp [errW_none, errW_some] <;> rfl) | (simp [*, errW_none, errW_some] <;> rfl), by repeat (first | (with_reducible first | exact HB.out | apply below_alloc | apply pw_below_drewN | apply below_drew1) | exact HB.out)⟩

/-- THE ONE PURE STATEMENT of catchwordlaw07_DictFinds. -/
def catchwordlaw07_DictFinds.Pure : Prop := ∀ (l0 : List ByteArray) (a1 : Int) (a2 : ByteArray), (l0.length * 16 ≤ 140737488351232 ∧ ∀ y0 ∈ l0, y0.size ≤ 140737488351232) → (Lit.int .i64 a1).wf = true → a2.size ≤ 140737488351232 → ∃ k, catchwordlaw07_DictFinds.f k l0 a1 a2 = some true

end Go.Proofs.Ytamofikjjkpejaa.PDictFinds
