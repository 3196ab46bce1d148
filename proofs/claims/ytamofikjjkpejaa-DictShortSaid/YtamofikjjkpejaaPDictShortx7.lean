-- LAID BY this session's own printer (wip/pr): Lean checks it
import Derived.Test.YtamofikjjkpejaaPDictShortx0
import Derived.Test.YtamofikjjkpejaaPDictShortx1
import Derived.Test.YtamofikjjkpejaaPDictShortx4
import Derived.Test.YtamofikjjkpejaaPDictShortx5
import Derived.Test.YtamofikjjkpejaaPDictShortx6
import Derived.Test.YtamofikjjkpejaaDStr
namespace Go.Proofs.Ytamofikjjkpejaa.PDictShort
open Go.RowKit Go.Proofs.YtamofikjjkpejaaW.PrintWords Go.Proofs.YtamofikjjkpejaaW.PrintLast Go.Proofs.YtamofikjjkpejaaW.PrintMore
attribute [local go_sem] max2_int min2_int max_two min_two max_three min_three max_four min_four   -- for this text's walks alone
set_option linter.unusedVariables false
set_option linter.unusedSimpArgs false

attribute [local go_sem] Go.Proofs.Ytamofikjjkpejaa.DStr.str_leq
/-! ### catchwordlaw07_Few: function 11 -/
def catchwordlaw07_Few.l0 : Nat → List ByteArray → Int → Option (Bool)
 | 0, _, _ => none
 | k + 1, x0, x3 => if x3 < (x0.length : Int) then (if 0 ≤ x3 then (if ((rdOf ByteArray.empty x0 x3).size : Int) > 40 then (some false) else (catchwordlaw07_Few.l0 k x0 (wrap64 (x3 + 1)))) else (none)) else (some true)
def catchwordlaw07_Few.f (k : Nat) (l0 : List ByteArray) : Option (Bool) := if (l0.length : Int) > 210 then (some false) else (catchwordlaw07_Few.l0 k l0 0)
theorem catchwordlaw07_Few.mono_l : ∀ k, (∀ y0 y1, LeO (catchwordlaw07_Few.l0 k y0 y1) (catchwordlaw07_Few.l0 (k + 1) y0 y1))
 | 0 => fun _ _ r h => by simp [catchwordlaw07_Few.l0] at h
 | k + 1 => by
  have ih0 := catchwordlaw07_Few.mono_l k
  ·intro y0 y1
   unfold catchwordlaw07_Few.l0
   repeat' first
   | (with_reducible exact ih0 _ _)
   | (with_reducible exact LeO.refl _)
   | (with_reducible exact LeO.none _)
   | (with_reducible refine LeO.ite ?_ ?_)
   | (with_reducible refine LeO.bind ?_ (fun _ => ?_))
   | exact ih0 _ _
   | exact LeO.none _
   | refine LeO.ite ?_ ?_
   | refine LeO.bind ?_ (fun _ => ?_)
theorem catchwordlaw07_Few.mono : ∀ a0 k, LeO (catchwordlaw07_Few.f k a0) (catchwordlaw07_Few.f (k + 1) a0) := by
 intro a0 k
 have ih0 := catchwordlaw07_Few.mono_l k
 unfold catchwordlaw07_Few.f
 repeat' first
   | (with_reducible exact ih0 _ _)
   | (with_reducible exact LeO.refl _)
   | (with_reducible exact LeO.none _)
   | (with_reducible refine LeO.ite ?_ ?_)
   | (with_reducible refine LeO.bind ?_ (fun _ => ?_))
   | exact ih0 _ _
   | exact LeO.none _
   | refine LeO.ite ?_ ?_
   | refine LeO.bind ?_ (fun _ => ?_)
set_option maxHeartbeats 8000000 in
set_option maxRecDepth 100000 in
theorem catchwordlaw07_Few.calls (k : Nat) (A0 : Option Addr) (c0 : Nat) (l0 : List ByteArray) (r : Bool) (w : World) (hr0 : Kd.C Kd.string w A0 l0.length l0) (hc0 : l0.length ≤ c0) (h : catchwordlaw07_Few.f k l0 = some r) :
  Calls Try.prog 11 #[.slice A0 l0.length c0] w fun e w' => e = .returned (.bool r) ∧ Drawn0 w w' := by
 have HR0 := Aside0.mk hr0
 have HC0 := Aside0.mk hc0
 clear hr0 hc0
 have H : (if (l0.length : Int) > 210 then (some false) else (catchwordlaw07_Few.l0 k l0 0)) = some r := h
 clear h
 by_cases c2 : (l0.length : Int) > 210
 ·rw [if_pos c2] at H
  have c2b0 : decide (210 < (l0.length : Int)) = true := decide_eq_true c2
  have c2b1 : decide (210 < l0.length) = true := decide_eq_true (by omega)
  clear c2
  obtain rfl := Option.some.inj H
  go_enter Try.func11, Try.ntmps11
  go_wp2
  go_ret
  exact ⟨by first | rfl | (simp; done) | (simp [*]; done), by repeat (first | exact Drawn0.refl _ | apply Drawn0.step)⟩
 ·rw [if_neg c2] at H
  have c2b0 : decide (210 < (l0.length : Int)) = false := decide_eq_false c2
  have c2b1 : decide (210 < l0.length) = false := decide_eq_false (by omega)
  clear c2
  have H' := Aside0.mk H
  clear H
  go_enter Try.func11, Try.ntmps11
  go_wp2
  go_loopg [3] k (fun kq v3 w' => ∃ (x3_1 : Int), v3 = .int .i64 x3_1 ∧ Aside0 (catchwordlaw07_Few.l0 kq l0 x3_1 = some r) ∧ Aside0 (kq ≤ k) ∧ Drawn0 w w')
  case atStart => exact ⟨(0), (by first | rfl | (simp; done) | (simp [*]; done)), H', ⟨Nat.le_refl _⟩, by repeat (first | exact Drawn0.refl _ | apply Drawn0.step)⟩
  case round =>
   clear H'
   try clear c1
   try clear c2
   try clear c2b0
   try clear c2b1
   try clear p2
   obtain ⟨x3_1, rfl, HA, HK1, ⟨m1, rfl⟩⟩ := hrel
   cases gk with
   | zero => exact absurd HA.out (by simp [catchwordlaw07_Few.l0])
   | succ k1 =>
    have H := HA.out
    clear HA
    simp only [catchwordlaw07_Few.l0] at H
    by_cases c3 : x3_1 < (l0.length : Int)
    ·rw [if_pos c3] at H
     have c3b0 : decide (x3_1 < (l0.length : Int)) = true := decide_eq_true c3
     clear c3
     by_cases c4 : 0 ≤ x3_1
     ·rw [if_pos c4] at H
      have c4b0 : decide (0 ≤ x3_1) = true := decide_eq_true c4
      clear c4
      by_cases c5 : ((rdOf ByteArray.empty l0 x3_1).size : Int) > 40
      ·rw [if_pos c5] at H
       have c5b0 : decide (40 < ((rdOf ByteArray.empty l0 x3_1).size : Int)) = true := decide_eq_true c5
       have c5b1 : decide (40 < (rdOf ByteArray.empty l0 x3_1).size) = true := decide_eq_true (by omega)
       clear c5
       obtain rfl := Option.some.inj H
       have p233 : 0 ≤ (x3_1 : Int) := of_decide_eq_true (by first | (with_reducible assumption) | assumption)
       have q233 : x3_1 < (l0.length : Int) := of_decide_eq_true (by first | (with_reducible assumption) | assumption)
       obtain ⟨ad233, e233, hx233_0⟩ := Kd.at_string HR0.out x3_1 p233 q233
       cases e233
       replace p233 := eq_true p233
       replace q233 := eq_true q233
       go_wp2
       go_ret
       exact ⟨by first | rfl | (simp; done) | (simp [*]; done), by repeat (first | exact Drawn0.refl _ | apply Drawn0.step)⟩
      ·rw [if_neg c5] at H
       have c5b0 : decide (40 < ((rdOf ByteArray.empty l0 x3_1).size : Int)) = false := decide_eq_false c5
       have c5b1 : decide (40 < (rdOf ByteArray.empty l0 x3_1).size) = false := decide_eq_false (by omega)
       clear c5
       have H' := Aside0.mk H
       clear H
       have p233 : 0 ≤ (x3_1 : Int) := of_decide_eq_true (by first | (with_reducible assumption) | assumption)
       have q233 : x3_1 < (l0.length : Int) := of_decide_eq_true (by first | (with_reducible assumption) | assumption)
       obtain ⟨ad233, e233, hx233_0⟩ := Kd.at_string HR0.out x3_1 p233 q233
       cases e233
       replace p233 := eq_true p233
       replace q233 := eq_true q233
       go_wp2
       go_roundg k1
       case measure => have := HK1.out; omega
       case rel => exact ⟨(wrap64 (x3_1 + 1)), (by first | rfl | (simp; done) | (simp [*]; done)), H', ⟨by have := HK1.out; omega⟩, by repeat (first | exact Drawn0.refl _ | apply Drawn0.step)⟩
     ·rw [if_neg c4] at H
      exact absurd H (by simp)
    ·rw [if_neg c3] at H
     have c3b0 : decide (x3_1 < (l0.length : Int)) = false := decide_eq_false c3
     clear c3
     obtain rfl := Option.some.inj H
     go_wp2
     go_ret
     exact ⟨by first | rfl | (simp; done) | (simp [*]; done), by repeat (first | exact Drawn0.refl _ | apply Drawn0.step)⟩

/-! ### catchwordlaw07_DictShort: function 9 -/
mutual
def catchwordlaw07_DictShort.j0 : Nat → List ByteArray → Int → Bool → Bool → Option (Bool)
 | 0, _, _, _, _ => none
 | k + 1, x0, x1, x5, x25 => if x25 = true then (some x5) else ((dict_Pack.f k x0).bind fun t237 => (catchwordlaw07_DictShort.l0 k x0 x1 t237 2 0))
def catchwordlaw07_DictShort.l0 : Nat → List ByteArray → Int → List Int → Int → Int → Option (Bool)
 | 0, _, _, _, _, _ => none
 | k + 1, x0, x1, x7, x8, x9 => if x9 < (x0.length : Int) then (if 0 ≤ x9 then (catchwordlaw07_DictShort.l0 k x0 x1 x7 (wrap64 ((wrap64 (x8 + ((rdOf ByteArray.empty x0 x9).size : Int))) + 2)) (wrap64 (x9 + 1))) else (none)) else (if (x7.length : Int) > x8 then (catchwordlaw07_DictShort.j2 k x1 x7 true) else (catchwordlaw07_DictShort.j2 k x1 x7 (decide ((x7.length : Int) < (wrap64 (1 + (wrap64 (2 * (x0.length : Int)))))))))
def catchwordlaw07_DictShort.j2 : Nat → Int → List Int → Bool → Option (Bool)
 | 0, _, _, _ => none
 | k + 1, x1, x7, x55 => if x55 = true then (some false) else (if x1 < 0 then (some true) else (if x1 ≥ (x7.length : Int) then (some true) else (if 0 ≤ x1 then (if x1 ≤ (x7.length : Int) then ((dict_Unpack.f k (x7.take (x1 : Int).toNat)).bind fun bt245 => (some (bt245.2 == 5))) else (none)) else (none))))
end
def catchwordlaw07_DictShort.f (k : Nat) (l0 : List ByteArray) (a1 : Int) : Option (Bool) := (catchwordlaw07_awake.f k).bind fun t234 => ((catchwordlaw07_Few.f k l0).bind fun t235 => (if t234 = true then (if t235 = true then ((dict_May.f k l0).bind fun t236 => (catchwordlaw07_DictShort.j0 k l0 a1 t234 (!t236))) else (catchwordlaw07_DictShort.j0 k l0 a1 t234 true)) else (catchwordlaw07_DictShort.j0 k l0 a1 t234 true)))
theorem catchwordlaw07_DictShort.mono_l : ∀ k, (∀ y0 y1 y2 y3, LeO (catchwordlaw07_DictShort.j0 k y0 y1 y2 y3) (catchwordlaw07_DictShort.j0 (k + 1) y0 y1 y2 y3)) ∧ (∀ y0 y1 y2 y3 y4, LeO (catchwordlaw07_DictShort.l0 k y0 y1 y2 y3 y4) (catchwordlaw07_DictShort.l0 (k + 1) y0 y1 y2 y3 y4)) ∧ (∀ y0 y1 y2, LeO (catchwordlaw07_DictShort.j2 k y0 y1 y2) (catchwordlaw07_DictShort.j2 (k + 1) y0 y1 y2))
 | 0 => ⟨fun _ _ _ _ r h => by simp [catchwordlaw07_DictShort.j0] at h, fun _ _ _ _ _ r h => by simp [catchwordlaw07_DictShort.l0] at h, fun _ _ _ r h => by simp [catchwordlaw07_DictShort.j2] at h⟩
 | k + 1 => by
  obtain ⟨ih0, ih1, ih2⟩ := catchwordlaw07_DictShort.mono_l k
  refine ⟨?_, ?_, ?_⟩
  ·intro y0 y1 y2 y3
   unfold catchwordlaw07_DictShort.j0
   repeat' first
   | (with_reducible exact ih0 _ _ _ _)
   | (with_reducible exact ih1 _ _ _ _ _)
   | (with_reducible exact ih2 _ _ _)
   | (with_reducible exact catchwordlaw07_Few.mono _ _)
   | (with_reducible exact catchwordlaw07_awake.mono _)
   | (with_reducible exact dict_May.mono _ _)
   | (with_reducible exact dict_Pack.mono _ _)
   | (with_reducible exact dict_Unpack.mono _ _)
   | (with_reducible exact LeO.refl _)
   | (with_reducible exact LeO.none _)
   | (with_reducible refine LeO.ite ?_ ?_)
   | (with_reducible refine LeO.bind ?_ (fun _ => ?_))
   | exact ih0 _ _ _ _
   | exact ih1 _ _ _ _ _
   | exact ih2 _ _ _
   | exact catchwordlaw07_Few.mono _ _
   | exact catchwordlaw07_awake.mono _
   | exact dict_May.mono _ _
   | exact dict_Pack.mono _ _
   | exact dict_Unpack.mono _ _
   | exact LeO.none _
   | refine LeO.ite ?_ ?_
   | refine LeO.bind ?_ (fun _ => ?_)
  ·intro y0 y1 y2 y3 y4
   unfold catchwordlaw07_DictShort.l0
   repeat' first
   | (with_reducible exact ih0 _ _ _ _)
   | (with_reducible exact ih1 _ _ _ _ _)
   | (with_reducible exact ih2 _ _ _)
   | (with_reducible exact catchwordlaw07_Few.mono _ _)
   | (with_reducible exact catchwordlaw07_awake.mono _)
   | (with_reducible exact dict_May.mono _ _)
   | (with_reducible exact dict_Pack.mono _ _)
   | (with_reducible exact dict_Unpack.mono _ _)
   | (with_reducible exact LeO.refl _)
   | (with_reducible exact LeO.none _)
   | (with_reducible refine LeO.ite ?_ ?_)
   | (with_reducible refine LeO.bind ?_ (fun _ => ?_))
   | exact ih0 _ _ _ _
   | exact ih1 _ _ _ _ _
   | exact ih2 _ _ _
   | exact catchwordlaw07_Few.mono _ _
   | exact catchwordlaw07_awake.mono _
   | exact dict_May.mono _ _
   | exact dict_Pack.mono _ _
   | exact dict_Unpack.mono _ _
   | exact LeO.none _
   | refine LeO.ite ?_ ?_
   | refine LeO.bind ?_ (fun _ => ?_)
  ·intro y0 y1 y2
   unfold catchwordlaw07_DictShort.j2
   repeat' first
   | (with_reducible exact ih0 _ _ _ _)
   | (with_reducible exact ih1 _ _ _ _ _)
   | (with_reducible exact ih2 _ _ _)
   | (with_reducible exact catchwordlaw07_Few.mono _ _)
   | (with_reducible exact catchwordlaw07_awake.mono _)
   | (with_reducible exact dict_May.mono _ _)
   | (with_reducible exact dict_Pack.mono _ _)
   | (with_reducible exact dict_Unpack.mono _ _)
   | (with_reducible exact LeO.refl _)
   | (with_reducible exact LeO.none _)
   | (with_reducible refine LeO.ite ?_ ?_)
   | (with_reducible refine LeO.bind ?_ (fun _ => ?_))
   | exact ih0 _ _ _ _
   | exact ih1 _ _ _ _ _
   | exact ih2 _ _ _
   | exact catchwordlaw07_Few.mono _ _
   | exact catchwordlaw07_awake.mono _
   | exact dict_May.mono _ _
   | exact dict_Pack.mono _ _
   | exact dict_Unpack.mono _ _
   | exact LeO.none _
   | refine LeO.ite ?_ ?_
   | refine LeO.bind ?_ (fun _ => ?_)
theorem catchwordlaw07_DictShort.mono : ∀ a0 a1 k, LeO (catchwordlaw07_DictShort.f k a0 a1) (catchwordlaw07_DictShort.f (k + 1) a0 a1) := by
 intro a0 a1 k
 obtain ⟨ih0, ih1, ih2⟩ := catchwordlaw07_DictShort.mono_l k
 unfold catchwordlaw07_DictShort.f
 repeat' first
   | (with_reducible exact ih0 _ _ _ _)
   | (with_reducible exact ih1 _ _ _ _ _)
   | (with_reducible exact ih2 _ _ _)
   | (with_reducible exact catchwordlaw07_Few.mono _ _)
   | (with_reducible exact catchwordlaw07_awake.mono _)
   | (with_reducible exact dict_May.mono _ _)
   | (with_reducible exact dict_Pack.mono _ _)
   | (with_reducible exact dict_Unpack.mono _ _)
   | (with_reducible exact LeO.refl _)
   | (with_reducible exact LeO.none _)
   | (with_reducible refine LeO.ite ?_ ?_)
   | (with_reducible refine LeO.bind ?_ (fun _ => ?_))
   | exact ih0 _ _ _ _
   | exact ih1 _ _ _ _ _
   | exact ih2 _ _ _
   | exact catchwordlaw07_Few.mono _ _
   | exact catchwordlaw07_awake.mono _
   | exact dict_May.mono _ _
   | exact dict_Pack.mono _ _
   | exact dict_Unpack.mono _ _
   | exact LeO.none _
   | refine LeO.ite ?_ ?_
   | refine LeO.bind ?_ (fun _ => ?_)
set_option maxHeartbeats 8000000 in
set_option maxRecDepth 100000 in
theorem catchwordlaw07_DictShort.calls (k : Nat) (A0 : Option Addr) (c0 : Nat) (l0 : List ByteArray) (a1 : Int) (r : Bool) (w : World) (hr0 : Kd.C Kd.string w A0 l0.length l0) (hc0 : l0.length ≤ c0) (h : catchwordlaw07_DictShort.f k l0 a1 = some r) :
  Calls Try.prog 9 #[.slice A0 l0.length c0, .int .i64 a1] w fun e w' => e = .returned (.bool r) ∧ Below w.heap.size w w' := by
 have HR0 := Aside0.mk hr0
 have HC0 := Aside0.mk hc0
 clear hr0 hc0
 have HB := Aside0.mk (Below.refl w.heap.size w)
 have H : ((catchwordlaw07_awake.f k).bind fun t234 => ((catchwordlaw07_Few.f k l0).bind fun t235 => (if t234 = true then (if t235 = true then ((dict_May.f k l0).bind fun t236 => (catchwordlaw07_DictShort.j0 k l0 a1 t234 (!t236))) else (catchwordlaw07_DictShort.j0 k l0 a1 t234 true)) else (catchwordlaw07_DictShort.j0 k l0 a1 t234 true)))) = some r := h
 clear h
 replace H := Option.bind_eq_some_iff.mp H
 obtain ⟨t234, A30, H⟩ := H
 replace H : ((catchwordlaw07_Few.f k l0).bind fun t235 => (if t234 = true then (if t235 = true then ((dict_May.f k l0).bind fun t236 => (catchwordlaw07_DictShort.j0 k l0 a1 t234 (!t236))) else (catchwordlaw07_DictShort.j0 k l0 a1 t234 true)) else (catchwordlaw07_DictShort.j0 k l0 a1 t234 true))) = some r := H
 have A3 := Aside0.mk A30
 clear A30
 replace H := Option.bind_eq_some_iff.mp H
 obtain ⟨t235, A40, H⟩ := H
 replace H : (if t234 = true then (if t235 = true then ((dict_May.f k l0).bind fun t236 => (catchwordlaw07_DictShort.j0 k l0 a1 t234 (!t236))) else (catchwordlaw07_DictShort.j0 k l0 a1 t234 true)) else (catchwordlaw07_DictShort.j0 k l0 a1 t234 true)) = some r := H
 have A4 := Aside0.mk A40
 clear A40
 have HC5 := Aside0.mk H
 clear H
 go_enter Try.func9, Try.ntmps9
 go_upto_region 3 with (first | ((with_reducible refine gate_callee (f := 10) rfl ?_); refine goesL_ (some 12) rfl rfl Try.func10 (by kernel_rfl) rfl #[] rfl (by (try simp only [List.map_toArray, List.map_cons, List.map_nil]); first | done | rfl | (simp only [List.length_drop, List.length_take]; rfl)) ?_; (with_reducible refine (catchwordlaw07_awake.calls k  t234 _ A3.out).mono ?_); rintro e w6 ⟨rfl, hb⟩; refine ⟨_, rfl, ?_⟩; have n0_ := Aside0.mk (below_step (by repeat (first | (with_reducible first | exact HB.out | apply below_alloc | apply pw_below_drewN | apply below_drew1) | exact HB.out)) hb); clear HB; have HB := n0_; clear n0_; (try clear hb); (try clear hb2); (try clear hk); (try clear hi)) | ((with_reducible refine gate_callee (f := 11) rfl ?_); refine goesL_ (some 14) rfl rfl Try.func11 (by kernel_rfl) rfl #[.slice A0 l0.length c0] rfl (by (try simp only [List.map_toArray, List.map_cons, List.map_nil]); first | done | rfl | (simp only [List.length_drop, List.length_take]; rfl)) ?_; (with_reducible refine (catchwordlaw07_Few.calls k _ _ l0 t235 _ ?side1 ?side2 A4.out).mono ?_); (case side1 => repeat (first | exact (Kd.C_below HR0.out HB.out) | (with_reducible refine Kd.C_alloc ?_ _) | (with_reducible refine Kd.C_drewN ?_ _) | (with_reducible refine Kd.C_drew ?_))); (case side2 => exact HC0.out); rintro e w' ⟨rfl, ⟨nd, rfl⟩⟩; refine ⟨_, rfl, ?_⟩))
 (try simp only [Act.put, List.setIfInBounds_toArray, List.set_cons_zero, List.set_cons_succ])
 go_cut [25] (fun v25 wc => ∃ (kq : Nat) (x25_4 : Bool), v25 = .bool x25_4 ∧ Aside0 (catchwordlaw07_DictShort.j0 kq l0 a1 t234 x25_4 = some r) ∧ Aside0 (kq ≤ k) ∧ Aside0 (Below w.heap.size w wc))
 case first =>
  have H := HC5.out
  clear HC5
  by_cases c7 : t234 = true
  ·subst c7
   have H1 : (if t235 = true then ((dict_May.f k l0).bind fun t236 => (catchwordlaw07_DictShort.j0 k l0 a1 true (!t236))) else (catchwordlaw07_DictShort.j0 k l0 a1 true true)) = some r := by rw [if_pos rfl] at H; exact H
   clear H
   have H := H1
   clear H1
   by_cases c8 : t235 = true
   ·subst c8
    have H1 : ((dict_May.f k l0).bind fun t236 => (catchwordlaw07_DictShort.j0 k l0 a1 true (!t236))) = some r := by rw [if_pos rfl] at H; exact H
    clear H
    have H := H1
    clear H1
    replace H := Option.bind_eq_some_iff.mp H
    obtain ⟨t236, A90, H⟩ := H
    replace H : (catchwordlaw07_DictShort.j0 k l0 a1 true (!t236)) = some r := H
    have A9 := Aside0.mk A90
    clear A90
    have H' := Aside0.mk H
    clear H
    go_wp2_with (first | (go_at_call 12; (with_reducible refine (dict_May.calls k _ _ l0 t236 _ ?side1 ?side2 A9.out).mono ?_); (case side1 => repeat (first | exact (Kd.C_below HR0.out HB.out) | (with_reducible refine Kd.C_alloc ?_ _) | (with_reducible refine Kd.C_drewN ?_ _) | (with_reducible refine Kd.C_drew ?_))); (case side2 => exact HC0.out); rintro e w' ⟨rfl, ⟨nd, rfl⟩⟩))
    go_meet
    case rel => exact ⟨_, (!t236), (by first | rfl | (simp; done) | (simp [*]; done)), H', ⟨by first | omega | exact Nat.le_refl _⟩, ⟨by repeat (first | (with_reducible first | exact HB.out | apply below_alloc | apply pw_below_drewN | apply below_drew1) | exact HB.out)⟩⟩
   ·replace c8 := Bool.eq_false_iff.mpr c8
    subst c8
    have H1 : (catchwordlaw07_DictShort.j0 k l0 a1 true true) = some r := by rw [if_neg (show ¬ (false = true) by decide)] at H; exact H
    clear H
    have H := H1
    clear H1
    have H' := Aside0.mk H
    clear H
    go_wp2
    go_meet
    case rel => exact ⟨_, (true), (by first | rfl | (simp; done) | (simp [*]; done)), H', ⟨by first | omega | exact Nat.le_refl _⟩, ⟨by repeat (first | (with_reducible first | exact HB.out | apply below_alloc | apply pw_below_drewN | apply below_drew1) | exact HB.out)⟩⟩
  ·replace c7 := Bool.eq_false_iff.mpr c7
   subst c7
   have H1 : (catchwordlaw07_DictShort.j0 k l0 a1 false true) = some r := by rw [if_neg (show ¬ (false = true) by decide)] at H; exact H
   clear H
   have H := H1
   clear H1
   have H' := Aside0.mk H
   clear H
   go_wp2
   go_meet
   case rel => exact ⟨_, (true), (by first | rfl | (simp; done) | (simp [*]; done)), H', ⟨by first | omega | exact Nat.le_refl _⟩, ⟨by repeat (first | (with_reducible first | exact HB.out | apply below_alloc | apply pw_below_drewN | apply below_drew1) | exact HB.out)⟩⟩
 case rest =>
  clear HC5
  try clear c1
  try clear p2
  try clear c7
  try clear c8
  try clear c9
  obtain ⟨kq, x25_4, rfl, HA, HJ4, HB⟩ := hcut
  cases kq with
  | zero => exact absurd HA.out (by simp [catchwordlaw07_DictShort.j0])
  | succ kj4 =>
   have H := HA.out
   clear HA
   simp only [catchwordlaw07_DictShort.j0] at H
   by_cases c10 : x25_4 = true
   ·subst c10
    have H1 : (some t234) = some r := by rw [if_pos rfl] at H; exact H
    clear H
    have H := H1
    clear H1
    obtain rfl := Option.some.inj H
    go_wp2
    go_ret
    exact ⟨by first | rfl | (simp [errW_none, errW_some] <;> rfl) | (simp [*, errW_none, errW_some] <;> rfl), by repeat (first | (with_reducible first | exact HB.out | apply below_alloc | apply pw_below_drewN | apply below_drew1) | exact HB.out)⟩
   ·replace c10 := Bool.eq_false_iff.mpr c10
    subst c10
    have H1 : ((dict_Pack.f kj4 l0).bind fun t237 => (catchwordlaw07_DictShort.l0 kj4 l0 a1 t237 2 0)) = some r := by rw [if_neg (show ¬ (false = true) by decide)] at H; exact H
    clear H
    have H := H1
    clear H1
    replace H := Option.bind_eq_some_iff.mp H
    obtain ⟨t237, A110, H⟩ := H
    replace H : (catchwordlaw07_DictShort.l0 kj4 l0 a1 t237 2 0) = some r := H
    have A11 := Aside0.mk A110
    clear A110
    have H' := Aside0.mk H
    clear H
    go_wp2_with (first | ((with_reducible refine gate_callee (f := 24) rfl ?_); refine goesL_ (some 28) rfl rfl Try.func24 (by kernel_rfl) rfl #[.slice A0 l0.length c0] rfl (by (try simp only [List.map_toArray, List.map_cons, List.map_nil]); first | done | rfl | (simp only [List.length_drop, List.length_take]; rfl)) ?_; (with_reducible refine (dict_Pack.calls kj4 _ _ l0 t237 _ ?side1 ?side2 A11.out).mono ?_); (case side1 => repeat (first | exact (Kd.C_below HR0.out HB.out) | (with_reducible refine Kd.C_alloc ?_ _) | (with_reducible refine Kd.C_drewN ?_ _) | (with_reducible refine Kd.C_drew ?_))); (case side2 => exact HC0.out); rintro e w12 ⟨v238, rfl, ho0, hb⟩; refine ⟨_, rfl, ?_⟩; have n0_ := Aside0.mk (Kd.R_lower ho0 (below_size (by repeat (first | (with_reducible first | exact HB.out | apply below_alloc | apply pw_below_drewN | apply below_drew1) | exact HB.out)))); have n1_ := Aside0.mk (below_step (by repeat (first | (with_reducible first | exact HB.out | apply below_alloc | apply pw_below_drewN | apply below_drew1) | exact HB.out)) hb); clear HB; have HO239 := n0_; have HB := n1_; clear n0_ n1_; (try clear hb); (try clear hb2); (try clear hk); (try clear hi); (try clear ho0)))
    go_loopg [8, 9] kj4 (fun kq v8 v9 w' => ∃ (x8_2 : Int) (x9_2 : Int), v8 = .int .i64 x8_2 ∧ v9 = .int .i64 x9_2 ∧ Aside0 (catchwordlaw07_DictShort.l0 kq l0 a1 t237 x8_2 x9_2 = some r) ∧ Aside0 (kq ≤ kj4) ∧ Aside0 (Kd.R (Kd.int .u8) 5 w' w.heap.size (fun _ => True) v238 t237) ∧ Aside0 (Below w.heap.size w w'))
    case atStart => exact ⟨(2), (0), (by first | rfl | (simp; done) | (simp [*]; done)), (by first | rfl | (simp; done) | (simp [*]; done)), H', ⟨Nat.le_refl _⟩, ⟨by (with_reducible repeat (first | apply Kd.R_alloc | apply Kd.R_drewN | apply Kd.R_drew)); exact HO239.out⟩, ⟨by repeat (first | (with_reducible first | exact HB.out | apply below_alloc | apply pw_below_drewN | apply below_drew1) | exact HB.out)⟩⟩
    case round =>
     clear H'
     try clear c1
     try clear c2
     try clear p2
     try clear c7
     try clear c8
     try clear c9
     try clear c10
     try clear c11
     try clear p2
     obtain ⟨x8_2, x9_2, rfl, rfl, HA, HK2, HO_7, HB⟩ := hrel
     cases gk with
     | zero => exact absurd HA.out (by simp [catchwordlaw07_DictShort.l0])
     | succ k2 =>
      have H := HA.out
      clear HA
      simp only [catchwordlaw07_DictShort.l0] at H
      by_cases c13 : x9_2 < (l0.length : Int)
      ·rw [if_pos c13] at H
       have c13b0 : decide (x9_2 < (l0.length : Int)) = true := decide_eq_true c13
       clear c13
       by_cases c14 : 0 ≤ x9_2
       ·rw [if_pos c14] at H
        have c14b0 : decide (0 ≤ x9_2) = true := decide_eq_true c14
        clear c14
        have H' := Aside0.mk H
        clear H
        have p240 : 0 ≤ (x9_2 : Int) := of_decide_eq_true (by first | (with_reducible assumption) | assumption)
        have q240 : x9_2 < (l0.length : Int) := of_decide_eq_true (by first | (with_reducible assumption) | assumption)
        obtain ⟨ad240, e240, hx240_0⟩ := Kd.at_string HR0.out x9_2 p240 q240
        cases e240
        replace hx240_0 := (HB.out.cell (World.block_lt_of_cell? w _ hx240_0)).trans hx240_0
        replace p240 := eq_true p240
        replace q240 := eq_true q240
        go_wp2
        go_roundg k2
        case measure => have := HJ4.out; have := HK2.out; omega
        case rel => exact ⟨(wrap64 ((wrap64 (x8_2 + ((rdOf ByteArray.empty l0 x9_2).size : Int))) + 2)), (wrap64 (x9_2 + 1)), (by first | rfl | (simp; done) | (simp [*]; done)), (by first | rfl | (simp; done) | (simp [*]; done)), H', ⟨by have := HJ4.out; have := HK2.out; omega⟩, ⟨by (with_reducible repeat (first | apply Kd.R_alloc | apply Kd.R_drewN | apply Kd.R_drew)); exact HO_7.out⟩, ⟨by repeat (first | (with_reducible first | exact HB.out | apply below_alloc | apply pw_below_drewN | apply below_drew1) | exact HB.out)⟩⟩
       ·rw [if_neg c14] at H
        exact absurd H (by simp)
      ·rw [if_neg c13] at H
       have c13b0 : decide (x9_2 < (l0.length : Int)) = false := decide_eq_false c13
       clear c13
       have HC15 := Aside0.mk H
       clear H
       go_upto_region 11 with (fail)
       go_cut [55] (fun v55 wc => ∃ (kq : Nat) (x55_14 : Bool), v55 = .bool x55_14 ∧ Aside0 (catchwordlaw07_DictShort.j2 kq a1 t237 x55_14 = some r) ∧ Aside0 (kq ≤ k2) ∧ Aside0 (Kd.R (Kd.int .u8) 5 wc w.heap.size (fun _ => True) v238 t237) ∧ Aside0 (Below w.heap.size w wc))
       case first =>
        have H := HC15.out
        clear HC15
        by_cases c16 : (t237.length : Int) > x8_2
        ·rw [if_pos c16] at H
         have c16b0 : decide (x8_2 < (t237.length : Int)) = true := decide_eq_true c16
         clear c16
         (first | rw [c16b0] | (simp only [i64_w, i32_w]; rw [c16b0]) | skip)
         have H' := Aside0.mk H
         clear H
         obtain ⟨Ao17, co17, eo17⟩ := Kd.R_slice HO_7.out
         subst eo17
         go_wp2
         go_meet
         case rel => exact ⟨_, (true), (by first | rfl | (simp; done) | (simp [*]; done)), H', ⟨by have := HJ4.out; have := HK2.out; first | omega | exact Nat.le_refl _⟩, ⟨by (with_reducible repeat (first | apply Kd.R_alloc | apply Kd.R_drewN | apply Kd.R_drew)); exact HO_7.out⟩, ⟨by repeat (first | (with_reducible first | exact HB.out | apply below_alloc | apply pw_below_drewN | apply below_drew1) | exact HB.out)⟩⟩
        ·rw [if_neg c16] at H
         have c16b0 : decide (x8_2 < (t237.length : Int)) = false := decide_eq_false c16
         clear c16
         (first | rw [c16b0] | (simp only [i64_w, i32_w]; rw [c16b0]) | skip)
         have H' := Aside0.mk H
         clear H
         obtain ⟨Ao18, co18, eo18⟩ := Kd.R_slice HO_7.out
         subst eo18
         go_wp2
         go_meet
         case rel => exact ⟨_, (decide ((t237.length : Int) < (wrap64 (1 + (wrap64 (2 * (l0.length : Int))))))), (by first | rfl | (simp; done) | (simp [*]; done)), H', ⟨by have := HJ4.out; have := HK2.out; first | omega | exact Nat.le_refl _⟩, ⟨by (with_reducible repeat (first | apply Kd.R_alloc | apply Kd.R_drewN | apply Kd.R_drew)); exact HO_7.out⟩, ⟨by repeat (first | (with_reducible first | exact HB.out | apply below_alloc | apply pw_below_drewN | apply below_drew1) | exact HB.out)⟩⟩
       case rest =>
        clear HC15
        try clear c1
        try clear c2
        try clear p2
        try clear q2
        try clear hx2
        try clear p6
        try clear c7
        try clear c8
        try clear c9
        try clear c10
        try clear c11
        try clear c13
        try clear c13b0
        try clear c14
        try clear c14b0
        try clear c16
        try clear c16b0
        try clear hx240_0
        try clear p2
        try clear p240
        try clear q240
        obtain ⟨kq, x55_14, rfl, HA, HJ14, HO_7, HB⟩ := hcut
        cases kq with
        | zero => exact absurd HA.out (by simp [catchwordlaw07_DictShort.j2])
        | succ kj14 =>
         have H := HA.out
         clear HA
         simp only [catchwordlaw07_DictShort.j2] at H
         by_cases c19 : x55_14 = true
         ·subst c19
          have H1 : (some false) = some r := by rw [if_pos rfl] at H; exact H
          clear H
          have H := H1
          clear H1
          obtain rfl := Option.some.inj H
          go_wp2
          go_ret
          exact ⟨by first | rfl | (simp [errW_none, errW_some] <;> rfl) | (simp [*, errW_none, errW_some] <;> rfl), by repeat (first | (with_reducible first | exact HB.out | apply below_alloc | apply pw_below_drewN | apply below_drew1) | exact HB.out)⟩
         ·replace c19 := Bool.eq_false_iff.mpr c19
          subst c19
          have H1 : (if a1 < 0 then (some true) else (if a1 ≥ (t237.length : Int) then (some true) else (if 0 ≤ a1 then (if a1 ≤ (t237.length : Int) then ((dict_Unpack.f kj14 (t237.take (a1 : Int).toNat)).bind fun bt245 => (some (bt245.2 == 5))) else (none)) else (none)))) = some r := by rw [if_neg (show ¬ (false = true) by decide)] at H; exact H
          clear H
          have H := H1
          clear H1
          by_cases c20 : a1 < 0
          ·rw [if_pos c20] at H
           have c20b0 : decide (a1 < 0) = true := decide_eq_true c20
           clear c20
           obtain rfl := Option.some.inj H
           go_wp2
           go_ret
           exact ⟨by first | rfl | (simp [errW_none, errW_some] <;> rfl) | (simp [*, errW_none, errW_some] <;> rfl), by repeat (first | (with_reducible first | exact HB.out | apply below_alloc | apply pw_below_drewN | apply below_drew1) | exact HB.out)⟩
          ·rw [if_neg c20] at H
           have c20b0 : decide (a1 < 0) = false := decide_eq_false c20
           clear c20
           by_cases c21 : a1 ≥ (t237.length : Int)
           ·rw [if_pos c21] at H
            have c21b0 : decide ((t237.length : Int) ≤ a1) = true := decide_eq_true c21
            clear c21
            obtain rfl := Option.some.inj H
            obtain ⟨Ao22, co22, eo22⟩ := Kd.R_slice HO_7.out
            subst eo22
            go_wp2
            go_ret
            exact ⟨by first | rfl | (simp [errW_none, errW_some] <;> rfl) | (simp [*, errW_none, errW_some] <;> rfl), by repeat (first | (with_reducible first | exact HB.out | apply below_alloc | apply pw_below_drewN | apply below_drew1) | exact HB.out)⟩
           ·rw [if_neg c21] at H
            have c21b0 : decide ((t237.length : Int) ≤ a1) = false := decide_eq_false c21
            clear c21
            by_cases c23 : 0 ≤ a1
            ·rw [if_pos c23] at H
             have c23b0 := eq_true c23
             have c23b1 : decide (0 ≤ a1) = true := decide_eq_true c23
             clear c23
             by_cases c24 : a1 ≤ (t237.length : Int)
             ·rw [if_pos c24] at H
              have c24b0 := eq_true c24
              have c24b1 : decide (a1 ≤ (t237.length : Int)) = true := decide_eq_true c24
              clear c24
              obtain ⟨y241, hy241⟩ : ∃ y_ : List Int, y_ = (t237.take (a1 : Int).toNat) := ⟨_, rfl⟩
              replace H : ((dict_Unpack.f kj14 y241).bind fun bt245 => (some (bt245.2 == 5))) = some r := by first | (rw [hy241]; with_reducible exact H) | (have H2_ := (Option.bind_some _ _).symm.trans H; rw [hy241]; with_reducible exact H2_) | (have H2_ := (Option.bind_some _ _).symm.trans H; with_reducible exact H2_) | with_reducible exact H | (rw [hy241]; exact H) | exact H
              have Ny241 := Aside0.mk hy241
              clear hy241
              replace H := Option.bind_eq_some_iff.mp H
              obtain ⟨⟨t245, t246⟩, A250, H⟩ := H
              replace H : (some (t246 == 5)) = some r := H
              have A25 := Aside0.mk A250
              clear A250
              obtain rfl := Option.some.inj H
              obtain ⟨Ao26, co26, eo26⟩ := Kd.R_slice HO_7.out
              subst eo26
              have q27 : (a1 : Int) ≤ ((t237.length : Int) : Int) := of_decide_eq_true (by first | (with_reducible assumption) | assumption)
              obtain ⟨i027, hi027, _, hsz27, _⟩ := info_parts info5
              have hroom27 : t237.length ≤ co26 := (Kd.R_reads' HO_7.out).2.1
              have hC27 : Kd.C (Kd.int .u8) _ Ao26 t237.length t237 := (Kd.R_reads' HO_7.out).2.2
              have hcut27 := cut_to (P := Try.prog) 32 5 .i64 Try.underlying32 hi027 Ao26 t237.length co26 a1 (of_decide_eq_true (by first | (with_reducible assumption) | assumption)) q27 hroom27
              have hr27 := Kd.C_take (m := (a1 : Int).toNat) hC27 (by omega)
              have hy27 : y241.length = (a1 : Int).toNat := (by rw [Ny241.out, List.length_take]; omega)
              rw [← Ny241.out] at hr27
              rw [← hy27] at hcut27
              have HR244 := Aside0.mk hr27
              have HC244 := Aside0.mk (show y241.length ≤ co26 from by omega)
              clear hr27 hC27 hroom27 hi027 hsz27
              have KY27 := Aside0.mk hy27
              clear hy27
              have KL27 := Aside0.mk (show (a1 : Int).toNat ≤ t237.length from by omega)
              replace q27 := eq_true q27
              go_wp2_with (first | ((with_reducible refine gate_callee (f := 21) rfl ?_); refine goesL_ (some 68) rfl rfl Try.func21 (by kernel_rfl) rfl #[.slice Ao26 y241.length co26] rfl (by (try simp only [List.map_toArray, List.map_cons, List.map_nil]); first | done | rfl | (simp only [List.length_drop, List.length_take]; rfl)) ?_; (with_reducible refine (dict_Unpack.calls kj14 _ _ y241 t245 t246 _ ?side1 ?side2 A25.out).mono ?_); (case side1 => repeat (first | exact (by repeat (first | (with_reducible exact HR244.out) | (with_reducible refine Kd.C_alloc ?_ _) | (with_reducible refine Kd.C_drewN ?_ _) | (with_reducible refine Kd.C_drew ?_) | exact HR244.out)) | (with_reducible refine Kd.C_alloc ?_ _) | (with_reducible refine Kd.C_drewN ?_ _) | (with_reducible refine Kd.C_drew ?_))); (case side2 => exact HC244.out); rintro e w28 ⟨v247, rfl, ho0, hb⟩; refine ⟨_, rfl, ?_⟩; have n0_ := Aside0.mk (Kd.R_below (by (with_reducible repeat (first | apply Kd.R_alloc | apply Kd.R_drewN | apply Kd.R_drew)); exact HO_7.out) hb); have n1_ := Aside0.mk (Kd.R_lower ho0 (below_size (by repeat (first | (with_reducible first | exact HB.out | apply below_alloc | apply pw_below_drewN | apply below_drew1) | exact HB.out)))); have n2_ := Aside0.mk (Kd.C_below (by repeat (first | (with_reducible exact HR244.out) | (with_reducible refine Kd.C_alloc ?_ _) | (with_reducible refine Kd.C_drewN ?_ _) | (with_reducible refine Kd.C_drew ?_) | exact HR244.out)) hb); have n3_ := Aside0.mk (below_step (by repeat (first | (with_reducible first | exact HB.out | apply below_alloc | apply pw_below_drewN | apply below_drew1) | exact HB.out)) hb); clear HO_7; clear HR244; clear HB; have HO_7 := n0_; have HO248 := n1_; have HR244 := n2_; have HB := n3_; clear n0_ n1_ n2_ n3_; (try clear hb); (try clear hb2); (try clear hk); (try clear hi); (try clear ho0)))
              go_ret
              exact ⟨by first | rfl | (simp [errW_none, errW_some] <;> rfl) | (simp [*, errW_none, errW_some] <;> rfl), by repeat (first | (with_reducible first | exact HB.out | apply below_alloc | apply pw_below_drewN | apply below_drew1) | exact HB.out)⟩
             ·rw [if_neg c24] at H
              exact absurd H (by simp)
            ·rw [if_neg c23] at H
             exact absurd H (by simp)

/-- THE ONE PURE STATEMENT of catchwordlaw07_DictShort. -/
def catchwordlaw07_DictShort.Pure : Prop := ∀ (l0 : List ByteArray) (a1 : Int), (l0.length * 16 ≤ 140737488351232 ∧ ∀ y0 ∈ l0, y0.size ≤ 140737488351232) → (Lit.int .i64 a1).wf = true → ∃ k, catchwordlaw07_DictShort.f k l0 a1 = some true

end Go.Proofs.Ytamofikjjkpejaa.PDictShort
