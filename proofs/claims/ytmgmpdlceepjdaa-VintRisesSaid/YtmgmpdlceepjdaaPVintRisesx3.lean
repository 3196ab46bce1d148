-- LAID BY this session's own printer (wip/pr): Lean checks it
import Derived.Test.YtmgmpdlceepjdaaPVintRisesx0
import Derived.Test.YtmgmpdlceepjdaaPVintRisesx1
import Derived.Test.YtmgmpdlceepjdaaPVintRisesx2
namespace Go.Proofs.Ytmgmpdlceepjdaa.PVintRises
open Go.RowKit Go.Proofs.YtmgmpdlceepjdaaW.PrintWords Go.Proofs.YtmgmpdlceepjdaaW.PrintLast Go.Proofs.YtmgmpdlceepjdaaW.PrintMore
attribute [local go_sem] max2_int min2_int max_two min_two max_three min_three max_four min_four   -- for this text's walks alone
set_option linter.unusedVariables false
set_option linter.unusedSimpArgs false

/-! ### catchwordlaw01_VintRises: function 6 -/
mutual
def catchwordlaw01_VintRises.j0 : Nat → List Int → List Int → List Int → Int → Bool → Bool → Option (Bool)
  | 0, _, _, _, _, _, _ => none
  | k + 1, x0, x1, x2, x3, x9, x37 => if x37 = true then (some x9) else ((vint_Rise.f k x0).bind fun bt185 => (if bt185.2 = 0 then (if ([] : List Int).length + x1.length < 140737488355328 then ((some (([] : List Int) ++ x1 : List Int)).bind fun y189 => (if y189.length + bt185.1.length < 140737488355328 then ((some (y189 ++ bt185.1 : List Int)).bind fun y192 => (if y192.length + x2.length < 140737488355328 then ((some (y192 ++ x2 : List Int)).bind fun y195 => ((vint_Read.f k y195 (x1.length : Int)).bind fun bt198 => ((catchwordref01_Ints.f k bt198.1 x0).bind fun t203 => (if t203 = true then (if bt198.2.1 = (wrap64 ((x1.length : Int) + (bt185.1.length : Int))) then (catchwordlaw01_VintRises.j1 k x1 x3 bt185.1 y195 (bt198.2.2 != 0)) else (catchwordlaw01_VintRises.j1 k x1 x3 bt185.1 y195 true)) else (catchwordlaw01_VintRises.j1 k x1 x3 bt185.1 y195 true))))) else (none))) else (none))) else (none)) else (if bt185.2 = 1 then (some ((bt185.1.length : Int) == 0)) else (some false))))
def catchwordlaw01_VintRises.j1 : Nat → List Int → Int → List Int → List Int → Bool → Option (Bool)
  | 0, _, _, _, _, _ => none
  | k + 1, x1, x3, x10, x12, x84 => if x84 = true then (some false) else (if x3 < 0 then (some true) else (if x3 ≥ (x10.length : Int) then (some true) else (if 0 ≤ (wrap64 ((x1.length : Int) + x3)) then (if (wrap64 ((x1.length : Int) + x3)) ≤ (x12.length : Int) then ((vint_Read.f k (x12.take ((wrap64 ((x1.length : Int) + x3)) : Int).toNat) (x1.length : Int)).bind fun bt208 => (some (bt208.2.2 == 5))) else (none)) else (none))))
end
def catchwordlaw01_VintRises.f (k : Nat) (l0 : List Int) (l1 : List Int) (l2 : List Int) (a3 : Int) : Option (Bool) := (catchwordlaw01_awake.f k).bind fun t184 => (if t184 = true then (if (l0.length : Int) > 500 then (catchwordlaw01_VintRises.j0 k l0 l1 l2 a3 t184 true) else (if (l1.length : Int) > 500 then (catchwordlaw01_VintRises.j0 k l0 l1 l2 a3 t184 true) else (catchwordlaw01_VintRises.j0 k l0 l1 l2 a3 t184 (decide ((l2.length : Int) > 500))))) else (catchwordlaw01_VintRises.j0 k l0 l1 l2 a3 t184 true))
theorem catchwordlaw01_VintRises.mono_l : ∀ k, (∀ y0 y1 y2 y3 y4 y5, LeO (catchwordlaw01_VintRises.j0 k y0 y1 y2 y3 y4 y5) (catchwordlaw01_VintRises.j0 (k + 1) y0 y1 y2 y3 y4 y5)) ∧ (∀ y0 y1 y2 y3 y4, LeO (catchwordlaw01_VintRises.j1 k y0 y1 y2 y3 y4) (catchwordlaw01_VintRises.j1 (k + 1) y0 y1 y2 y3 y4))
  | 0 => ⟨fun _ _ _ _ _ _ r h => by simp [catchwordlaw01_VintRises.j0] at h, fun _ _ _ _ _ r h => by simp [catchwordlaw01_VintRises.j1] at h⟩
  | k + 1 => by
    obtain ⟨ih0, ih1⟩ := catchwordlaw01_VintRises.mono_l k
    refine ⟨?_, ?_⟩
    · intro y0 y1 y2 y3 y4 y5
      unfold catchwordlaw01_VintRises.j0
      repeat' first
      | (with_reducible exact ih0 _ _ _ _ _ _)
      | (with_reducible exact ih1 _ _ _ _ _)
      | (with_reducible exact catchwordlaw01_awake.mono _)
      | (with_reducible exact catchwordref01_Ints.mono _ _ _)
      | (with_reducible exact vint_Read.mono _ _ _)
      | (with_reducible exact vint_Rise.mono _ _)
      | (with_reducible exact LeO.refl _)
      | (with_reducible exact LeO.none _)
      | (with_reducible refine LeO.ite ?_ ?_)
      | (with_reducible refine LeO.bind ?_ (fun _ => ?_))
      | exact ih0 _ _ _ _ _ _
      | exact ih1 _ _ _ _ _
      | exact catchwordlaw01_awake.mono _
      | exact catchwordref01_Ints.mono _ _ _
      | exact vint_Read.mono _ _ _
      | exact vint_Rise.mono _ _
      | exact LeO.none _
      | refine LeO.ite ?_ ?_
      | refine LeO.bind ?_ (fun _ => ?_)
    · intro y0 y1 y2 y3 y4
      unfold catchwordlaw01_VintRises.j1
      repeat' first
      | (with_reducible exact ih0 _ _ _ _ _ _)
      | (with_reducible exact ih1 _ _ _ _ _)
      | (with_reducible exact catchwordlaw01_awake.mono _)
      | (with_reducible exact catchwordref01_Ints.mono _ _ _)
      | (with_reducible exact vint_Read.mono _ _ _)
      | (with_reducible exact vint_Rise.mono _ _)
      | (with_reducible exact LeO.refl _)
      | (with_reducible exact LeO.none _)
      | (with_reducible refine LeO.ite ?_ ?_)
      | (with_reducible refine LeO.bind ?_ (fun _ => ?_))
      | exact ih0 _ _ _ _ _ _
      | exact ih1 _ _ _ _ _
      | exact catchwordlaw01_awake.mono _
      | exact catchwordref01_Ints.mono _ _ _
      | exact vint_Read.mono _ _ _
      | exact vint_Rise.mono _ _
      | exact LeO.none _
      | refine LeO.ite ?_ ?_
      | refine LeO.bind ?_ (fun _ => ?_)
theorem catchwordlaw01_VintRises.mono : ∀ a0 a1 a2 a3 k, LeO (catchwordlaw01_VintRises.f k a0 a1 a2 a3) (catchwordlaw01_VintRises.f (k + 1) a0 a1 a2 a3) := by
  intro a0 a1 a2 a3 k
  obtain ⟨ih0, ih1⟩ := catchwordlaw01_VintRises.mono_l k
  unfold catchwordlaw01_VintRises.f
  repeat' first
      | (with_reducible exact ih0 _ _ _ _ _ _)
      | (with_reducible exact ih1 _ _ _ _ _)
      | (with_reducible exact catchwordlaw01_awake.mono _)
      | (with_reducible exact catchwordref01_Ints.mono _ _ _)
      | (with_reducible exact vint_Read.mono _ _ _)
      | (with_reducible exact vint_Rise.mono _ _)
      | (with_reducible exact LeO.refl _)
      | (with_reducible exact LeO.none _)
      | (with_reducible refine LeO.ite ?_ ?_)
      | (with_reducible refine LeO.bind ?_ (fun _ => ?_))
      | exact ih0 _ _ _ _ _ _
      | exact ih1 _ _ _ _ _
      | exact catchwordlaw01_awake.mono _
      | exact catchwordref01_Ints.mono _ _ _
      | exact vint_Read.mono _ _ _
      | exact vint_Rise.mono _ _
      | exact LeO.none _
      | refine LeO.ite ?_ ?_
      | refine LeO.bind ?_ (fun _ => ?_)
set_option maxHeartbeats 8000000 in
set_option maxRecDepth 100000 in
theorem catchwordlaw01_VintRises.calls (k : Nat) (A0 : Option Addr) (c0 : Nat) (l0 : List Int) (A1 : Option Addr) (c1 : Nat) (l1 : List Int) (A2 : Option Addr) (c2 : Nat) (l2 : List Int) (a3 : Int) (r : Bool) (w : World) (hr0 : Kd.C (Kd.int .i64) w A0 l0.length l0) (hc0 : l0.length ≤ c0) (hr1 : Kd.C (Kd.int .u8) w A1 l1.length l1) (hc1 : l1.length ≤ c1) (hr2 : Kd.C (Kd.int .u8) w A2 l2.length l2) (hc2 : l2.length ≤ c2) (h : catchwordlaw01_VintRises.f k l0 l1 l2 a3 = some r) :
    Calls Try.prog 6 #[.slice A0 l0.length c0, .slice A1 l1.length c1, .slice A2 l2.length c2, .int .i64 a3] w fun e w' => e = .returned (.bool r) ∧ Below w.heap.size w w' := by
  have HR0 := Aside0.mk hr0
  have HC0 := Aside0.mk hc0
  clear hr0 hc0
  have HR1 := Aside0.mk hr1
  have HC1 := Aside0.mk hc1
  clear hr1 hc1
  have HR2 := Aside0.mk hr2
  have HC2 := Aside0.mk hc2
  clear hr2 hc2
  have HB := Aside0.mk (Below.refl w.heap.size w)
  have H : ((catchwordlaw01_awake.f k).bind fun t184 => (if t184 = true then (if (l0.length : Int) > 500 then (catchwordlaw01_VintRises.j0 k l0 l1 l2 a3 t184 true) else (if (l1.length : Int) > 500 then (catchwordlaw01_VintRises.j0 k l0 l1 l2 a3 t184 true) else (catchwordlaw01_VintRises.j0 k l0 l1 l2 a3 t184 (decide ((l2.length : Int) > 500))))) else (catchwordlaw01_VintRises.j0 k l0 l1 l2 a3 t184 true))) = some r := h
  clear h
  replace H := Option.bind_eq_some_iff.mp H
  obtain ⟨t184, A50, H⟩ := H
  replace H : (if t184 = true then (if (l0.length : Int) > 500 then (catchwordlaw01_VintRises.j0 k l0 l1 l2 a3 t184 true) else (if (l1.length : Int) > 500 then (catchwordlaw01_VintRises.j0 k l0 l1 l2 a3 t184 true) else (catchwordlaw01_VintRises.j0 k l0 l1 l2 a3 t184 (decide ((l2.length : Int) > 500))))) else (catchwordlaw01_VintRises.j0 k l0 l1 l2 a3 t184 true)) = some r := H
  have A5 := Aside0.mk A50
  clear A50
  have HC6 := Aside0.mk H
  clear H
  go_enter Try.func6, Try.ntmps6
  go_upto_region 2 with (first | ((with_reducible refine gate_callee (f := 9) rfl ?_); refine goesL_ (some 20) rfl rfl Try.func9 (by kernel_rfl) rfl #[] rfl (by (try simp only [List.map_toArray, List.map_cons, List.map_nil]); first | done | rfl | (simp only [List.length_drop, List.length_take]; rfl)) ?_; (with_reducible refine (catchwordlaw01_awake.calls k  t184 _ A5.out).mono ?_); rintro e w7 ⟨rfl, hb⟩; refine ⟨_, rfl, ?_⟩; have n0_ := Aside0.mk (below_step (by repeat (first | (with_reducible first | exact HB.out | apply below_alloc | apply pw_below_drewN | apply below_drew1) | exact HB.out)) hb); clear HB; have HB := n0_; clear n0_; (try clear hb); (try clear hb2); (try clear hk); (try clear hi)))
  (try simp only [Act.put, List.setIfInBounds_toArray, List.set_cons_zero, List.set_cons_succ])
  go_cut [37] (fun v37 wc => ∃ (kq : Nat) (x37_5 : Bool), v37 = .bool x37_5 ∧ Aside0 (catchwordlaw01_VintRises.j0 kq l0 l1 l2 a3 t184 x37_5 = some r) ∧ Aside0 (kq ≤ k) ∧ Aside0 (Below w.heap.size w wc))
  case first =>
    have H := HC6.out
    clear HC6
    by_cases c8 : t184 = true
    · subst c8
      have H1 : (if (l0.length : Int) > 500 then (catchwordlaw01_VintRises.j0 k l0 l1 l2 a3 true true) else (if (l1.length : Int) > 500 then (catchwordlaw01_VintRises.j0 k l0 l1 l2 a3 true true) else (catchwordlaw01_VintRises.j0 k l0 l1 l2 a3 true (decide ((l2.length : Int) > 500))))) = some r := by rw [if_pos rfl] at H; exact H
      clear H
      have H := H1
      clear H1
      by_cases c9 : (l0.length : Int) > 500
      · rw [if_pos c9] at H
        have c9b0 : decide (500 < (l0.length : Int)) = true := decide_eq_true c9
        have c9b1 : decide (500 < l0.length) = true := decide_eq_true (by omega)
        clear c9
        (first | rw [c9b0] | (simp only [i64_w, i32_w]; rw [c9b0]) | skip)
        have H' := Aside0.mk H
        clear H
        go_wp2
        go_meet
        case rel => exact ⟨_, (true), (by first | rfl | (simp; done) | (simp [*]; done)), H', ⟨by first | omega | exact Nat.le_refl _⟩, ⟨by repeat (first | (with_reducible first | exact HB.out | apply below_alloc | apply pw_below_drewN | apply below_drew1) | exact HB.out)⟩⟩
      · rw [if_neg c9] at H
        have c9b0 : decide (500 < (l0.length : Int)) = false := decide_eq_false c9
        have c9b1 : decide (500 < l0.length) = false := decide_eq_false (by omega)
        clear c9
        (first | rw [c9b0] | (simp only [i64_w, i32_w]; rw [c9b0]) | skip)
        by_cases c10 : (l1.length : Int) > 500
        · rw [if_pos c10] at H
          have c10b0 : decide (500 < (l1.length : Int)) = true := decide_eq_true c10
          have c10b1 : decide (500 < l1.length) = true := decide_eq_true (by omega)
          clear c10
          have H' := Aside0.mk H
          clear H
          go_wp2
          go_meet
          case rel => exact ⟨_, (true), (by first | rfl | (simp; done) | (simp [*]; done)), H', ⟨by first | omega | exact Nat.le_refl _⟩, ⟨by repeat (first | (with_reducible first | exact HB.out | apply below_alloc | apply pw_below_drewN | apply below_drew1) | exact HB.out)⟩⟩
        · rw [if_neg c10] at H
          have c10b0 : decide (500 < (l1.length : Int)) = false := decide_eq_false c10
          have c10b1 : decide (500 < l1.length) = false := decide_eq_false (by omega)
          clear c10
          have H' := Aside0.mk H
          clear H
          go_wp2
          go_meet
          case rel => exact ⟨_, (decide ((l2.length : Int) > 500)), (by first | rfl | (simp; done) | (simp [*]; done)), H', ⟨by first | omega | exact Nat.le_refl _⟩, ⟨by repeat (first | (with_reducible first | exact HB.out | apply below_alloc | apply pw_below_drewN | apply below_drew1) | exact HB.out)⟩⟩
    · replace c8 := Bool.eq_false_iff.mpr c8
      subst c8
      have H1 : (catchwordlaw01_VintRises.j0 k l0 l1 l2 a3 false true) = some r := by rw [if_neg (show ¬ (false = true) by decide)] at H; exact H
      clear H
      have H := H1
      clear H1
      have H' := Aside0.mk H
      clear H
      go_wp2
      go_meet
      case rel => exact ⟨_, (true), (by first | rfl | (simp; done) | (simp [*]; done)), H', ⟨by first | omega | exact Nat.le_refl _⟩, ⟨by repeat (first | (with_reducible first | exact HB.out | apply below_alloc | apply pw_below_drewN | apply below_drew1) | exact HB.out)⟩⟩
  case rest =>
    clear HC6
    try clear c1
    try clear c2
    try clear p2
    try clear c6
    try clear c8
    try clear c9
    try clear c9b0
    try clear c9b1
    try clear c10
    try clear c10b0
    try clear c10b1
    obtain ⟨kq, x37_5, rfl, HA, HJ5, HB⟩ := hcut
    cases kq with
    | zero => exact absurd HA.out (by simp [catchwordlaw01_VintRises.j0])
    | succ kj5 =>
      have H := HA.out
      clear HA
      simp only [catchwordlaw01_VintRises.j0] at H
      by_cases c11 : x37_5 = true
      · subst c11
        have H1 : (some t184) = some r := by rw [if_pos rfl] at H; exact H
        clear H
        have H := H1
        clear H1
        obtain rfl := Option.some.inj H
        go_wp2
        go_ret
        exact ⟨by first | rfl | (simp [errW_none, errW_some] <;> rfl) | (simp [*, errW_none, errW_some] <;> rfl), by repeat (first | (with_reducible first | exact HB.out | apply below_alloc | apply pw_below_drewN | apply below_drew1) | exact HB.out)⟩
      · replace c11 := Bool.eq_false_iff.mpr c11
        subst c11
        have H1 : ((vint_Rise.f kj5 l0).bind fun bt185 => (if bt185.2 = 0 then (if ([] : List Int).length + l1.length < 140737488355328 then ((some (([] : List Int) ++ l1 : List Int)).bind fun y189 => (if y189.length + bt185.1.length < 140737488355328 then ((some (y189 ++ bt185.1 : List Int)).bind fun y192 => (if y192.length + l2.length < 140737488355328 then ((some (y192 ++ l2 : List Int)).bind fun y195 => ((vint_Read.f kj5 y195 (l1.length : Int)).bind fun bt198 => ((catchwordref01_Ints.f kj5 bt198.1 l0).bind fun t203 => (if t203 = true then (if bt198.2.1 = (wrap64 ((l1.length : Int) + (bt185.1.length : Int))) then (catchwordlaw01_VintRises.j1 kj5 l1 a3 bt185.1 y195 (bt198.2.2 != 0)) else (catchwordlaw01_VintRises.j1 kj5 l1 a3 bt185.1 y195 true)) else (catchwordlaw01_VintRises.j1 kj5 l1 a3 bt185.1 y195 true))))) else (none))) else (none))) else (none)) else (if bt185.2 = 1 then (some ((bt185.1.length : Int) == 0)) else (some false)))) = some r := by rw [if_neg (show ¬ (false = true) by decide)] at H; exact H
        clear H
        have H := H1
        clear H1
        replace H := Option.bind_eq_some_iff.mp H
        obtain ⟨⟨t185, t186⟩, A120, H⟩ := H
        replace H : (if t186 = 0 then (if ([] : List Int).length + l1.length < 140737488355328 then ((some (([] : List Int) ++ l1 : List Int)).bind fun y189 => (if y189.length + t185.length < 140737488355328 then ((some (y189 ++ t185 : List Int)).bind fun y192 => (if y192.length + l2.length < 140737488355328 then ((some (y192 ++ l2 : List Int)).bind fun y195 => ((vint_Read.f kj5 y195 (l1.length : Int)).bind fun bt198 => ((catchwordref01_Ints.f kj5 bt198.1 l0).bind fun t203 => (if t203 = true then (if bt198.2.1 = (wrap64 ((l1.length : Int) + (t185.length : Int))) then (catchwordlaw01_VintRises.j1 kj5 l1 a3 t185 y195 (bt198.2.2 != 0)) else (catchwordlaw01_VintRises.j1 kj5 l1 a3 t185 y195 true)) else (catchwordlaw01_VintRises.j1 kj5 l1 a3 t185 y195 true))))) else (none))) else (none))) else (none)) else (if t186 = 1 then (some ((t185.length : Int) == 0)) else (some false))) = some r := H
        have A12 := Aside0.mk A120
        clear A120
        by_cases c13 : t186 = 0
        · rw [if_pos c13] at H
          have c13b0 : (t186 == 0) = true := beq_iff_eq.mpr c13
          have c13b1 : (t186 != 0) = false := bne_eq_false_iff_eq.mpr c13
          clear c13
          by_cases c14 : ([] : List Int).length + l1.length < 140737488355328
          · rw [if_pos c14] at H
            have LMc14 := Aside0.mk c14
            clear c14
            obtain ⟨y189, hy189⟩ : ∃ y_ : List Int, y_ = (([] : List Int) ++ l1) := ⟨_, rfl⟩
            replace H : (if y189.length + t185.length < 140737488355328 then ((some (y189 ++ t185 : List Int)).bind fun y192 => (if y192.length + l2.length < 140737488355328 then ((some (y192 ++ l2 : List Int)).bind fun y195 => ((vint_Read.f kj5 y195 (l1.length : Int)).bind fun bt198 => ((catchwordref01_Ints.f kj5 bt198.1 l0).bind fun t203 => (if t203 = true then (if bt198.2.1 = (wrap64 ((l1.length : Int) + (t185.length : Int))) then (catchwordlaw01_VintRises.j1 kj5 l1 a3 t185 y195 (bt198.2.2 != 0)) else (catchwordlaw01_VintRises.j1 kj5 l1 a3 t185 y195 true)) else (catchwordlaw01_VintRises.j1 kj5 l1 a3 t185 y195 true))))) else (none))) else (none)) = some r := by first | (rw [hy189]; with_reducible exact H) | (have H2_ := (Option.bind_some _ _).symm.trans H; rw [hy189]; with_reducible exact H2_) | (have H2_ := (Option.bind_some _ _).symm.trans H; with_reducible exact H2_) | with_reducible exact H | (rw [hy189]; exact H) | exact H
            have Ny189 := Aside0.mk hy189
            clear hy189
            by_cases c15 : y189.length + t185.length < 140737488355328
            · rw [if_pos c15] at H
              have LMc15 := Aside0.mk c15
              clear c15
              obtain ⟨y192, hy192⟩ : ∃ y_ : List Int, y_ = (y189 ++ t185) := ⟨_, rfl⟩
              replace H : (if y192.length + l2.length < 140737488355328 then ((some (y192 ++ l2 : List Int)).bind fun y195 => ((vint_Read.f kj5 y195 (l1.length : Int)).bind fun bt198 => ((catchwordref01_Ints.f kj5 bt198.1 l0).bind fun t203 => (if t203 = true then (if bt198.2.1 = (wrap64 ((l1.length : Int) + (t185.length : Int))) then (catchwordlaw01_VintRises.j1 kj5 l1 a3 t185 y195 (bt198.2.2 != 0)) else (catchwordlaw01_VintRises.j1 kj5 l1 a3 t185 y195 true)) else (catchwordlaw01_VintRises.j1 kj5 l1 a3 t185 y195 true))))) else (none)) = some r := by first | (rw [hy192]; with_reducible exact H) | (have H2_ := (Option.bind_some _ _).symm.trans H; rw [hy192]; with_reducible exact H2_) | (have H2_ := (Option.bind_some _ _).symm.trans H; with_reducible exact H2_) | with_reducible exact H | (rw [hy192]; exact H) | exact H
              have Ny192 := Aside0.mk hy192
              clear hy192
              by_cases c16 : y192.length + l2.length < 140737488355328
              · rw [if_pos c16] at H
                have LMc16 := Aside0.mk c16
                clear c16
                obtain ⟨y195, hy195⟩ : ∃ y_ : List Int, y_ = (y192 ++ l2) := ⟨_, rfl⟩
                replace H : ((vint_Read.f kj5 y195 (l1.length : Int)).bind fun bt198 => ((catchwordref01_Ints.f kj5 bt198.1 l0).bind fun t203 => (if t203 = true then (if bt198.2.1 = (wrap64 ((l1.length : Int) + (t185.length : Int))) then (catchwordlaw01_VintRises.j1 kj5 l1 a3 t185 y195 (bt198.2.2 != 0)) else (catchwordlaw01_VintRises.j1 kj5 l1 a3 t185 y195 true)) else (catchwordlaw01_VintRises.j1 kj5 l1 a3 t185 y195 true)))) = some r := by first | (rw [hy195]; with_reducible exact H) | (have H2_ := (Option.bind_some _ _).symm.trans H; rw [hy195]; with_reducible exact H2_) | (have H2_ := (Option.bind_some _ _).symm.trans H; with_reducible exact H2_) | with_reducible exact H | (rw [hy195]; exact H) | exact H
                have Ny195 := Aside0.mk hy195
                clear hy195
                replace H := Option.bind_eq_some_iff.mp H
                obtain ⟨⟨t198, t199, t200⟩, A170, H⟩ := H
                replace H : ((catchwordref01_Ints.f kj5 t198 l0).bind fun t203 => (if t203 = true then (if t199 = (wrap64 ((l1.length : Int) + (t185.length : Int))) then (catchwordlaw01_VintRises.j1 kj5 l1 a3 t185 y195 (t200 != 0)) else (catchwordlaw01_VintRises.j1 kj5 l1 a3 t185 y195 true)) else (catchwordlaw01_VintRises.j1 kj5 l1 a3 t185 y195 true))) = some r := H
                have A17 := Aside0.mk A170
                clear A170
                replace H := Option.bind_eq_some_iff.mp H
                obtain ⟨t203, A180, H⟩ := H
                replace H : (if t203 = true then (if t199 = (wrap64 ((l1.length : Int) + (t185.length : Int))) then (catchwordlaw01_VintRises.j1 kj5 l1 a3 t185 y195 (t200 != 0)) else (catchwordlaw01_VintRises.j1 kj5 l1 a3 t185 y195 true)) else (catchwordlaw01_VintRises.j1 kj5 l1 a3 t185 y195 true)) = some r := H
                have A18 := Aside0.mk A180
                clear A180
                have HC19 := Aside0.mk H
                clear H
                go_upto_region 10 with (first | ((with_reducible refine gate_callee (f := 17) rfl ?_); refine goesL_ (some 41) rfl rfl Try.func17 (by kernel_rfl) rfl #[.slice A0 l0.length c0] rfl (by (try simp only [List.map_toArray, List.map_cons, List.map_nil]); first | done | rfl | (simp only [List.length_drop, List.length_take]; rfl)) ?_; (with_reducible refine (vint_Rise.calls kj5 _ _ l0 t185 t186 _ ?side1 ?side2 A12.out).mono ?_); (case side1 => repeat (first | exact (Kd.C_below HR0.out HB.out) | (with_reducible refine Kd.C_alloc ?_ _) | (with_reducible refine Kd.C_drewN ?_ _) | (with_reducible refine Kd.C_drew ?_))); (case side2 => exact HC0.out); rintro e w20 ⟨v187, rfl, ho0, hb⟩; refine ⟨_, rfl, ?_⟩; have n0_ := Aside0.mk (Kd.R_lower ho0 (below_size (by repeat (first | (with_reducible first | exact HB.out | apply below_alloc | apply pw_below_drewN | apply below_drew1) | exact HB.out)))); have n1_ := Aside0.mk (below_step (by repeat (first | (with_reducible first | exact HB.out | apply below_alloc | apply pw_below_drewN | apply below_drew1) | exact HB.out)) hb); clear HB; have HO188 := n0_; have HB := n1_; clear n0_ n1_; (try clear hb); (try clear hb2); (try clear hk); (try clear hi); (try clear ho0)) | ((with_reducible refine gate_builtin (b := .append) (xs := #[.const (.slice none 0 0), .tmp 53]) rfl ?_); (try (refine gate_guard (by rfl) ?_; dsimp only)); at_builtin; refine Kd.R_append_rows (Kd.int .u8) (w0 := w) w.heap.size rfl (.const (.slice none 0 0)) (.tmp 53) 22 5 (.int .u8 0) 1 rfl Try.underlying22 info5 rfl (by decide) (by omega) (.slice none 0 0) ([] : List Int) l1 _ _ _ (fun k_ => some k_ ≠ (v187 : Value).ownBlock) (fun _ => False) rfl rfl ?aO ?aR (fun _ _ h => h) (fun _ h => h.elim) ?aF ?aB ?aS ?aL ?_; (case aR => repeat (first | exact (Kd.C_below HR1.out HB.out) | (with_reducible refine Kd.C_alloc ?_ _) | (with_reducible refine Kd.C_drewN ?_ _) | (with_reducible refine Kd.C_drew ?_))); (case aB => exact (by repeat (first | (with_reducible first | exact HB.out | apply below_alloc | apply pw_below_drewN | apply below_drew1) | exact HB.out))); (case aF => exact (fun k_ hk => Kd.fresh' (Kd.R_lt (by (with_reducible repeat (first | apply Kd.R_alloc | apply Kd.R_drewN | apply Kd.R_drew)); exact HO188.out)) k_ hk)); (case aO => exact ((Kd.R_nil _ _ _ _ (fun k_ => some k_ ≠ (v187 : Value).ownBlock)))); (case aS => exact (below_size (by repeat (first | (with_reducible first | exact HB.out | apply below_alloc | apply pw_below_drewN | apply below_drew1) | exact HB.out)))); (case aL => have := LMc14.out; omega); intro v190 w21 ho hb hg hat; rw [← Ny189.out] at ho; have n0_ := Aside0.mk (Kd.R_after (Kd.R_apart_nil (by (with_reducible repeat (first | apply Kd.R_alloc | apply Kd.R_drewN | apply Kd.R_drew)); exact HO188.out)) hg hat); have n1_ := Aside0.mk (hb); have n2_ := Aside0.mk (ho); clear HO188; clear HB; have HO188 := n0_; have HB := n1_; have HO191 := n2_; clear n0_ n1_ n2_; clear ho hb hg hat; obtain ⟨Ao23, co23, eo23⟩ := Kd.R_slice HO188.out; subst eo23) | ((with_reducible refine gate_builtin (b := .append) (xs := #[.tmp 54, .tmp 55]) rfl ?_); (try (refine gate_guard (by rfl) ?_; dsimp only)); at_builtin; refine Kd.R_append_rows (Kd.int .u8) (w0 := w) w.heap.size rfl (.tmp 54) (.tmp 55) 22 5 (.int .u8 0) 1 rfl Try.underlying22 info5 rfl (by decide) (by omega) v190 y189 t185 _ _ _ (fun k_ => some k_ ≠ (.slice Ao23 t185.length co23 : Value).ownBlock) (fun _ => False) rfl rfl ?aO ?aR (fun _ _ h => h) (fun _ h => h.elim) ?aF ?aB ?aS ?aL ?_; (case aR => repeat (first | exact (Kd.R_reads' HO188.out).2.2 | (with_reducible refine Kd.C_alloc ?_ _) | (with_reducible refine Kd.C_drewN ?_ _) | (with_reducible refine Kd.C_drew ?_))); (case aB => exact (by repeat (first | (with_reducible first | exact HB.out | apply below_alloc | apply pw_below_drewN | apply below_drew1) | exact HB.out))); (case aF => exact (fun k_ hk => Kd.fresh' (Kd.R_lt (by (with_reducible repeat (first | apply Kd.R_alloc | apply Kd.R_drewN | apply Kd.R_drew)); exact HO188.out)) k_ hk)); (case aO => exact (by (with_reducible repeat (first | apply Kd.R_alloc | apply Kd.R_drewN | apply Kd.R_drew)); exact HO191.out)); (case aS => exact (below_size (by repeat (first | (with_reducible first | exact HB.out | apply below_alloc | apply pw_below_drewN | apply below_drew1) | exact HB.out)))); (case aL => have := LMc15.out; omega); intro v193 w22 ho hb hg hat; rw [← Ny192.out] at ho; have n0_ := Aside0.mk (Kd.R_after (ok := (fun _ => True)) (by (with_reducible repeat (first | apply Kd.R_alloc | apply Kd.R_drewN | apply Kd.R_drew)); exact HO188.out) hg hat); have n1_ := Aside0.mk (hb); have n2_ := Aside0.mk (ho); clear HO188; clear HB; clear HO191; have HO188 := n0_; have HB := n1_; have HO194 := n2_; clear n0_ n1_ n2_; clear ho hb hg hat) | ((with_reducible refine gate_builtin (b := .append) (xs := #[.tmp 56, .tmp 57]) rfl ?_); (try (refine gate_guard (by rfl) ?_; dsimp only)); at_builtin; refine Kd.R_append_rows (Kd.int .u8) (w0 := w) w.heap.size rfl (.tmp 56) (.tmp 57) 22 5 (.int .u8 0) 1 rfl Try.underlying22 info5 rfl (by decide) (by omega) v193 y192 l2 _ _ _ (fun k_ => some k_ ≠ (.slice Ao23 t185.length co23 : Value).ownBlock) (fun _ => False) rfl rfl ?aO ?aR (fun _ _ h => h) (fun _ h => h.elim) ?aF ?aB ?aS ?aL ?_; (case aR => repeat (first | exact (Kd.C_below HR2.out HB.out) | (with_reducible refine Kd.C_alloc ?_ _) | (with_reducible refine Kd.C_drewN ?_ _) | (with_reducible refine Kd.C_drew ?_))); (case aB => exact (by repeat (first | (with_reducible first | exact HB.out | apply below_alloc | apply pw_below_drewN | apply below_drew1) | exact HB.out))); (case aF => exact (fun k_ hk => Kd.fresh' (Kd.R_lt (by (with_reducible repeat (first | apply Kd.R_alloc | apply Kd.R_drewN | apply Kd.R_drew)); exact HO188.out)) k_ hk)); (case aO => exact (by (with_reducible repeat (first | apply Kd.R_alloc | apply Kd.R_drewN | apply Kd.R_drew)); exact HO194.out)); (case aS => exact (below_size (by repeat (first | (with_reducible first | exact HB.out | apply below_alloc | apply pw_below_drewN | apply below_drew1) | exact HB.out)))); (case aL => have := LMc16.out; omega); intro v196 w24 ho hb hg hat; rw [← Ny195.out] at ho; have n0_ := Aside0.mk (Kd.R_after (ok := (fun _ => True)) (by (with_reducible repeat (first | apply Kd.R_alloc | apply Kd.R_drewN | apply Kd.R_drew)); exact HO188.out) hg hat); have n1_ := Aside0.mk (hb); have n2_ := Aside0.mk (ho); clear HO188; clear HB; clear HO194; have HO188 := n0_; have HB := n1_; have HO197 := n2_; clear n0_ n1_ n2_; clear ho hb hg hat; obtain ⟨Ao25, co25, eo25⟩ := Kd.R_slice HO197.out; subst eo25) | ((with_reducible refine gate_callee (f := 15) rfl ?_); refine goesL_ (some 63) rfl rfl Try.func15 (by kernel_rfl) rfl #[.slice Ao25 y195.length co25, .int .i64 (l1.length : Int)] rfl (by (try simp only [List.map_toArray, List.map_cons, List.map_nil]); first | done | rfl | (simp only [List.length_drop, List.length_take]; rfl)) ?_; (with_reducible refine (vint_Read.calls kj5 _ _ y195 (l1.length : Int) t198 t199 t200 _ ?side1 ?side2 A17.out).mono ?_); (case side1 => repeat (first | exact (Kd.R_reads' HO197.out).2.2 | (with_reducible refine Kd.C_alloc ?_ _) | (with_reducible refine Kd.C_drewN ?_ _) | (with_reducible refine Kd.C_drew ?_))); (case side2 => exact (Kd.R_reads' HO197.out).2.1); rintro e w26 ⟨v201, rfl, ho0, hb⟩; refine ⟨_, rfl, ?_⟩; have n0_ := Aside0.mk (Kd.R_below (by (with_reducible repeat (first | apply Kd.R_alloc | apply Kd.R_drewN | apply Kd.R_drew)); exact HO188.out) hb); have n1_ := Aside0.mk (Kd.R_below (by (with_reducible repeat (first | apply Kd.R_alloc | apply Kd.R_drewN | apply Kd.R_drew)); exact HO197.out) hb); have n2_ := Aside0.mk (Kd.R_lower ho0 (below_size (by repeat (first | (with_reducible first | exact HB.out | apply below_alloc | apply pw_below_drewN | apply below_drew1) | exact HB.out)))); have n3_ := Aside0.mk (below_step (by repeat (first | (with_reducible first | exact HB.out | apply below_alloc | apply pw_below_drewN | apply below_drew1) | exact HB.out)) hb); clear HO188; clear HO197; clear HB; have HO188 := n0_; have HO197 := n1_; have HO202 := n2_; have HB := n3_; clear n0_ n1_ n2_ n3_; (try clear hb); (try clear hb2); (try clear hk); (try clear hi); (try clear ho0); obtain ⟨Ao27, co27, eo27⟩ := Kd.R_slice HO202.out; subst eo27) | ((with_reducible refine gate_callee (f := 19) rfl ?_); refine goesL_ (some 69) rfl rfl Try.func19 (by kernel_rfl) rfl #[.slice Ao27 t198.length co27, .slice A0 l0.length c0] rfl (by (try simp only [List.map_toArray, List.map_cons, List.map_nil]); first | done | rfl | (simp only [List.length_drop, List.length_take]; rfl)) ?_; (with_reducible refine (catchwordref01_Ints.calls kj5 _ _ t198 _ _ l0 t203 _ ?side1 ?side2 ?side3 ?side4 A18.out).mono ?_); (case side1 => repeat (first | exact (Kd.R_reads' HO202.out).2.2 | (with_reducible refine Kd.C_alloc ?_ _) | (with_reducible refine Kd.C_drewN ?_ _) | (with_reducible refine Kd.C_drew ?_))); (case side2 => exact (Kd.R_reads' HO202.out).2.1); (case side3 => repeat (first | exact (Kd.C_below HR0.out HB.out) | (with_reducible refine Kd.C_alloc ?_ _) | (with_reducible refine Kd.C_drewN ?_ _) | (with_reducible refine Kd.C_drew ?_))); (case side4 => exact HC0.out); rintro e w' ⟨rfl, ⟨nd, rfl⟩⟩; refine ⟨_, rfl, ?_⟩))
                (try simp only [Act.put, List.setIfInBounds_toArray, List.set_cons_zero, List.set_cons_succ])
                go_cut [84] (fun v84 wc => ∃ (kq : Nat) (x84_18 : Bool), v84 = .bool x84_18 ∧ Aside0 (catchwordlaw01_VintRises.j1 kq l1 a3 t185 y195 x84_18 = some r) ∧ Aside0 (kq ≤ kj5) ∧ Aside0 (Kd.R (Kd.int .u8) 5 wc w.heap.size (fun k_ => some k_ ≠ ((.slice Ao25 y195.length co25) : Value).ownBlock) (.slice Ao23 t185.length co23) t185) ∧ Aside0 (Kd.R (Kd.int .u8) 5 wc w.heap.size (fun k_ => some k_ ≠ ((.slice Ao23 t185.length co23) : Value).ownBlock) (.slice Ao25 y195.length co25) y195) ∧ Aside0 (Below w.heap.size w wc))
                case first =>
                  have H := HC19.out
                  clear HC19
                  by_cases c28 : t203 = true
                  · subst c28
                    have H1 : (if t199 = (wrap64 ((l1.length : Int) + (t185.length : Int))) then (catchwordlaw01_VintRises.j1 kj5 l1 a3 t185 y195 (t200 != 0)) else (catchwordlaw01_VintRises.j1 kj5 l1 a3 t185 y195 true)) = some r := by rw [if_pos rfl] at H; exact H
                    clear H
                    have H := H1
                    clear H1
                    by_cases c29 : t199 = (wrap64 ((l1.length : Int) + (t185.length : Int)))
                    · rw [if_pos c29] at H
                      have c29b0 : (t199 == (wrap64 ((l1.length : Int) + (t185.length : Int)))) = true := beq_iff_eq.mpr c29
                      have c29b1 : (t199 != (wrap64 ((l1.length : Int) + (t185.length : Int)))) = false := bne_eq_false_iff_eq.mpr c29
                      clear c29
                      (first | rw [c29b0] | (simp only [i64_w, i32_w]; rw [c29b0]) | skip)
                      have H' := Aside0.mk H
                      clear H
                      go_wp2
                      go_meet
                      case rel => exact ⟨_, ((t200 != 0)), (by first | rfl | (simp; done) | (simp [*]; done)), H', ⟨by have := HJ5.out; first | omega | exact Nat.le_refl _⟩, ⟨by (with_reducible repeat (first | apply Kd.R_alloc | apply Kd.R_drewN | apply Kd.R_drew)); exact Kd.R_mono HO188.out (fun _ hk => hk.2)⟩, ⟨by (with_reducible repeat (first | apply Kd.R_alloc | apply Kd.R_drewN | apply Kd.R_drew)); exact HO197.out⟩, ⟨by repeat (first | (with_reducible first | exact HB.out | apply below_alloc | apply pw_below_drewN | apply below_drew1) | exact HB.out)⟩⟩
                    · rw [if_neg c29] at H
                      have c29b0 : (t199 == (wrap64 ((l1.length : Int) + (t185.length : Int)))) = false := beq_eq_false_iff_ne.mpr c29
                      have c29b1 : (t199 != (wrap64 ((l1.length : Int) + (t185.length : Int)))) = true := bne_iff_ne.mpr c29
                      (first | rw [c29b0] | (simp only [i64_w, i32_w]; rw [c29b0]) | skip)
                      have H' := Aside0.mk H
                      clear H
                      go_wp2
                      go_meet
                      case rel => exact ⟨_, (true), (by first | rfl | (simp; done) | (simp [*]; done)), H', ⟨by have := HJ5.out; first | omega | exact Nat.le_refl _⟩, ⟨by (with_reducible repeat (first | apply Kd.R_alloc | apply Kd.R_drewN | apply Kd.R_drew)); exact Kd.R_mono HO188.out (fun _ hk => hk.2)⟩, ⟨by (with_reducible repeat (first | apply Kd.R_alloc | apply Kd.R_drewN | apply Kd.R_drew)); exact HO197.out⟩, ⟨by repeat (first | (with_reducible first | exact HB.out | apply below_alloc | apply pw_below_drewN | apply below_drew1) | exact HB.out)⟩⟩
                  · replace c28 := Bool.eq_false_iff.mpr c28
                    subst c28
                    have H1 : (catchwordlaw01_VintRises.j1 kj5 l1 a3 t185 y195 true) = some r := by rw [if_neg (show ¬ (false = true) by decide)] at H; exact H
                    clear H
                    have H := H1
                    clear H1
                    have H' := Aside0.mk H
                    clear H
                    go_wp2
                    go_meet
                    case rel => exact ⟨_, (true), (by first | rfl | (simp; done) | (simp [*]; done)), H', ⟨by have := HJ5.out; first | omega | exact Nat.le_refl _⟩, ⟨by (with_reducible repeat (first | apply Kd.R_alloc | apply Kd.R_drewN | apply Kd.R_drew)); exact Kd.R_mono HO188.out (fun _ hk => hk.2)⟩, ⟨by (with_reducible repeat (first | apply Kd.R_alloc | apply Kd.R_drewN | apply Kd.R_drew)); exact HO197.out⟩, ⟨by repeat (first | (with_reducible first | exact HB.out | apply below_alloc | apply pw_below_drewN | apply below_drew1) | exact HB.out)⟩⟩
                case rest =>
                  clear HC19
                  try clear c1
                  try clear c2
                  try clear p2
                  try clear c6
                  try clear p6
                  try clear c8
                  try clear c9
                  try clear c9b0
                  try clear c9b1
                  try clear c10
                  try clear c10b0
                  try clear c10b1
                  try clear c11
                  try clear c13
                  try clear c13b0
                  try clear c13b1
                  try clear c14
                  try clear c15
                  try clear c16
                  try clear c17
                  try clear c19
                  try clear c28
                  try clear c29
                  try clear c29b0
                  try clear c29b1
                  try clear p2
                  obtain ⟨kq, x84_18, rfl, HA, HJ18, HO_10, HO_12, HB⟩ := hcut
                  cases kq with
                  | zero => exact absurd HA.out (by simp [catchwordlaw01_VintRises.j1])
                  | succ kj18 =>
                    have H := HA.out
                    clear HA
                    simp only [catchwordlaw01_VintRises.j1] at H
                    by_cases c30 : x84_18 = true
                    · subst c30
                      have H1 : (some false) = some r := by rw [if_pos rfl] at H; exact H
                      clear H
                      have H := H1
                      clear H1
                      obtain rfl := Option.some.inj H
                      go_wp2
                      go_ret
                      exact ⟨by first | rfl | (simp [errW_none, errW_some] <;> rfl) | (simp [*, errW_none, errW_some] <;> rfl), by repeat (first | (with_reducible first | exact HB.out | apply below_alloc | apply pw_below_drewN | apply below_drew1) | exact HB.out)⟩
                    · replace c30 := Bool.eq_false_iff.mpr c30
                      subst c30
                      have H1 : (if a3 < 0 then (some true) else (if a3 ≥ (t185.length : Int) then (some true) else (if 0 ≤ (wrap64 ((l1.length : Int) + a3)) then (if (wrap64 ((l1.length : Int) + a3)) ≤ (y195.length : Int) then ((vint_Read.f kj18 (y195.take ((wrap64 ((l1.length : Int) + a3)) : Int).toNat) (l1.length : Int)).bind fun bt208 => (some (bt208.2.2 == 5))) else (none)) else (none)))) = some r := by rw [if_neg (show ¬ (false = true) by decide)] at H; exact H
                      clear H
                      have H := H1
                      clear H1
                      by_cases c31 : a3 < 0
                      · rw [if_pos c31] at H
                        have c31b0 : decide (a3 < 0) = true := decide_eq_true c31
                        clear c31
                        obtain rfl := Option.some.inj H
                        go_wp2
                        go_ret
                        exact ⟨by first | rfl | (simp [errW_none, errW_some] <;> rfl) | (simp [*, errW_none, errW_some] <;> rfl), by repeat (first | (with_reducible first | exact HB.out | apply below_alloc | apply pw_below_drewN | apply below_drew1) | exact HB.out)⟩
                      · rw [if_neg c31] at H
                        have c31b0 : decide (a3 < 0) = false := decide_eq_false c31
                        clear c31
                        by_cases c32 : a3 ≥ (t185.length : Int)
                        · rw [if_pos c32] at H
                          have c32b0 : decide ((t185.length : Int) ≤ a3) = true := decide_eq_true c32
                          clear c32
                          obtain rfl := Option.some.inj H
                          go_wp2
                          go_ret
                          exact ⟨by first | rfl | (simp [errW_none, errW_some] <;> rfl) | (simp [*, errW_none, errW_some] <;> rfl), by repeat (first | (with_reducible first | exact HB.out | apply below_alloc | apply pw_below_drewN | apply below_drew1) | exact HB.out)⟩
                        · rw [if_neg c32] at H
                          have c32b0 : decide ((t185.length : Int) ≤ a3) = false := decide_eq_false c32
                          clear c32
                          obtain ⟨ji33, hji33⟩ : ∃ j_ : Int, (wrap64 ((l1.length : Int) + a3)) = j_ := ⟨_, rfl⟩
                          replace H : (if 0 ≤ (ji33) then (if (ji33) ≤ (y195.length : Int) then ((vint_Read.f kj18 (y195.take ((ji33) : Int).toNat) (l1.length : Int)).bind fun bt208 => (some (bt208.2.2 == 5))) else (none)) else (none)) = some r := by first | (rw [hji33] at H; exact H) | (simp only [hji33] at H ⊢; exact H)
                          have hji33w : (IntKind.i64.wrap ((l1.length : Int) + a3)) = ji33 := (i64_w _).trans hji33
                          by_cases c34 : 0 ≤ (ji33)
                          · rw [if_pos c34] at H
                            have c34b0 := eq_true c34
                            have c34b1 : decide (0 ≤ (ji33)) = true := decide_eq_true c34
                            clear c34
                            by_cases c35 : (ji33) ≤ (y195.length : Int)
                            · rw [if_pos c35] at H
                              have c35b0 := eq_true c35
                              have c35b1 : decide ((ji33) ≤ (y195.length : Int)) = true := decide_eq_true c35
                              clear c35
                              obtain ⟨y204, hy204⟩ : ∃ y_ : List Int, y_ = (y195.take ((ji33) : Int).toNat) := ⟨_, rfl⟩
                              replace H : ((vint_Read.f kj18 y204 (l1.length : Int)).bind fun bt208 => (some (bt208.2.2 == 5))) = some r := by first | (rw [hy204]; with_reducible exact H) | (have H2_ := (Option.bind_some _ _).symm.trans H; rw [hy204]; with_reducible exact H2_) | (have H2_ := (Option.bind_some _ _).symm.trans H; with_reducible exact H2_) | with_reducible exact H | (rw [hy204]; exact H) | exact H
                              have Ny204 := Aside0.mk hy204
                              clear hy204
                              replace H := Option.bind_eq_some_iff.mp H
                              obtain ⟨⟨t208, t209, t210⟩, A360, H⟩ := H
                              replace H : (some (t210 == 5)) = some r := H
                              have A36 := Aside0.mk A360
                              clear A360
                              obtain rfl := Option.some.inj H
                              have q37 : ((ji33) : Int) ≤ ((y195.length : Int) : Int) := of_decide_eq_true (by first | (with_reducible assumption) | assumption)
                              obtain ⟨i037, hi037, _, hsz37, _⟩ := info_parts info5
                              have hroom37 : y195.length ≤ co25 := (Kd.R_reads' HO_12.out).2.1
                              have hC37 : Kd.C (Kd.int .u8) _ Ao25 y195.length y195 := (Kd.R_reads' HO_12.out).2.2
                              have hcut37 := cut_to (P := Try.prog) 22 5 .i64 Try.underlying22 hi037 Ao25 y195.length co25 (ji33) (of_decide_eq_true (by first | (with_reducible assumption) | assumption)) q37 hroom37
                              have hr37 := Kd.C_take (m := ((ji33) : Int).toNat) hC37 (by omega)
                              have hy37 : y204.length = ((ji33) : Int).toNat := (by rw [Ny204.out, List.length_take]; omega)
                              rw [← Ny204.out] at hr37
                              rw [← hy37] at hcut37
                              have HR207 := Aside0.mk hr37
                              have HC207 := Aside0.mk (show y204.length ≤ co25 from by omega)
                              clear hr37 hC37 hroom37 hi037 hsz37
                              have KY37 := Aside0.mk hy37
                              clear hy37
                              have KL37 := Aside0.mk (show ((ji33) : Int).toNat ≤ y195.length from by omega)
                              replace q37 := eq_true q37
                              go_wp2_with (first | ((with_reducible refine gate_callee (f := 15) rfl ?_); refine goesL_ (some 102) rfl rfl Try.func15 (by kernel_rfl) rfl #[.slice Ao25 y204.length co25, .int .i64 (l1.length : Int)] rfl (by (try simp only [List.map_toArray, List.map_cons, List.map_nil]); first | done | rfl | (simp only [List.length_drop, List.length_take]; rfl)) ?_; (with_reducible refine (vint_Read.calls kj18 _ _ y204 (l1.length : Int) t208 t209 t210 _ ?side1 ?side2 A36.out).mono ?_); (case side1 => repeat (first | exact (by repeat (first | (with_reducible exact HR207.out) | (with_reducible refine Kd.C_alloc ?_ _) | (with_reducible refine Kd.C_drewN ?_ _) | (with_reducible refine Kd.C_drew ?_) | exact HR207.out)) | (with_reducible refine Kd.C_alloc ?_ _) | (with_reducible refine Kd.C_drewN ?_ _) | (with_reducible refine Kd.C_drew ?_))); (case side2 => exact HC207.out); rintro e w38 ⟨v211, rfl, ho0, hb⟩; refine ⟨_, rfl, ?_⟩; have n0_ := Aside0.mk (Kd.R_below (by (with_reducible repeat (first | apply Kd.R_alloc | apply Kd.R_drewN | apply Kd.R_drew)); exact HO_10.out) hb); have n1_ := Aside0.mk (Kd.R_below (by (with_reducible repeat (first | apply Kd.R_alloc | apply Kd.R_drewN | apply Kd.R_drew)); exact HO_12.out) hb); have n2_ := Aside0.mk (Kd.R_lower ho0 (below_size (by repeat (first | (with_reducible first | exact HB.out | apply below_alloc | apply pw_below_drewN | apply below_drew1) | exact HB.out)))); have n3_ := Aside0.mk (Kd.C_below (by repeat (first | (with_reducible exact HR207.out) | (with_reducible refine Kd.C_alloc ?_ _) | (with_reducible refine Kd.C_drewN ?_ _) | (with_reducible refine Kd.C_drew ?_) | exact HR207.out)) hb); have n4_ := Aside0.mk (below_step (by repeat (first | (with_reducible first | exact HB.out | apply below_alloc | apply pw_below_drewN | apply below_drew1) | exact HB.out)) hb); clear HO_10; clear HO_12; clear HR207; clear HB; have HO_10 := n0_; have HO_12 := n1_; have HO212 := n2_; have HR207 := n3_; have HB := n4_; clear n0_ n1_ n2_ n3_ n4_; (try clear hb); (try clear hb2); (try clear hk); (try clear hi); (try clear ho0)))
                              go_ret
                              exact ⟨by first | rfl | (simp [errW_none, errW_some] <;> rfl) | (simp only [← hji33]; first | rfl | (simp [errW_none, errW_some] <;> rfl)) | (simp [*, errW_none, errW_some] <;> rfl), by repeat (first | (with_reducible first | exact HB.out | apply below_alloc | apply pw_below_drewN | apply below_drew1) | exact HB.out)⟩
                            · rw [if_neg c35] at H
                              exact absurd H (by simp)
                          · rw [if_neg c34] at H
                            exact absurd H (by simp)
              · rw [if_neg c16] at H
                exact absurd H (by simp)
            · rw [if_neg c15] at H
              exact absurd H (by simp)
          · rw [if_neg c14] at H
            exact absurd H (by simp)
        · rw [if_neg c13] at H
          have c13b0 : (t186 == 0) = false := beq_eq_false_iff_ne.mpr c13
          have c13b1 : (t186 != 0) = true := bne_iff_ne.mpr c13
          by_cases c39 : t186 = 1
          · rw [if_pos c39] at H
            have c39b0 : (t186 == 1) = true := beq_iff_eq.mpr c39
            have c39b1 : (t186 != 1) = false := bne_eq_false_iff_eq.mpr c39
            clear c39
            obtain rfl := Option.some.inj H
            go_wp2_with (first | ((with_reducible refine gate_callee (f := 17) rfl ?_); refine goesL_ (some 41) rfl rfl Try.func17 (by kernel_rfl) rfl #[.slice A0 l0.length c0] rfl (by (try simp only [List.map_toArray, List.map_cons, List.map_nil]); first | done | rfl | (simp only [List.length_drop, List.length_take]; rfl)) ?_; (with_reducible refine (vint_Rise.calls kj5 _ _ l0 t185 t186 _ ?side1 ?side2 A12.out).mono ?_); (case side1 => repeat (first | exact (Kd.C_below HR0.out HB.out) | (with_reducible refine Kd.C_alloc ?_ _) | (with_reducible refine Kd.C_drewN ?_ _) | (with_reducible refine Kd.C_drew ?_))); (case side2 => exact HC0.out); rintro e w40 ⟨v187, rfl, ho0, hb⟩; refine ⟨_, rfl, ?_⟩; have n0_ := Aside0.mk (Kd.R_lower ho0 (below_size (by repeat (first | (with_reducible first | exact HB.out | apply below_alloc | apply pw_below_drewN | apply below_drew1) | exact HB.out)))); have n1_ := Aside0.mk (below_step (by repeat (first | (with_reducible first | exact HB.out | apply below_alloc | apply pw_below_drewN | apply below_drew1) | exact HB.out)) hb); clear HB; have HO188 := n0_; have HB := n1_; clear n0_ n1_; (try clear hb); (try clear hb2); (try clear hk); (try clear hi); (try clear ho0); obtain ⟨Ao41, co41, eo41⟩ := Kd.R_slice HO188.out; subst eo41))
            go_ret
            exact ⟨by first | rfl | (simp [errW_none, errW_some] <;> rfl) | (simp [*, errW_none, errW_some] <;> rfl), by repeat (first | (with_reducible first | exact HB.out | apply below_alloc | apply pw_below_drewN | apply below_drew1) | exact HB.out)⟩
          · rw [if_neg c39] at H
            have c39b0 : (t186 == 1) = false := beq_eq_false_iff_ne.mpr c39
            have c39b1 : (t186 != 1) = true := bne_iff_ne.mpr c39
            obtain rfl := Option.some.inj H
            go_wp2_with (first | ((with_reducible refine gate_callee (f := 17) rfl ?_); refine goesL_ (some 41) rfl rfl Try.func17 (by kernel_rfl) rfl #[.slice A0 l0.length c0] rfl (by (try simp only [List.map_toArray, List.map_cons, List.map_nil]); first | done | rfl | (simp only [List.length_drop, List.length_take]; rfl)) ?_; (with_reducible refine (vint_Rise.calls kj5 _ _ l0 t185 t186 _ ?side1 ?side2 A12.out).mono ?_); (case side1 => repeat (first | exact (Kd.C_below HR0.out HB.out) | (with_reducible refine Kd.C_alloc ?_ _) | (with_reducible refine Kd.C_drewN ?_ _) | (with_reducible refine Kd.C_drew ?_))); (case side2 => exact HC0.out); rintro e w42 ⟨v187, rfl, ho0, hb⟩; refine ⟨_, rfl, ?_⟩; have n0_ := Aside0.mk (Kd.R_lower ho0 (below_size (by repeat (first | (with_reducible first | exact HB.out | apply below_alloc | apply pw_below_drewN | apply below_drew1) | exact HB.out)))); have n1_ := Aside0.mk (below_step (by repeat (first | (with_reducible first | exact HB.out | apply below_alloc | apply pw_below_drewN | apply below_drew1) | exact HB.out)) hb); clear HB; have HO188 := n0_; have HB := n1_; clear n0_ n1_; (try clear hb); (try clear hb2); (try clear hk); (try clear hi); (try clear ho0)))
            go_ret
            exact ⟨by first | rfl | (simp [errW_none, errW_some] <;> rfl) | (simp [*, errW_none, errW_some] <;> rfl), by repeat (first | (with_reducible first | exact HB.out | apply below_alloc | apply pw_below_drewN | apply below_drew1) | exact HB.out)⟩

/-- THE ONE PURE STATEMENT of catchwordlaw01_VintRises: yours. -/
def catchwordlaw01_VintRises.Pure : Prop := ∀ (l0 : List Int) (l1 : List Int) (l2 : List Int) (a3 : Int), l0.length ≤ maxLen → l0.length * 8 ≤ 140737488351232 → (∀ x ∈ l0, (Lit.int .i64 x).wf = true) → l1.length ≤ maxLen → l1.length * 1 ≤ 140737488351232 → (∀ x ∈ l1, (Lit.int .u8 x).wf = true) → l2.length ≤ maxLen → l2.length * 1 ≤ 140737488351232 → (∀ x ∈ l2, (Lit.int .u8 x).wf = true) → (Lit.int .i64 a3).wf = true → ∃ k, catchwordlaw01_VintRises.f k l0 l1 l2 a3 = some true
theorem catchwordlaw01_VintRises.walk (P : catchwordlaw01_VintRises.Pure) (a0 : Option Addr) (len0 cap0 : Nat) (z0 : List Int) (a1 : Option Addr) (len1 cap1 : Nat) (z1 : List Int) (a2 : Option Addr) (len2 cap2 : Nat) (z2 : List Int) (a3 : Int) (w : World) (w0 : (a0 = none ∧ len0 = 0 ∧ cap0 = 0 ∧ z0 = []) ∨ ∃ x, a0 = some x ∧ len0 ≤ cap0 ∧ cap0 ≤ maxLen ∧ z0.length = cap0 ∧ (∀ i, i < z0.length → w.cell? (x.add i) = some (.int .i64 (z0.getD i 0))) ∧ ∀ n ∈ z0, (Lit.int .i64 n).wf = true) (y0 : len0 * 8 ≤ 140737488351232) (w1 : (a1 = none ∧ len1 = 0 ∧ cap1 = 0 ∧ z1 = []) ∨ ∃ x, a1 = some x ∧ len1 ≤ cap1 ∧ cap1 ≤ maxLen ∧ z1.length = cap1 ∧ (∀ i, i < z1.length → w.cell? (x.add i) = some (.int .u8 (z1.getD i 0))) ∧ ∀ n ∈ z1, (Lit.int .u8 n).wf = true) (y1 : len1 * 1 ≤ 140737488351232) (w2 : (a2 = none ∧ len2 = 0 ∧ cap2 = 0 ∧ z2 = []) ∨ ∃ x, a2 = some x ∧ len2 ≤ cap2 ∧ cap2 ≤ maxLen ∧ z2.length = cap2 ∧ (∀ i, i < z2.length → w.cell? (x.add i) = some (.int .u8 (z2.getD i 0))) ∧ ∀ n ∈ z2, (Lit.int .u8 n).wf = true) (y2 : len2 * 1 ≤ 140737488351232) (w3 : (Lit.int .i64 a3).wf = true) :
    Calls Try.prog 6 #[.slice a0 len0 cap0, .slice a1 len1 cap1, .slice a2 len2 cap2, .int .i64 a3] w fun e w' => e = .returned (.bool true) ∧ Below w.heap.size w w' := by
  obtain ⟨l0, rfl, hr0, hm0, hw0, hc0⟩ := ReadsInt.ofRowC w0
  obtain ⟨l1, rfl, hr1, hm1, hw1, hc1⟩ := ReadsInt.ofRowC w1
  obtain ⟨l2, rfl, hr2, hm2, hw2, hc2⟩ := ReadsInt.ofRowC w2
  obtain ⟨k, h⟩ := P l0 l1 l2 a3 hm0 y0 hw0 hm1 y1 hw1 hm2 y2 hw2 w3
  refine (catchwordlaw01_VintRises.calls k _ _ l0 _ _ l1 _ _ l2 a3 true w (Kd.C_of_reads (d := (0 : Int)) (h1 := fun _ => rfl) hr0) hc0 (Kd.C_of_reads (d := (0 : Int)) (h1 := fun _ => rfl) hr1) hc1 (Kd.C_of_reads (d := (0 : Int)) (h1 := fun _ => rfl) hr2) hc2 h).mono ?_
  rintro e w' ⟨rfl, hd⟩
  exact ⟨rfl, hd⟩

end Go.Proofs.Ytmgmpdlceepjdaa.PVintRises
